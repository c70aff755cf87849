/- A part of the proof of statements of this seat: lemmas, no statement of their own. -/
import Derived.Test.YtidhlagdagbggaaQApp
import Derived.Test.YtidhlagdagbggaaQDraw
/- Conversions between strings and slices of bytes. -/
namespace Go.Q
set_option linter.unusedVariables false
set_option linter.unusedSimpArgs false
section
variable {P : Program} {T : Tab} {e : Env} {h : Heap} {o : Oper}
/-- a literal's row of bytes is marked: the place behind its last cell is frozen -/
theorem h_mark (hT : TOk P T) {t el b n m k n1 b1 n2 b2 : Nat} {z1 z2 : List Value} {x : Operand} {cs : List Value} {h0 h1 : Heap} (ho : o.op = .convert t t x) (hx : evO e x = some (.slice (some ⟨b, 0, none⟩) n m))
    (ht : tlk T t = some ⟨.slice el, n1, b1, z1⟩) (hel : tlk T el = some ⟨.int .u8, n2, b2, z2⟩) (hb : b = h0.size) (he : h = h0.push (.cells cs.toArray el)) (hl : k = cs.length) (he' : h1 = h0.push (.cells cs.toArray el (k, k + 1))) :
    Yh P e h o (.slice (some ⟨b, 0, none⟩) n m) h1 := by
  intro ρ w hA hw
  subst hb; subst he; subst hl; subst he'
  obtain ⟨td, k1, k3⟩ := tk_spec hT ht
  rw [ty_slice k3] at k1
  obtain ⟨td2, l1, l3⟩ := tk_spec hT hel
  rw [ty_int l3] at l1
  have hs : w.shape? h0.size = some (el, cs.length) := by
    unfold World.shape?
    rw [hw]
    simp
  refine ⟨w.freeze ⟨h0.size, cs.length, none⟩ 1, ⟨rfl, rfl, rfl, ?_, fun _ => by first | exact Nat.le_refl _ | exact Nat.le_succ _⟩, .inl ?_⟩
  · unfold World.freeze
    rw [if_neg (by decide)]
    simp only [hw]
    apply Array.ext
    · simp
    · intro i h1 h2
      simp only [Array.getElem_modify, Array.getElem_push]
      by_cases hi : h0.size = i
      · subst hi; simp
      · have : i < h0.size := by simp at h1; omega
        simp [hi, this]
  · simp [execOp, ho, hA _ _ hx, convert, run_underlying k1, run_underlying l1, markStringish, hs]
theorem y_ixva (hT : TOk P T) {t el n : Nat} {x y : Operand} {cs : List Value} {k : IntKind} {ix : Int} {n1 b1 : Nat} {z1 : List Value} {i : TI} (ho : o.op = .index t x y) (hx : evO e x = some (.agg cs.toArray)) (hy : evO e y = some (.int k ix))
    (ht : tlk T t = some ⟨.array n el, n1, b1, z1⟩) (hi : tlk T el = some i) (hd : isA i.d = true) (h0 : 0 ≤ ix) (h1 : ix < n) : Yl P e h o (.agg ((cs.drop (ix.toNat * i.n)).take i.n).toArray) := by
  intro ρ w hA hw
  obtain ⟨td, k1, k3⟩ := tk_spec hT ht
  rw [ty_array k3] at k1
  simp [execOp, ho, hA _ _ hx, hA _ _ hy, Instr.index, asIntOf, run_underlying k1, h0, h1, part, run_isAgg (hT _ _ hi), hd, run_sizeOf' (hT _ _ hi)]
theorem y_ixvi (hT : TOk P T) {t el n : Nat} {x y : Operand} {xs : List Int} {kk k : IntKind} {ix : Int} {n1 b1 : Nat} {z1 : List Value} {i : TI} (ho : o.op = .index t x y) (hx : evO e x = some (.agg (xs.map (Value.int kk)).toArray)) (hy : evO e y = some (.int k ix))
    (ht : tlk T t = some ⟨.array n el, n1, b1, z1⟩) (hi : tlk T el = some i) (hd : isA i.d = true) (h0 : 0 ≤ ix) (h1 : ix < n) : Yl P e h o (.agg (((xs.drop (ix.toNat * i.n)).take i.n).map (Value.int kk)).toArray) := by
  rw [List.map_take, List.map_drop]
  exact y_ixva hT ho hx hy ht hi hd h0 h1
theorem y_rem {t ty : Nat} {x y : Operand} {k : IntKind} {a b : Int} (ho : o.op = .binOp .rem t x y ty) (hx : evO e x = some (.int k a)) (hy : evO e y = some (.int k b)) (hb : b ≠ 0) : Yl P e h o (.int k (a.tmod b)) := by
  intro ρ w hA hw
  simp [execOp, ho, hA _ _ hx, hA _ _ hy, binOp, Op.intDiv, hb, run_eqGuard_ok]
theorem y_quo {t ty : Nat} {x y : Operand} {k : IntKind} {a b : Int} (ho : o.op = .binOp .quo t x y ty) (hx : evO e x = some (.int k a)) (hy : evO e y = some (.int k b)) (hb : b ≠ 0) : Yl P e h o (.int k (k.wrap (a.tdiv b))) := by
  intro ρ w hA hw
  simp [execOp, ho, hA _ _ hx, hA _ _ hy, binOp, Op.intDiv, hb, run_eqGuard_ok]
theorem y_shl {t ty : Nat} {x y : Operand} {k k' : IntKind} {a b : Int} (ho : o.op = .binOp .shl t x y ty) (hx : evO e x = some (.int k a)) (hy : evO e y = some (.int k' b)) (hb : 0 ≤ b) : Yl P e h o (.int k (shl k a b.toNat)) := by
  intro ρ w hA hw
  simp [execOp, ho, hA _ _ hx, hA _ _ hy, binOp_shl, Op.shift, shl, run_eqGuard_ok, show ¬ b < 0 from by omega]
theorem y_shr {t ty : Nat} {x y : Operand} {k k' : IntKind} {a b : Int} (ho : o.op = .binOp .shr t x y ty) (hx : evO e x = some (.int k a)) (hy : evO e y = some (.int k' b)) (hb : 0 ≤ b) : Yl P e h o (.int k (shr k a b.toNat)) := by
  intro ρ w hA hw
  simp [execOp, ho, hA _ _ hx, hA _ _ hy, binOp_shr, Op.shift, shr, run_eqGuard_ok, show ¬ b < 0 from by omega]
end
theorem one_ints (k : IntKind) (xs : List Int) : ∀ v ∈ xs.map (Value.int k), v.oneCell' = true := by
  intro v hv
  obtain ⟨i, _, rfl⟩ := List.mem_map.1 hv
  rfl
def bwAnd (k : IntKind) (a b : Int) : Int := k.wrap (BitVec.ofInt k.bits a &&& BitVec.ofInt k.bits b).toNat
def bwOr (k : IntKind) (a b : Int) : Int := k.wrap (BitVec.ofInt k.bits a ||| BitVec.ofInt k.bits b).toNat
def bwXor (k : IntKind) (a b : Int) : Int := k.wrap (BitVec.ofInt k.bits a ^^^ BitVec.ofInt k.bits b).toNat
def bwAndNot (k : IntKind) (a b : Int) : Int := k.wrap (BitVec.ofInt k.bits a &&& ~~~BitVec.ofInt k.bits b).toNat
end Go.Q
