/- A part of the proof of statements of this seat: lemmas, no statement of their own. -/
import Derived.Test.YtidhlagdagbggaaQApp
import Derived.ChangeKeysEq
/- Arrays: equality, make, copy, slices as arrays. -/
namespace Go.Q
set_option linter.unusedVariables false
set_option linter.unusedSimpArgs false
section
variable {P : Program} {T : Tab} {e : Env} {h : Heap} {o : Oper}
def ints (k : IntKind) (xs : List Int) : Value := .agg (xs.map (Value.int k)).toArray
theorem run_part_int (hT : TOk P T) {el : Nat} {i : TI} {k : IntKind} (hi : tlk T el = some i) (hd : isA i.d = false) (xs : List Int) {j : Nat} (hj : j < xs.length) (w : World) :
    (part el (xs.map (Value.int k)).toArray j).run P w = .ok (.int k (xs.getD j 0)) w := by
  simp [part, run_isAgg (hT _ _ hi), hd, hj]
theorem run_eqItems (hT : TOk P T) {el : Nat} {k : IntKind} {n1 b1 : Nat} {z1 : List Value} (hi : tlk T el = some ⟨.int k, n1, b1, z1⟩) (d : Nat) (xs ys : List Int) (w : World) : ∀ (js : List Nat), (∀ j ∈ js, j < xs.length ∧ j < ys.length) →
    (Op.eqItems (d + 1) el 1 (xs.map (Value.int k)).toArray (ys.map (Value.int k)).toArray js).run P w = .ok (js.all fun j => xs.getD j 0 == ys.getD j 0) w
  | [], _ => by simp [Op.eqItems]
  | j :: js, h => by
    have hj := h j (by simp)
    have ih := run_eqItems hT hi d xs ys w js (fun q hq => h q (by simp [hq]))
    obtain ⟨td, k1, k3⟩ := tk_spec hT hi
    rw [ty_int k3] at k1
    have p1 := run_part_int (P := P) (k := k) hT hi rfl xs hj.1 w
    have p2 := run_part_int (P := P) (k := k) hT hi rfl ys hj.2 w
    simp only [Op.eqItems, Nat.mul_one, Sem.run_bind, p1, p2, Result.andThen_ok, List.all_cons]
    have he : (Op.equalIn (d + 1) el (.int k (xs.getD j 0)) (.int k (ys.getD j 0))).run P w = .ok (xs.getD j 0 == ys.getD j 0) w := by
      simp only [Op.equalIn, Sem.run_bind, run_underlying k1, Result.andThen_ok, if_true, Sem.run_pure]
    rw [he]
    cases hb : (xs.getD j 0 == ys.getD j 0) with
    | false => simp
    | true => simp; simpa using ih
theorem all_getD (n : Nat) (xs ys : List Int) (hx : xs.length = n) (hy : ys.length = n) : ((List.range n).all fun j => xs.getD j 0 == ys.getD j 0) = (xs == ys) := by
  rw [Bool.eq_iff_iff]
  simp only [List.all_eq_true, List.mem_range, beq_iff_eq]
  constructor
  · intro h
    apply List.ext_getElem (by omega)
    intro i h1 h2
    have := h i (by omega)
    simpa [List.getD, h1, h2] using this
  · rintro rfl j _; rfl
theorem y_eqa (hT : TOk P T) {op : BinOp} {t el n : Nat} {k : IntKind} {n1 b1 n2 b2 : Nat} {z1 z2 : List Value} {x y : Operand} {yt : Nat} {xs ys : List Int} (hop : op = .eql ∨ op = .neq)
    (ho : o.op = .binOp op t x y yt) (hx : evO e x = some (.agg (xs.map (Value.int k)).toArray)) (hy : evO e y = some (.agg (ys.map (Value.int k)).toArray)) (ht : tlk T t = some ⟨.array n el, n1, b1, z1⟩) (hi : tlk T el = some ⟨.int k, n2, b2, z2⟩)
    (hn2 : Nat.beq n2 1 = true) (lx : xs.length = n) (ly : ys.length = n) (hg : P.eqGuardType P.depth t = false) : Yl P e h o (.bool (if op = .eql then (xs == ys) else !(xs == ys))) := by
  intro ρ w hA hw
  obtain ⟨td, k1, k3⟩ := tk_spec hT ht
  rw [ty_array k3] at k1
  obtain ⟨d', ti, _, i2, _, i4, _⟩ := tiOk_spec (hT _ _ hi)
  have hc1 : P.cellsOf el = 1 := by
    simp only [Program.cellsOf, i2, Option.map_some, Option.getD_some, i4]
    exact Nat.eq_of_beq_eq_true hn2
  have he : (Op.equal t (.agg (xs.map (Value.int k)).toArray) (.agg (ys.map (Value.int k)).toArray)).run P w = .ok (xs == ys) w := by
    unfold Op.equal Op.maxDepth
    rw [run_equalIn_array w 9999 _ _ k1 i2, hc1, run_eqItems hT hi 9998 xs ys w _ (fun j hj => by simp at hj; omega), all_getD n xs ys lx ly]
  have gd := fun op x y => run_eqGuard_agg (P := P) w op t x y (xs.map (Value.int k)).toArray (ys.map (Value.int k)).toArray hg
  rcases hop with rfl | rfl
  · simp [execOp, ho, hA _ _ hx, hA _ _ hy, gd, binOp, he]
  · simp [execOp, ho, hA _ _ hx, hA _ _ hy, gd, binOp, he]
theorem y_builda (hT : TOk P T) {t n el : Nat} {parts : List (Nat × Operand)} {n1 b1 : Nat} {z : List Value} {i : TI} {vs : List (Nat × Value)} {out : List Value} (ho : o.op = .build t parts.toArray) (ht : tlk T t = some ⟨.array n el, n1, b1, z⟩) (hi : tlk T el = some i)
    (hv : evp e parts = some vs) (hb : bld T (fun j => some (j * i.n, i.n)) z vs = some out) : Yl P e h o (.agg out.toArray) := by
  intro ρ w hA hw
  obtain ⟨zv, z1, z2, _⟩ := run_zero hT ht w
  obtain ⟨td, k1, k3⟩ := tk_spec hT ht
  rw [ty_array k3] at k1
  have hm := evp_map hA _ _ hv
  have hz : zv.cells = z.toArray := Array.toList_inj.1 (by simpa using z2)
  have hf := fill_bld T (fun j => some (j * i.n, i.n)) vs z out hb
  simp only [execOp, ho, Instr.build, Sem.run_bind, z1, Result.andThen_ok, run_underlying k1, run_sizeOf' (hT _ _ hi)]
  simp only [List.map_toArray, hm, hz]
  rw [hf]
  simp
/-- a slice taken as an array -/
theorem y_s2a (hT : TOk P T) {t n el len cap : Nat} {n1 b1 : Nat} {z1 : List Value} {x : Operand} {base : Option Addr} {a : Addr} (ho : o.op = .sliceToArrayPointer t x) (hx : evO e x = some (.slice base len cap)) (hb : base = some a)
    (ht : tlk T t = some ⟨.array n el, n1, b1, z1⟩) (hl : n ≤ len) : Yl P e h o (.pointer (some a)) := by
  subst hb
  intro ρ w hA hw
  obtain ⟨td, k1, k3⟩ := tk_spec hT ht
  rw [ty_array k3] at k1
  simp [execOp, ho, hA _ _ hx, Instr.arrayAt, run_underlying k1, show ¬ len < n from by omega]
theorem ixv_get {k : IntKind} {xs : List Int} {i : Nat} {v : Int} (h : xs[i]? = some v) : ((xs.map (Value.int k)).toArray).toList[i * 1]? = some (.int k v) := by
  simp [h]
theorem run_askRoom (n : Nat) (w : World) : (askRoom n).run P w = .ok () w := by
  unfold askRoom; split <;> simp [mark, Sem.run]
theorem h_mk (hT : TOk P T) {t el n1 b1 b : Nat} {z1 : List Value} {i : TI} {l c : Operand} {kl kc : IntKind} {L C : Int} {h' : Heap} (ho : o.op = .makeSlice t l c) (hl : evO e l = some (.int kl L)) (hc : evO e c = some (.int kc C))
    (ht : tlk T t = some ⟨.slice el, n1, b1, z1⟩) (hi : tlk T el = some i) (hzl : Nat.beq i.z.length i.n = true) (h0 : 0 ≤ L) (h1 : L ≤ C) (h2 : C * i.b ≤ 281474976710656) (h3 : C ≤ 9223372036854775807)
    (hbb : b = h.size) (he : h' = h.push (.cells (zrow i.z C.toNat).toArray el)) : Yh P e h o (.slice (some ⟨b, 0, none⟩) L.toNat C.toNat) h' := by
  intro ρ w hA hw
  subst hw; subst hbb; subst he
  obtain ⟨td, k1, k3⟩ := tk_spec hT ht
  rw [ty_slice k3] at k1
  obtain ⟨ti, i1, i2, i3, zv, i4, i5⟩ := tI hT hi
  have hz : zv.cells = i.z.toArray := Array.toList_inj.1 (by simpa using i5)
  have hzl' := Nat.eq_of_beq_eq_true hzl
  have wL : IntKind.i64.wrap L = L := by unfold IntKind.wrap; simp [IntKind.signed, IntKind.bits]; omega
  have wC : IntKind.i64.wrap C = C := by unfold IntKind.wrap; simp [IntKind.signed, IntKind.bits]; omega
  have hC : (C.toNat : Int) = C := Int.toNat_of_nonneg (by omega)
  have b1 : ¬ C < 0 := by omega
  have b2 : ¬ ((281474976710656 : Int) < (ti.bytes : Int) * C) := by rw [i3, Int.mul_comm]; omega
  have b3 : ¬ L < 0 := by omega
  have b4 : ¬ C < L := by omega
  refine ⟨{ w with heap := w.heap.push (.cells (zrow i.z C.toNat).toArray el) }, ⟨rfl, rfl, rfl, rfl, fun _ => by first | exact Nat.le_refl _ | exact Nat.le_succ _⟩, .inl ?_⟩
  have hzc : (Array.range (C.toNat * i.n)).map (fun j => i.z[j % i.z.length]?.getD default) = (zrow i.z C.toNat).toArray := by
    rw [← zeroCells_zrow]
    apply Array.toList_inj.1
    simp [Builtin.zeroCells, hzl']
  have mr := fun n (w : World) => run_askRoom (P := P) n w
  by_cases hn : C.toNat * i.n = 0
  · have hzr : zrow i.z C.toNat = [] := List.eq_nil_of_length_eq_zero (by simp [zrow, hzl', hn])
    simp [execOp, ho, hA _ _ hl, hA _ _ hc, Instr.makeSlice, run_underlying k1, asInt, asIntOf, typeInfo, i1, wL, wC, b1, b2, b3, b4, mr, sizeOf, i2, hn, newRow, newObj, Sem.run, hzr]
    congr 2
    apply Array.toList_inj.1
    simp
  · simp [execOp, ho, hA _ _ hl, hA _ _ hc, Instr.makeSlice, run_underlying k1, asInt, asIntOf, typeInfo, i1, wL, wC, b1, b2, b3, b4, mr, sizeOf, i2, hn, newRow, newObj, Sem.run, zeroValue, i4, hz, hzc]
/-! ### results that lie in cells -/
def RV (T : Tab) (e : Env) (h : Heap) : ResultVar → Value → Prop
  | .tmp t, v => lkO e t = some v
  | .cell a t, v => ∃ ad i, lkO e a = some (.pointer (some ad)) ∧ tlk T t = some i ∧ ((isA i.d = false ∧ cellH h ad = some v) ∨ (isA i.d = true ∧ ∃ vs, v = .agg vs.toArray ∧ vs.length = i.n ∧ CellsAt h ad vs))
def RVs (T : Tab) (e : Env) (h : Heap) : List ResultVar → List Value → Prop
  | [], [] => True
  | r :: rs, v :: vs => RV T e h r v ∧ RVs T e h rs vs
  | _, _ => False
theorem run_RVs (hT : TOk P T) {N : Nat} {a : Act} (fa : Fr N e a) {w : World} (hw : w.heap = h) (g : ResultVar → Sem Value) (hg : ∀ t, g (.tmp t) = pure (a.tmps.getD t undef))
    (hg2 : ∀ x t, g (.cell x t) = (do loadVar t (← asAddr (a.tmps.getD x undef)))) : ∀ (rs : List ResultVar) (vs : List Value), RVs T e h rs vs → (rs.mapM (m := Sem) g).run P w = .ok vs w
  | [], [], _ => by simp
  | [], _ :: _, k => k.elim
  | _ :: _, [], k => k.elim
  | r :: rs, v :: vs, ⟨k, ks⟩ => by
    have ih := run_RVs hT fa hw g hg hg2 rs vs ks
    have hr : (g r).run P w = .ok v w := by
      cases r with
      | tmp t =>
        have hv := fa.l t v k
        rw [hg, Array.getD_eq_getD_getElem?, hv]; rfl
      | cell x t =>
        obtain ⟨ad, i, k1, k2, k3⟩ := k
        have hv := fa.l x _ k1
        rw [hg2, Array.getD_eq_getD_getElem?, hv]
        subst hw
        rcases k3 with ⟨k3, k4⟩ | ⟨k3, us, rfl, k4, k5⟩
        · simp [asAddr, loadVar, run_isAgg (hT _ _ k2), k3, load, Sem.run, cell_eq, k4]
        · have := run_loadCells_list (P := P) (w := w) ad us k5
          rw [k4] at this
          simp [asAddr, loadVar, run_isAgg (hT _ _ k2), k3, run_sizeOf' (hT _ _ k2), this]
    simp [hr, ih]
theorem x_retc {D : Bool} (hT : TOk P T) {fn : Func} {w0 : World} {Φ : Value → Heap → Prop} {N : Nat} (rs : List ResultVar) (hrs : fn.results = rs.toArray) (vs : List Value) (hv : RVs T e h rs vs) (H : Φ (tup vs) h) :
    gex ⟨P, N, w0, D⟩ (bodyPost P fn (Rt D w0 Φ)) .ret e h := by
  intro a w fa fw
  refine ⟨fa.d, tup vs, ?_, _, rfl, ?_, ?_⟩
  · unfold results
    rw [hrs]
    simp only [List.mapM_toArray, Sem.run_bind, Sem.run_map]
    rw [run_RVs hT fa fw.heap _ (fun t => rfl) (fun x t => rfl) rs vs hv]
    match vs with
    | [] => simp [tup]
    | [v] => simp [tup]
    | v :: u :: r => simp [tup]
  · rw [fw.heap]; exact fw
  · rw [fw.heap]; exact H
theorem x_endc {D : Bool} (hT : TOk P T) {fn : Func} {w0 : World} {Φ : Value → Heap → Prop} {N : Nat} (rs : List ResultVar) (hrs : fn.results = rs.toArray) (vs : List Value) (hv : RVs T e h rs vs) (H : Φ (tup vs) h) :
    gex ⟨P, N, w0, D⟩ (bodyPost P fn (Rt D w0 Φ)) .normal e h := fun a w fa fw => x_retc hT rs hrs vs hv H a w fa fw
end
end Go.Q
