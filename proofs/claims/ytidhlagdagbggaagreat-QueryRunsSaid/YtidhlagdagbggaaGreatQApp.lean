/- A part of the proof of statements of this seat: lemmas, no statement of their own. -/
import Derived.Test.YtidhlagdagbggaaGreatQMem
/- buildSlice, append, slice expressions, make, copy; min, max. -/
namespace Go.Q
set_option linter.unusedVariables false
set_option linter.unusedSimpArgs false
/-- the cells of a slice's elements -/
def SlcAt (h : Heap) (s : Slc) (vs : List Value) : Prop := (s.a = none → vs = []) ∧ ∀ a, s.a = some a → CellsAt h a vs
/-- what an append may come to: in place, or in a new row -/
def App (E esz : Nat) (bytes : Nat) (z : List Value) (h : Heap) (s : Slc) (m : Nat) (news : List Value) (k : Slc → Heap → Prop) : Prop :=
  news.length = m * esz ∧ (∀ v ∈ news, v.oneCell' = true) ∧ (s.len + m) * bytes ≤ 140737488355328 ∧ s.len + m ≤ maxLen ∧
  (s.len + m ≤ s.cap → (s.a = none → news = []) ∧ (∀ a, s.a = some a → WrsAt h (a.add (s.len * esz)) news.length) ∧
    k ⟨s.a, s.len + m, s.cap⟩ (match s.a with | some a => setsH h (a.add (s.len * esz)) 0 news | none => h)) ∧
  (s.cap < s.len + m → ∃ olds, olds.length = s.len * esz ∧ SlcAt h s olds ∧ ∀ c, s.len + m ≤ c → c ≤ maxLen →
    k ⟨some ⟨h.size, 0, none⟩, s.len + m, c⟩ (h.push (.cells (olds.toArray ++ news.toArray ++ Builtin.zeroCells z.toArray (c - (s.len + m))) E)))
section
variable {P : Program} {T : Tab} {e : Env} {h : Heap} {o : Oper}
theorem run_firstCells {n sz : Nat} {s : Slc} {vs : List Value} (w : World) (hl : vs.length = n * sz) (hs : SlcAt w.heap s vs) (hn : s.a = none → s.len = 0 ∧ s.cap = 0 ∨ True) : (Builtin.firstCells sz n s.v).run P w = .ok vs.toArray w := by
  obtain ⟨a, len, cap⟩ := s
  cases a with
  | none =>
    have := hs.1 rfl
    subst this
    simp [Slc.v, Builtin.firstCells]
  | some a => exact run_firstCells_some (P := P) w sz n a len cap vs hl (hs.2 a rfl)
theorem slcAt_push {h h' : Heap} {b el n m : Nat} {vs : List Value} (hb : b = h.size) (he : h' = h.push (.cells vs.toArray el)) : SlcAt h' ⟨some ⟨b, 0, none⟩, n, m⟩ vs := by
  subst hb; subst he
  refine ⟨by simp, fun a ha j v hj => ?_⟩
  simp only [Option.some.injEq] at ha; subst ha
  have hadd : (⟨h.size, 0, none⟩ : Addr).add j = ⟨h.size, j, none⟩ := by unfold Addr.add; split <;> simp_all
  rw [hadd]
  simp [cellH, hj]
theorem tI {i : TI} {t : Nat} (hT : TOk P T) (ht : tlk T t = some i) : ∃ ti, P.info? t = some ti ∧ ti.size = i.n ∧ ti.bytes = i.b ∧ ∃ v, ti.zero = some v ∧ v.cells.toList = i.z := by
  obtain ⟨d, ti, _, h2, _, h4, h5, v, h6, h7, _⟩ := tiOk_spec (hT _ _ ht)
  exact ⟨ti, h2, h4, h5, v, h6, h7⟩
theorem a_app (hT : TOk P T) {t el n1 b1 : Nat} {z1 : List Value} {i : TI} {x y : Operand} {s r : Slc} {news : List Value} {k : Slc → Heap → Prop}
    (ho : o.op = .call { callee := .builtin .append, args := #[x, y], argTypes := #[t, t] }) (hx : evO e x = some s.v) (hy : evO e y = some r.v) (ht : tlk T t = some ⟨.slice el, n1, b1, z1⟩) (hi : tlk T el = some i)
    (hr : SlcAt h r news) (H : App el i.n i.b i.z h s r.len news k) : Ya P e h o fun v h' => ∃ s', v = s'.v ∧ k s' h' := by
  intro ρ w hA hw
  subst hw
  obtain ⟨td, k1, k3⟩ := tk_spec hT ht
  rw [ty_slice k3] at k1
  obtain ⟨ti, i1, i2, i3, zv, i4, i5⟩ := tI hT hi
  obtain ⟨g1, g2, g3, g4, g5, g6⟩ := H
  have hzv : zv.cells = i.z.toArray := Array.toList_inj.1 (by simpa using i5)
  have hlen : ∀ w, (Builtin.lenOf r.v).run P w = .ok r.len w := fun w => by simp [Builtin.lenOf]
  by_cases hroom : s.len + r.len ≤ s.cap
  · obtain ⟨c1, c2, c3⟩ := g5 hroom
    have hf := run_firstCells (P := P) (n := r.len) (sz := i.n) w g1 hr (fun _ => .inr trivial)
    obtain ⟨a, len, cap⟩ := s
    cases a with
    | none =>
      refine ⟨(⟨none, len + r.len, cap⟩ : Slc).v, w, WW.self w, ⟨⟨none, len + r.len, cap⟩, rfl, c3⟩, ?_⟩
      simp [execOp, ho, resolve, invoke, builtin, hA _ _ hx, hA _ _ hy, Builtin.append_, run_underlying k1, sizeOf, typeInfo, i1, i2, hlen]
      simp only at hroom
      simp only [Slc.v] at hf
      simp [Builtin.lenOf, hroom, hf]
    | some a =>
      obtain ⟨w', k5, k6⟩ := run_storeCells P (a.add (len * i.n)) news 0 w (by simpa [WrsAt] using c2 a rfl) g2
      refine ⟨(⟨some a, len + r.len, cap⟩ : Slc).v, w', ?_, ⟨⟨some a, len + r.len, cap⟩, rfl, ?_⟩, ?_⟩
      · exact ⟨k5.os, k5.tape, k5.output, rfl, k5.dr⟩
      · rw [k5.heap]; exact c3
      · simp only at hroom
        simp only [Slc.v] at hf
        simp [execOp, ho, resolve, invoke, builtin, hA _ _ hx, hA _ _ hy, Builtin.append_, run_underlying k1, sizeOf, typeInfo, i1, i2, hlen]
        simp [Builtin.lenOf, hroom, hf, k6]
  · obtain ⟨olds, o1, o2, o3⟩ := g6 (by omega)
    have hge := grownCap_ge w (s.len + r.len) s.cap el
    have hle := grownCap_le_maxLen w (s.len + r.len) s.cap el g4
    have hfo := run_firstCells (P := P) (n := s.len) (sz := i.n) w.drew (s := s) o1 o2 (fun _ => .inr trivial)
    have hfn := run_firstCells (P := P) (n := r.len) (sz := i.n) w.drew (s := r) g1 hr (fun _ => .inr trivial)
    refine ⟨(⟨some ⟨w.heap.size, 0, none⟩, s.len + r.len, grownCap w (s.len + r.len) s.cap el⟩ : Slc).v, w.drew.alloc (.cells (olds.toArray ++ news.toArray ++ Builtin.zeroCells i.z.toArray (grownCap w (s.len + r.len) s.cap el - (s.len + r.len))) el), ?_, ⟨⟨some ⟨w.heap.size, 0, none⟩, s.len + r.len, grownCap w (s.len + r.len) s.cap el⟩, rfl, ?_⟩, ?_⟩
    · exact ⟨rfl, rfl, rfl, rfl, fun _ => by first | exact Nat.le_refl _ | exact Nat.le_succ _⟩
    · exact o3 _ hge hle
    · have h63 : s.len + r.len ≤ 9223372036854775807 := by simp only [maxLen] at g4; omega
      have hfit := growslice_fits (need := s.len + r.len) (old := s.cap) (bytes := i.b) (by omega) g3
      have h63' : ¬ (9223372036854775807 < ((s.len : Int) + (r.len : Int))) := by omega
      have h48' : ¬ (281474976710656 < Builtin.nextslicecap (s.len + r.len) s.cap * i.b) := by omega
      simp [execOp, ho, resolve, invoke, builtin, hA _ _ hx, hA _ _ hy, Builtin.append_, run_underlying k1, sizeOf, typeInfo, zeroValue, i1, i2, i3, i4, Builtin.lenOf, hroom, h63', h48', Question.forced, newRow, grownCap]
      simp [hfo, hfn]
      rw [hzv]
      congr 2
      apply Array.ext'
      simp
theorem h_sts (hT : TOk P T) {t : Nat} {x y : Operand} {a : Addr} {vs : List Value} {i : TI} (ho : o.op = .store t x y) (hx : evO e x = some (.pointer (some a))) (hy : evO e y = some (.agg vs.toArray)) (ht : tlk T t = some i) (hn : i.n = vs.length) (hv : ∀ v ∈ vs, v.oneCell' = true) {h' : Heap} (hc : WrsAt h a i.n) (he : h' = setsH h a 0 vs) : Yh P e h o undef h' := by
  intro ρ w hA hw
  subst hw; subst he
  rw [hn] at hc
  obtain ⟨w', k1, k2⟩ := run_storeCells P a vs 0 w (by simpa [WrsAt] using hc) hv
  refine ⟨w', k1, .inr ⟨?_, rfl⟩⟩
  simp [execOp, ho, hA _ _ hx, hA _ _ hy, Instr.storeAt, Instr.sureAddr, storeVar, Value.cells, run_sizeOf' (hT _ _ ht), hn, k2]
/-! ### slice expressions -/
def subS (s : Slc) (esz l h m : Nat) : Slc := ⟨if m = l then s.a else s.a.map (·.add (l * esz)), h - l, m - l⟩
def evB (e : Env) (d : Int) : Option Operand → Option Int
  | none => some d
  | some x => match evO e x with | some (.int _ n) => some n | _ => none
theorem run_bound {e : Env} {ρ : Operand → Value} (hA : Agr e ρ) {x : Operand} {n : Int} (h : evB e 0 (some x) = some n) {y : Nat} {c : BoundsCode} (h0 : 0 ≤ n) (h1 : n ≤ y) (w : World) : (Instr.sliceBound (ρ x) y c).run P w = .ok n.toNat w := by
  simp only [evB] at h
  split at h
  · rename_i hv
    simp only [Option.some.injEq] at h; subst h
    simp [Instr.sliceBound, hA _ _ hv, asIntOf, h0, h1]
  · cases h
theorem y_sl (hT : TOk P T) {t el n1 b1 : Nat} {z1 : List Value} {i : TI} {x : Operand} {lo hi mx : Option Operand} {s : Slc} {L H M : Int}
    (ho : o.op = .slice t x lo hi mx) (hx : evO e x = some s.v) (ht : tlk T t = some ⟨.slice el, n1, b1, z1⟩) (hi' : tlk T el = some i)
    (hlo : evB e 0 lo = some L) (hhi : evB e s.len hi = some H) (hmx : evB e s.cap mx = some M) (hs : mx.isSome = true → hi.isSome = true) (h0 : 0 ≤ L) (h1 : L ≤ H) (h2 : H ≤ M) (h3 : M ≤ s.cap) :
    Yl P e h o (subS s i.n L.toNat H.toNat M.toNat).v := by
  intro ρ w hA hw
  obtain ⟨td, k1, k3⟩ := tk_spec hT ht
  rw [ty_slice k3] at k1
  have hM : ∀ y : Operand, mx = some y → ∀ c w, (Instr.sliceBound (ρ y) s.cap c).run P w = .ok M.toNat w := fun y hy c w => by subst hy; exact run_bound hA hmx (by omega) (by omega) w
  have hH : ∀ y : Operand, hi = some y → ∀ c w, (Instr.sliceBound (ρ y) M.toNat c).run P w = .ok H.toNat w := fun y hy c w => by subst hy; exact run_bound hA hhi (by omega) (by omega) w
  have hL : ∀ y : Operand, lo = some y → ∀ c w, (Instr.sliceBound (ρ y) H.toNat c).run P w = .ok L.toNat w := fun y hy c w => by subst hy; exact run_bound hA hlo (by omega) (by omega) w
  have eM : mx = none → M.toNat = s.cap := fun hn => by subst hn; simp [evB] at hmx; omega
  have eH : hi = none → H.toNat = s.len := fun hn => by subst hn; simp [evB] at hhi; omega
  have eL : lo = none → L.toNat = 0 := fun hn => by subst hn; simp [evB] at hlo; omega
  cases mx with
  | none =>
    rw [eM rfl] at hH
    cases hi with
    | none =>
      rw [eH rfl] at hL
      cases lo with
      | none => simp [execOp, ho, hA _ _ hx, Instr.sliceAt, Instr.slice, run_underlying k1, Instr.sliceBounds, run_sizeOf' (hT _ _ hi'), subS, eM rfl, eH rfl, eL rfl]
      | some y3 => simp [execOp, ho, hA _ _ hx, Instr.sliceAt, Instr.slice, run_underlying k1, Instr.sliceBounds, run_sizeOf' (hT _ _ hi'), subS, eM rfl, eH rfl, hL y3 rfl]
    | some y2 =>
      cases lo with
      | none => simp [execOp, ho, hA _ _ hx, Instr.sliceAt, Instr.slice, run_underlying k1, Instr.sliceBounds, run_sizeOf' (hT _ _ hi'), subS, eM rfl, hH y2 rfl, eL rfl]
      | some y3 => simp [execOp, ho, hA _ _ hx, Instr.sliceAt, Instr.slice, run_underlying k1, Instr.sliceBounds, run_sizeOf' (hT _ _ hi'), subS, eM rfl, hH y2 rfl, hL y3 rfl]
  | some y1 =>
    cases hi with
    | none => simp at hs
    | some y2 =>
      cases lo with
      | none => simp [execOp, ho, hA _ _ hx, Instr.sliceAt, Instr.slice, run_underlying k1, Instr.sliceBounds, run_sizeOf' (hT _ _ hi'), subS, hM y1 rfl, hH y2 rfl, eL rfl]
      | some y3 => simp [execOp, ho, hA _ _ hx, Instr.sliceAt, Instr.slice, run_underlying k1, Instr.sliceBounds, run_sizeOf' (hT _ _ hi'), subS, hM y1 rfl, hH y2 rfl, hL y3 rfl]
/-- a slice of a string -/
theorem y_sls (hT : TOk P T) {t n1 b1 : Nat} {z1 : List Value} {x : Operand} {lo hi : Option Operand} {s : ByteArray} {L H : Int}
    (ho : o.op = .slice t x lo hi none) (hx : evO e x = some (.string s)) (ht : tlk T t = some ⟨.string, n1, b1, z1⟩)
    (hlo : evB e 0 lo = some L) (hhi : evB e s.size hi = some H) (h0 : 0 ≤ L) (h1 : L ≤ H) (h2 : H ≤ s.size) :
    Yl P e h o (.string (s.extract L.toNat H.toNat)) := by
  intro ρ w hA hw
  obtain ⟨td, k1, k3⟩ := tk_spec hT ht
  rw [ty_string k3] at k1
  have hH : ∀ y : Operand, hi = some y → ∀ c w, (Instr.sliceBound (ρ y) s.size c).run P w = .ok H.toNat w := fun y hy c w => by subst hy; exact run_bound hA hhi (by omega) (by omega) w
  have hL : ∀ y : Operand, lo = some y → ∀ c w, (Instr.sliceBound (ρ y) H.toNat c).run P w = .ok L.toNat w := fun y hy c w => by subst hy; exact run_bound hA hlo (by omega) (by omega) w
  have eH : hi = none → H.toNat = s.size := fun hn => by subst hn; simp [evB] at hhi; omega
  have eL : lo = none → L.toNat = 0 := fun hn => by subst hn; simp [evB] at hlo; omega
  cases hi with
  | none =>
    rw [eH rfl] at hL
    cases lo with
    | none => simp [execOp, ho, hA _ _ hx, Instr.sliceAt, Instr.slice, run_underlying k1, Instr.sliceBounds, eH rfl, eL rfl]
    | some y3 => simp [execOp, ho, hA _ _ hx, Instr.sliceAt, Instr.slice, run_underlying k1, Instr.sliceBounds, eH rfl, hL y3 rfl]
  | some y2 =>
    cases lo with
    | none => simp [execOp, ho, hA _ _ hx, Instr.sliceAt, Instr.slice, run_underlying k1, Instr.sliceBounds, hH y2 rfl, eL rfl]
    | some y3 => simp [execOp, ho, hA _ _ hx, Instr.sliceAt, Instr.slice, run_underlying k1, Instr.sliceBounds, hH y2 rfl, hL y3 rfl]
def zrow (z : List Value) (n : Nat) : List Value := (List.replicate n z).flatten
theorem zeroCells_zrow (z : List Value) (n : Nat) : (Builtin.zeroCells z.toArray n).toList = zrow z n := by
  induction n with
  | zero => simp [Builtin.zeroCells, zrow]
  | succ n ih =>
    unfold zrow at *
    rw [List.replicate_succ', List.flatten_append, ← ih]
    simp only [Builtin.zeroCells, Array.toList_map, Array.toList_range, List.size_toArray]
    rw [Nat.succ_mul, List.range_add, List.map_append, List.map_map]
    congr 1
    simp only [List.flatten_cons, List.flatten_nil, List.append_nil]
    apply List.ext_getElem
    · simp
    · intro j h1 h2
      simp only [List.length_map, List.length_range] at h1
      simp [Nat.add_mod, Nat.mod_eq_of_lt h1, h1]
theorem h_bs (hT : TOk P T) {t el n1 b1 len b : Nat} {z1 : List Value} {i : TI} {parts : List (Nat × Operand)} {vs : List (Nat × Value)} {out : List Value} {h' : Heap} (ho : o.op = .buildSlice t len parts.toArray) (ht : tlk T t = some ⟨.slice el, n1, b1, z1⟩) (hi : tlk T el = some i)
    (hs : Nat.ble (len * i.n) 16777216 = true) (hzl : Nat.beq i.z.length i.n = true) (hv : evp e parts = some vs) (hb : bld T (fun j => some (j * i.n, i.n)) (zrow i.z len) vs = some out) (hbb : b = h.size) (he : h' = h.push (.cells out.toArray el)) : Yh P e h o (.slice (some ⟨b, 0, none⟩) len len) h' := by
  intro ρ w hA hw
  subst hw; subst hbb; subst he
  obtain ⟨zv, z1', z2, _⟩ := run_zero hT hi w
  obtain ⟨td, k1, k3⟩ := tk_spec hT ht
  rw [ty_slice k3] at k1
  have hm := evp_map hA _ _ hv
  have hz : zv.cells = i.z.toArray := Array.toList_inj.1 (by simpa using z2)
  have hzl' := Nat.eq_of_beq_eq_true hzl
  have hf := fill_bld T _ vs _ out hb
  have hs' : ¬ (16777216 < len * i.n) := by have := Nat.le_of_ble_eq_true hs; omega
  refine ⟨{ w with heap := w.heap.push (.cells out.toArray el) }, ⟨rfl, rfl, rfl, rfl, fun _ => by first | exact Nat.le_refl _ | exact Nat.le_succ _⟩, .inl ?_⟩
  have hzc : (Array.range (len * i.n)).map (fun j => i.z.toArray[j % i.z.toArray.size]!) = (zrow i.z len).toArray := by
    rw [← zeroCells_zrow]
    simp only [Builtin.zeroCells, List.size_toArray, hzl', Array.toArray_toList]
  by_cases hl : len * i.n = 0
  · have hzr : zrow i.z len = [] := List.eq_nil_of_length_eq_zero (by simp [zrow, hzl', hl])
    rw [hzr] at hf
    simp [execOp, ho, Instr.buildSlice, run_underlying k1, run_sizeOf' (hT _ _ hi), hl, hm, newRow, newObj, Sem.run]
    rw [show Array.map (fun (_ : Nat) => (default : Value)) (Array.range 0) = ([] : List Value).toArray from by simp, hf]
    simp [Sem.run]
  · simp only [execOp, ho, Instr.buildSlice, Sem.run_bind, run_underlying k1, Result.andThen_ok, run_sizeOf' (hT _ _ hi)]
    simp [hs', hl, z1', hz, newRow, newObj, Sem.run, hm]
    have hzc' : (Array.range (len * i.n)).map (fun x => i.z[x % i.z.length]?.getD default) = (zrow i.z len).toArray := by
      rw [← hzc]; simp
    rw [hzc', hf]
    simp [Sem.run]
end
end Go.Q
