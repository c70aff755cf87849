/- A part of the proof of statements of this seat: lemmas, no statement of their own. -/
import Derived.Test.YtidhlagdagbggaaDoorYfSb
set_option linter.unusedVariables false
set_option linter.unusedSimpArgs false
/- Slot: rows of bytes are laid one behind the other. -/
namespace Go.Q.Yf
theorem Row.cut0 {B : Nat} {h : Heap} {E w : Nat} {s : Slc} {xs : List Value} (R : Row B h E w s xs) : Row B h E w ⟨s.a, 0, s.cap⟩ [] := by
  refine ⟨by simp, R.2.1, ?_⟩
  rcases R.2.2 with ⟨a, b, c⟩ | ⟨g, cur, a, b, c, d, e, f⟩
  · exact .inl ⟨a, rfl, c⟩
  · exact .inr ⟨g, cur, a, b, c, Nat.zero_le _, e, by simp⟩
theorem zeros_b8 (n : Nat) : (Builtin.zeroCells ([.int .u8 0] : List Value).toArray n).toList = b8 (List.replicate n 0) := by
  rw [zeroCells_zrow]
  unfold zrow
  simp
theorem Grow_ok {n : Int} {k : Slc → Heap → Prop} {h : Heap} (n0 : 0 ≤ n) (n1 : n ≤ 1000000) (H : ∀ s' h', Row h.size h' 5 1 s' [] → Ext h.size h h' → k s' h') : slices_Grow_byte_byte ⟨none, 0, 0⟩ n k h := by
  unfold slices_Grow_byte_byte
  rw [if_neg (by rw [decide_eq_true_eq]; omega)]
  unfold slices_Grow_byte_byte_j1
  refine ⟨_, rfl, ?_⟩
  have e0 : IntKind.i64.wrap (n - IntKind.i64.wrap ((((⟨none, 0, 0⟩ : Slc).cap : Nat) : Int) - (((⟨none, 0, 0⟩ : Slc).len : Nat) : Int))) = n := by
    rw [show ((((⟨none, 0, 0⟩ : Slc).cap : Nat) : Int) - (((⟨none, 0, 0⟩ : Slc).len : Nat) : Int)) = 0 from rfl, wrapI64 (x := 0) (by omega) (by omega), wrapI64 (by omega) (by omega)]; omega
  rw [e0]
  by_cases c : n > 0
  · rw [if_pos (by rw [decide_eq_true_eq]; exact c)]
    refine ⟨⟨none, 0, 0⟩, by omega, by simp, by simp, by simp, rfl, n0, by show 0 < 0 + n.toNat; omega, by omega, ?_⟩
    rw [zeros_b8]
    refine App.row2 (Row.nil h.size h 5 1) (Nat.le_refl _) rfl (by simp) (b8_one _) (by simp only; omega) (by simp only [maxLen]; omega) fun s3 h4 R3 l3 z3 kp _ _ => ?_
    have Rc := Row.cut0 R3
    refine ⟨⟨s3.a, 0, s3.cap⟩, by omega, by simp, by simp, by omega, ?_, ?_⟩
    · unfold subS
      simp only [Int.toNat_zero, Int.toNat_natCast, Nat.sub_zero, Nat.zero_mul]
      congr 1
      split
      · rfl
      · cases s3.a <;> rfl
    · unfold slices_Grow_byte_byte_j2
      exact H _ _ Rc ⟨z3, fun i hi => kp i hi (by simp [Slc.blk])⟩
  · rw [if_neg (by rw [decide_eq_true_eq]; exact c)]
    unfold slices_Grow_byte_byte_j2
    exact H _ _ (Row.nil _ _ _ _) (Ext.refl _ _)
abbrev flatS (L : List (Slc × List Int)) : List Int := (L.map (·.2)).flatten
theorem flat_take {L : List (Slc × List Int)} {i : Nat} (hi : i < L.length) : flatS (L.take (i + 1)) = flatS (L.take i) ++ L[i].2 := by
  unfold flatS
  rw [List.take_add_one, List.getElem?_eq_getElem hi, Option.toList_some, List.map_append, List.flatten_append]
  simp only [List.map_cons, List.map_nil, List.flatten_cons, List.flatten_nil, List.append_nil]
theorem flat_le {L : List (Slc × List Int)} (i : Nat) : (flatS (L.take i)).length ≤ (flatS L).length := by
  conv => rhs; rw [← List.take_append_drop i L]
  rw [flatS, flatS, List.map_append, List.flatten_append, List.length_append]; omega
theorem Concat_ok {p0 : Slc} {L : List (Slc × List Int)} {k : Slc → Heap → Prop} {h : Heap} (S : SlcAt h p0 (L.map fun q => Slc.v q.1)) (l : p0.len = L.length) (A : ∀ q ∈ L, SlcAt h q.1 (b8 q.2) ∧ q.1.len = q.2.length) (m : L.length ≤ 10) (fl : (flatS L).length ≤ 100000)
    (H : ∀ s' h', Row h.size h' 5 1 s' (b8 (flatS L)) → Ext h.size h h' → k s' h') : slices_Concat_byte_byte p0 k h := by
  have get : ∀ {h'}, Ext h.size h h' → ∀ i : Int, 0 ≤ i → (hi : i.toNat < L.length) → ∃ a, p0.a = some a ∧ cellH h' (a.add (i.toNat * 1)) = some (Slc.v L[i.toNat].1) := fun {h'} X i i0 hi => by
    have S' := S.ext X
    have hg : (L.map fun q => Slc.v q.1)[i.toNat]? = some (Slc.v L[i.toNat].1) := by simp [hi]
    cases ha : p0.a with
    | none => have := S'.1 ha; rw [this] at hg; simp at hg
    | some a => exact ⟨a, rfl, by rw [Nat.mul_one]; exact S'.2 a ha _ _ hg⟩
  unfold slices_Concat_byte_byte slices_Concat_byte_byte_l1
  refine ⟨fun q h' => h' = h ∧ 0 ≤ q.2 ∧ q.2 ≤ L.length ∧ q.1 = ((flatS (L.take q.2.toNat)).length : Nat), fun q _ => (L.length - q.2).toNat, ⟨rfl, by omega, by omega, rfl⟩, ?_⟩
  rintro t i h' ⟨rfl, i0, i1, et⟩
  dsimp only at i0 i1 et
  unfold slices_Concat_byte_byte_l1b
  have le := flat_le (L := L) i.toNat
  by_cases c : i < L.length
  · rw [if_pos (by rw [decide_eq_true_eq]; omega)]
    have hi : i.toNat < L.length := by omega
    obtain ⟨a, ha, hc⟩ := get (Ext.refl _ _) i i0 hi
    obtain ⟨_, lq⟩ := A _ (List.getElem_mem hi)
    have le2 := flat_le (L := L) (i.toNat + 1)
    have ft := congrArg List.length (flat_take hi)
    rw [List.length_append] at ft
    refine ⟨a, ha, i0, by omega, _, hc, _, rfl, ?_⟩
    rw [wrapI64 (by omega) (by omega), if_neg (by rw [decide_eq_true_eq]; omega)]
    unfold slices_Concat_byte_byte_j2
    rw [wrapI64 (by omega) (by omega)]
    refine ⟨⟨rfl, by dsimp only; omega, by dsimp only; omega, ?_⟩, by dsimp only; omega⟩
    dsimp only
    rw [show (i + 1).toNat = i.toNat + 1 from by omega, ft, lq, et]; omega
  · rw [if_neg (by rw [decide_eq_true_eq]; omega)]
    refine Grow_ok (by omega) (by omega) fun s5 h5 R5 X5 => ?_
    unfold slices_Concat_byte_byte_l3
    refine ⟨fun q h'' => 0 ≤ q.2 ∧ q.2 ≤ L.length ∧ Row h'.size h'' 5 1 q.1 (b8 (flatS (L.take q.2.toNat))) ∧ Ext h'.size h' h'', fun q _ => (L.length - q.2).toNat, ⟨by omega, by omega, by simpa [flatS] using R5, X5⟩, ?_⟩
    rintro s j h6 ⟨j0, j1, R6, X6⟩
    dsimp only at j0 j1 R6
    unfold slices_Concat_byte_byte_l3b
    by_cases d : j < L.length
    · rw [if_pos (by rw [decide_eq_true_eq]; omega)]
      have hj : j.toNat < L.length := by omega
      obtain ⟨a, ha, hc⟩ := get X6 j j0 hj
      obtain ⟨Aq, lq⟩ := A _ (List.getElem_mem hj)
      have le2 := flat_le (L := L) (j.toNat + 1)
      have ft := congrArg List.length (flat_take hj)
      rw [List.length_append] at ft
      have ls : s.len = (flatS (L.take j.toNat)).length := by have := R6.len; rw [this, List.length_map]
      refine ⟨a, ha, j0, by omega, _, hc, b8 L[j.toNat].2, Aq.ext X6, ?_⟩
      refine App.row2 R6 X6.size rfl (by rw [List.length_map, lq]; omega) (b8_one _) (by omega) (by simp only [maxLen]; omega) fun s7 h7 R7 _ z7 kp _ _ => ?_
      rw [wrapI64 (by omega) (by omega)]
      refine ⟨⟨by dsimp only; omega, by dsimp only; omega, ?_, X6.trans ⟨z7, fun i hi => kp i (by have := X6.size; omega) fun e => by have := (R6.bd e).1; omega⟩⟩, by dsimp only; omega⟩
      dsimp only
      rw [show (j + 1).toNat = j.toNat + 1 from by omega, flat_take hj, b8, List.map_append]
      exact R7
    · rw [if_neg (by rw [decide_eq_true_eq]; omega)]
      rw [show j.toNat = L.length from by omega, List.take_length] at R6
      exact H s h6 R6 X6
end Go.Q.Yf
