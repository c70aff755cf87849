/- A part of the proof of statements of this seat: lemmas, no statement of their own. -/
import Derived.Test.YthjafnfadiijgaaYhVt1
import Derived.Test.YthjafnfadiijgaaYhVtB
set_option linter.unusedVariables false
set_option linter.unusedSimpArgs false
set_option maxHeartbeats 1000000
namespace Go.Q.Yh
open Go.Sort
/-! ### the two partitions -/
theorem sU_go {p : Int → Bool} {d : Array Int} {j i : Nat} (h : i ≤ j) (hp : p d[i]! = true) : scanUp p d j i = scanUp p d j (i + 1) := by rw [scanUp, if_pos (by simp [h, hp])]
theorem sU_end {p : Int → Bool} {d : Array Int} {j i : Nat} (h : ¬ i ≤ j ∨ p d[i]! = false) : scanUp p d j i = i := by rw [scanUp, if_neg (by rcases h with h | h <;> simp [h])]
theorem sD_go {p : Int → Bool} {d : Array Int} {i j : Nat} (h : i ≤ j) (h0 : 0 < j) (hp : p d[j]! = true) : scanDown p d i j = scanDown p d i (j - 1) := by
  cases j with
  | zero => omega
  | succ n => rw [scanDown, if_pos (by simp [h, hp])]; rfl
theorem sD_end {p : Int → Bool} {d : Array Int} {i j : Nat} (h : ¬ i ≤ j ∨ p d[j]! = false) : scanDown p d i j = j := by
  cases j with
  | zero => rfl
  | succ n => rw [scanDown, if_neg (by rcases h with h | h <;> simp [h])]
section
variable {B : Nat} {h : Heap} {s : Slc} {d : Array Int} {a b pv : Nat}
theorem Part_ok {k : Int × Bool → Heap → Prop} (R : U64 B h s d) (ha : a ≤ pv) (hb : pv < b) (hs : b ≤ d.size) (hz : d.size ≤ 1000)
    (H : ∀ h', U64 B h' s (partition ltInt d a b pv).2.2 → Onl s h h' → k (((partition ltInt d a b pv).1 : Nat), (partition ltInt d a b pv).2.1) h') : slices_partitionOrdered_uint64 s a b pv k h := by
  unfold slices_partitionOrdered_uint64
  refine Swp_ok R (I := pv) (J := a) ⟨by omega, by omega⟩ ⟨by omega, by omega⟩ fun h1 R1 O1 => ?_
  rw [Int.toNat_natCast, Int.toNat_natCast] at R1
  have z1 : (swp d a pv).size = d.size := swp_size'
  have eP : partition ltInt d a b pv = (if scanUp (fun x => ltInt x (swp d a pv)[a]!) (swp d a pv) (b - 1) (a + 1) > scanDown (fun x => !ltInt x (swp d a pv)[a]!) (swp d a pv) (scanUp (fun x => ltInt x (swp d a pv)[a]!) (swp d a pv) (b - 1) (a + 1)) (b - 1) then (scanDown (fun x => !ltInt x (swp d a pv)[a]!) (swp d a pv) (scanUp (fun x => ltInt x (swp d a pv)[a]!) (swp d a pv) (b - 1) (a + 1)) (b - 1), true, swp (swp d a pv) (scanDown (fun x => !ltInt x (swp d a pv)[a]!) (swp d a pv) (scanUp (fun x => ltInt x (swp d a pv)[a]!) (swp d a pv) (b - 1) (a + 1)) (b - 1)) a) else
      ((partLoop ltInt a (scanUp (fun x => ltInt x (swp d a pv)[a]!) (swp d a pv) (b - 1) (a + 1) + 1) (scanDown (fun x => !ltInt x (swp d a pv)[a]!) (swp d a pv) (scanUp (fun x => ltInt x (swp d a pv)[a]!) (swp d a pv) (b - 1) (a + 1)) (b - 1) - 1) (swp (swp d a pv) (scanUp (fun x => ltInt x (swp d a pv)[a]!) (swp d a pv) (b - 1) (a + 1)) (scanDown (fun x => !ltInt x (swp d a pv)[a]!) (swp d a pv) (scanUp (fun x => ltInt x (swp d a pv)[a]!) (swp d a pv) (b - 1) (a + 1)) (b - 1)))).1, false,
        swp (partLoop ltInt a (scanUp (fun x => ltInt x (swp d a pv)[a]!) (swp d a pv) (b - 1) (a + 1) + 1) (scanDown (fun x => !ltInt x (swp d a pv)[a]!) (swp d a pv) (scanUp (fun x => ltInt x (swp d a pv)[a]!) (swp d a pv) (b - 1) (a + 1)) (b - 1) - 1) (swp (swp d a pv) (scanUp (fun x => ltInt x (swp d a pv)[a]!) (swp d a pv) (b - 1) (a + 1)) (scanDown (fun x => !ltInt x (swp d a pv)[a]!) (swp d a pv) (scanUp (fun x => ltInt x (swp d a pv)[a]!) (swp d a pv) (b - 1) (a + 1)) (b - 1)))).2
          (partLoop ltInt a (scanUp (fun x => ltInt x (swp d a pv)[a]!) (swp d a pv) (b - 1) (a + 1) + 1) (scanDown (fun x => !ltInt x (swp d a pv)[a]!) (swp d a pv) (scanUp (fun x => ltInt x (swp d a pv)[a]!) (swp d a pv) (b - 1) (a + 1)) (b - 1) - 1) (swp (swp d a pv) (scanUp (fun x => ltInt x (swp d a pv)[a]!) (swp d a pv) (b - 1) (a + 1)) (scanDown (fun x => !ltInt x (swp d a pv)[a]!) (swp d a pv) (scanUp (fun x => ltInt x (swp d a pv)[a]!) (swp d a pv) (b - 1) (a + 1)) (b - 1)))).1 a)) := rfl
  rw [eP] at H
  clear eP
  generalize swp d a pv = d1 at *
  rw [wrapI64 (by omega) (by omega), wrapI64 (by omega) (by omega)]
  refine ⟨_, rfl, _, rfl, ?_⟩
  generalize hi1 : scanUp (fun x => ltInt x d1[a]!) d1 (b - 1) (a + 1) = i1 at *
  generalize hj1 : scanDown (fun x => !ltInt x d1[a]!) d1 i1 (b - 1) = j1 at *
  have ea : ((a : Nat) : Int).toNat = a := Int.toNat_natCast a
  unfold slices_partitionOrdered_uint64_l1
  refine ⟨fun i h' => h' = h1 ∧ (a : Int) + 1 ≤ i ∧ i ≤ b ∧ scanUp (fun x => ltInt x d1[a]!) d1 (b - 1) i.toNat = i1, fun i _ => (b - i).toNat, ⟨rfl, by omega, by omega, by rw [show ((a : Int) + 1).toNat = a + 1 from by omega]; exact hi1⟩, ?_⟩
  rintro i h' ⟨rfl, i0, iB, ei⟩
  -- the first scan is over
  have done : i.toNat = i1 → slices_partitionOrdered_uint64_j2 s a i (b - 1) false k (fun i' h'' => (h'' = h' ∧ (a : Int) + 1 ≤ i' ∧ i' ≤ b ∧ scanUp (fun x => ltInt x d1[a]!) d1 (b - 1) i'.toNat = i1) ∧ ((b : Int) - i').toNat < ((b : Int) - i).toNat) h' := fun e1 => by
    unfold slices_partitionOrdered_uint64_j2
    rw [if_neg (by simp)]
    unfold slices_partitionOrdered_uint64_l3
    refine ⟨fun j h'' => h'' = h' ∧ i - 1 ≤ j ∧ j ≤ b - 1 ∧ scanDown (fun x => !ltInt x d1[a]!) d1 i1 j.toNat = j1, fun j _ => (j - i + 2).toNat, ⟨rfl, by omega, by omega, by rw [show ((b : Int) - 1).toNat = b - 1 from by omega]; exact hj1⟩, ?_⟩
    rintro j h2 ⟨e2, j0, jB, ej⟩
    subst e2
    have done2 : j.toNat = j1 → slices_partitionOrdered_uint64_j4 s a i j false k (fun i' h'' => (h'' = h2 ∧ (a : Int) + 1 ≤ i' ∧ i' ≤ b ∧ scanUp (fun x => ltInt x d1[a]!) d1 (b - 1) i'.toNat = i1) ∧ ((b : Int) - i').toNat < ((b : Int) - i).toNat) (fun j' h'' => (h'' = h2 ∧ i - 1 ≤ j' ∧ j' ≤ b - 1 ∧ scanDown (fun x => !ltInt x d1[a]!) d1 i1 j'.toNat = j1) ∧ (j' - i + 2).toNat < (j - i + 2).toNat) h2 := fun e2 => by
      unfold slices_partitionOrdered_uint64_j4
      rw [if_neg (by simp)]
      by_cases hij : i > j
      · rw [if_pos (decide_eq_true hij)]
        refine Swp_ok R1 (I := a) (J := j) ⟨by omega, by omega⟩ ⟨by omega, by omega⟩ fun h3 R3 O3 => ?_
        rw [if_pos (by omega)] at H
        rw [ea, e2] at R3
        have := H h3 R3 (O1.trans O3)
        rw [← e2, show ((j.toNat : Nat) : Int) = j from by omega] at this
        exact this
      rw [if_neg (by rw [decide_eq_true_eq]; exact hij)]
      rw [if_neg (by omega)] at H
      refine Swp_ok R1 (I := j) (J := i) ⟨by omega, by omega⟩ ⟨by omega, by omega⟩ fun h3 R3 O3 => ?_
      rw [e1, e2] at R3
      rw [wrapI64 (by omega) (by omega), wrapI64 (by omega) (by omega)]
      refine ⟨_, rfl, _, rfl, ?_⟩
      have z3 : (swp d1 i1 j1).size = d.size := by rw [swp_size', z1]
      generalize hr : partLoop ltInt a (i1 + 1) (j1 - 1) (swp d1 i1 j1) = r at *
      unfold slices_partitionOrdered_uint64_l5
      refine ⟨fun st h'' => ∃ d', U64 B h'' s d' ∧ d'.size = d.size ∧ Onl s h h'' ∧ (a : Int) + 1 ≤ st.1 ∧ (a : Int) ≤ st.2 ∧ st.2 ≤ b - 1 ∧ st.1 ≤ b ∧ partLoop ltInt a st.1.toNat st.2.toNat d' = r, fun st _ => (st.2 + 1 - st.1).toNat,
        ⟨_, R3, z3, O1.trans O3, by dsimp only; omega, by dsimp only; omega, by dsimp only; omega, by dsimp only; omega, by dsimp only; rw [show (i + 1).toNat = i1 + 1 from by omega, show (j - 1).toNat = j1 - 1 from by omega]; exact hr⟩, ?_⟩
      rintro i4 j4 h4 ⟨d4, R4, z4, O4, i40, j40, j4B, i4B, e4⟩
      dsimp only at i40 j40 j4B i4B e4
      rw [partLoop_eq] at e4
      generalize hi5 : scanUp (fun x => ltInt x d4[a]!) d4 j4.toNat i4.toNat = i5 at *
      generalize hj5 : scanDown (fun x => !ltInt x d4[a]!) d4 i5 j4.toNat = j5 at *
      unfold slices_partitionOrdered_uint64_l5b slices_partitionOrdered_uint64_l6
      refine ⟨fun i' h'' => h'' = h4 ∧ i4 ≤ i' ∧ i' ≤ b ∧ scanUp (fun x => ltInt x d4[a]!) d4 j4.toNat i'.toNat = i5, fun i' _ => (b - i').toNat, ⟨rfl, by omega, by omega, hi5⟩, ?_⟩
      rintro i6 h'' ⟨e6, i60, i6B, ei6⟩
      subst e6
      have done3 : i6.toNat = i5 → ∀ nx1 nx3, slices_partitionOrdered_uint64_j7 s a i6 j4 false k nx1 nx3 (fun st h'' => (∃ d', U64 B h'' s d' ∧ d'.size = d.size ∧ Onl s h h'' ∧ (a : Int) + 1 ≤ st.1 ∧ (a : Int) ≤ st.2 ∧ st.2 ≤ b - 1 ∧ st.1 ≤ b ∧ partLoop ltInt a st.1.toNat st.2.toNat d' = r) ∧ (st.2 + 1 - st.1).toNat < (j4 + 1 - i4).toNat) (fun i' h3 => (h3 = h'' ∧ i4 ≤ i' ∧ i' ≤ b ∧ scanUp (fun x => ltInt x d4[a]!) d4 j4.toNat i'.toNat = i5) ∧ ((b : Int) - i').toNat < ((b : Int) - i6).toNat) h'' := fun e6 nx1 nx3 => by
        unfold slices_partitionOrdered_uint64_j7
        rw [if_neg (by simp)]
        unfold slices_partitionOrdered_uint64_l8
        refine ⟨fun j' h3 => h3 = h'' ∧ (i6 ≤ j' + 1 ∨ j' = j4) ∧ j' ≤ j4 ∧ scanDown (fun x => !ltInt x d4[a]!) d4 i5 j'.toNat = j5, fun j' _ => (j' + 1).toNat, ⟨rfl, .inr rfl, by omega, hj5⟩, ?_⟩
        rintro j6 h3 ⟨e7, j60, j6B, ej6⟩
        subst e7
        have done4 : j6.toNat = j5 → slices_partitionOrdered_uint64_j9 s a i6 j6 false k nx1 nx3 (fun st h'' => (∃ d', U64 B h'' s d' ∧ d'.size = d.size ∧ Onl s h h'' ∧ (a : Int) + 1 ≤ st.1 ∧ (a : Int) ≤ st.2 ∧ st.2 ≤ b - 1 ∧ st.1 ≤ b ∧ partLoop ltInt a st.1.toNat st.2.toNat d' = r) ∧ (st.2 + 1 - st.1).toNat < (j4 + 1 - i4).toNat) (fun i' h3' => (h3' = h3 ∧ i4 ≤ i' ∧ i' ≤ b ∧ scanUp (fun x => ltInt x d4[a]!) d4 j4.toNat i'.toNat = i5) ∧ ((b : Int) - i').toNat < ((b : Int) - i6).toNat) (fun j' h3' => (h3' = h3 ∧ (i6 ≤ j' + 1 ∨ j' = j4) ∧ j' ≤ j4 ∧ scanDown (fun x => !ltInt x d4[a]!) d4 i5 j'.toNat = j5) ∧ (j' + 1).toNat < (j6 + 1).toNat) h3 := fun e7 => by
          unfold slices_partitionOrdered_uint64_j9
          rw [if_neg (by simp)]
          by_cases hij6 : i6 > j6
          · rw [if_pos (decide_eq_true hij6)]
            refine Swp_ok R4 (I := a) (J := j6) ⟨by omega, by omega⟩ ⟨by omega, by omega⟩ fun h8 R8 O8 => ?_
            rw [if_pos (by omega)] at e4
            rw [ea, e7] at R8
            subst e4
            have := H h8 R8 (O4.trans O8)
            dsimp only at this
            rw [← e7, show ((j6.toNat : Nat) : Int) = j6 from by omega] at this
            exact this
          · rw [if_neg (by rw [decide_eq_true_eq]; exact hij6)]
            rw [if_neg (by omega)] at e4
            refine Swp_ok R4 (I := j6) (J := i6) ⟨by omega, by omega⟩ ⟨by omega, by omega⟩ fun h8 R8 O8 => ?_
            rw [e6, e7] at R8
            rw [wrapI64 (by omega) (by omega), wrapI64 (by omega) (by omega)]
            refine ⟨_, rfl, _, rfl, ⟨_, R8, by rw [swp_size', z4], O4.trans O8, by dsimp only; omega, by dsimp only; omega, by dsimp only; omega, by dsimp only; omega, by dsimp only; rw [show (i6 + 1).toNat = i5 + 1 from by omega, show (j6 - 1).toNat = j5 - 1 from by omega]; exact e4⟩, by dsimp only; omega⟩
        unfold slices_partitionOrdered_uint64_l8b
        by_cases hij6 : i6 ≤ j6
        · rw [if_pos (decide_eq_true hij6)]
          refine Lss_ok R4 (I := j6) (J := a) ⟨by omega, by omega⟩ ⟨by omega, by omega⟩ ?_
          rw [ea]
          cases hl : ltInt d4[j6.toNat]! d4[a]! with
          | true =>
            rw [sD_end (.inr (by simp [hl]))] at ej6
            exact done4 ej6
          | false =>
            rw [sD_go (by omega) (by omega) (by simp [hl])] at ej6
            unfold slices_partitionOrdered_uint64_j9
            rw [if_pos (by simp), wrapI64 (by omega) (by omega)]
            exact ⟨_, rfl, ⟨rfl, .inl (by omega), by omega, by rw [show (j6 - 1).toNat = j6.toNat - 1 from by omega]; exact ej6⟩, by dsimp only; omega⟩
        · rw [if_neg (by rw [decide_eq_true_eq]; exact hij6)]
          rw [sD_end (.inl (by omega))] at ej6
          exact done4 ej6
      unfold slices_partitionOrdered_uint64_l6b
      by_cases hij6 : i6 ≤ j4
      · rw [if_pos (decide_eq_true hij6)]
        refine Lss_ok R4 (I := i6) (J := a) ⟨by omega, by omega⟩ ⟨by omega, by omega⟩ ?_
        rw [ea]
        cases hl : ltInt d4[i6.toNat]! d4[a]! with
        | true =>
          rw [sU_go (by omega) (by simp [hl])] at ei6
          unfold slices_partitionOrdered_uint64_j7
          rw [if_pos (by simp), wrapI64 (by omega) (by omega)]
          exact ⟨_, rfl, ⟨rfl, by omega, by omega, by rw [show (i6 + 1).toNat = i6.toNat + 1 from by omega]; exact ei6⟩, by dsimp only; omega⟩
        | false =>
          rw [sU_end (.inr (by simp [hl]))] at ei6
          exact done3 ei6 _ _
      · rw [if_neg (by rw [decide_eq_true_eq]; exact hij6)]
        rw [sU_end (.inl (by omega))] at ei6
        exact done3 ei6 _ _
    unfold slices_partitionOrdered_uint64_l3b
    by_cases hij : i ≤ j
    · rw [if_pos (decide_eq_true hij)]
      refine Lss_ok R1 (I := j) (J := a) ⟨by omega, by omega⟩ ⟨by omega, by omega⟩ ?_
      rw [ea]
      cases hl : ltInt d1[j.toNat]! d1[a]! with
      | true =>
        rw [sD_end (.inr (by simp [hl]))] at ej
        exact done2 ej
      | false =>
        rw [sD_go (by omega) (by omega) (by simp [hl])] at ej
        unfold slices_partitionOrdered_uint64_j4
        rw [if_pos (by simp), wrapI64 (by omega) (by omega)]
        exact ⟨_, rfl, ⟨rfl, by omega, by omega, by rw [show (j - 1).toNat = j.toNat - 1 from by omega]; exact ej⟩, by dsimp only; omega⟩
    · rw [if_neg (by rw [decide_eq_true_eq]; exact hij)]
      rw [sD_end (.inl (by omega))] at ej
      exact done2 ej
  unfold slices_partitionOrdered_uint64_l1b
  by_cases hij : i ≤ (b : Int) - 1
  · rw [if_pos (decide_eq_true hij)]
    refine Lss_ok R1 (I := i) (J := a) ⟨by omega, by omega⟩ ⟨by omega, by omega⟩ ?_
    rw [ea]
    cases hl : ltInt d1[i.toNat]! d1[a]! with
    | true =>
      rw [sU_go (by omega) (by simp [hl])] at ei
      unfold slices_partitionOrdered_uint64_j2
      rw [if_pos (by simp), wrapI64 (by omega) (by omega)]
      exact ⟨_, rfl, ⟨rfl, by omega, by omega, by rw [show (i + 1).toNat = i.toNat + 1 from by omega]; exact ei⟩, by dsimp only; omega⟩
    | false =>
      rw [sU_end (.inr (by simp [hl]))] at ei
      exact done ei
  · rw [if_neg (by rw [decide_eq_true_eq]; exact hij)]
    rw [sU_end (.inl (by omega))] at ei
    exact done ei
theorem PartEq_ok {k : Int → Heap → Prop} (R : U64 B h s d) (ha : a ≤ pv) (hb : pv < b) (hs : b ≤ d.size) (hz : d.size ≤ 1000)
    (H : ∀ h', U64 B h' s (partitionEqual ltInt d a b pv).2 → Onl s h h' → k ((partitionEqual ltInt d a b pv).1 : Nat) h') : slices_partitionEqualOrdered_uint64 s a b pv k h := by
  unfold slices_partitionEqualOrdered_uint64
  refine Swp_ok R (I := pv) (J := a) ⟨by omega, by omega⟩ ⟨by omega, by omega⟩ fun h1 R1 O1 => ?_
  rw [Int.toNat_natCast, Int.toNat_natCast] at R1
  have z1 : (swp d a pv).size = d.size := swp_size'
  have ea : ((a : Nat) : Int).toNat = a := Int.toNat_natCast a
  rw [wrapI64 (by omega) (by omega), wrapI64 (by omega) (by omega)]
  refine ⟨_, rfl, _, rfl, ?_⟩
  unfold partitionEqual at H
  generalize hr : partEqLoop ltInt a (a + 1) (b - 1) (swp d a pv) = r at *
  generalize swp d a pv = d1 at *
  unfold slices_partitionEqualOrdered_uint64_l1
  refine ⟨fun st h'' => ∃ d', U64 B h'' s d' ∧ d'.size = d.size ∧ Onl s h h'' ∧ (a : Int) + 1 ≤ st.1 ∧ (a : Int) ≤ st.2 ∧ st.2 ≤ b - 1 ∧ st.1 ≤ b ∧ partEqLoop ltInt a st.1.toNat st.2.toNat d' = r, fun st _ => (st.2 + 1 - st.1).toNat,
    ⟨_, R1, z1, O1, by dsimp only; omega, by dsimp only; omega, by dsimp only; omega, by dsimp only; omega, by dsimp only; rw [show ((a : Int) + 1).toNat = a + 1 from by omega, show ((b : Int) - 1).toNat = b - 1 from by omega]; exact hr⟩, ?_⟩
  rintro i4 j4 h4 ⟨d4, R4, z4, O4, i40, j40, j4B, i4B, e4⟩
  dsimp only at i40 j40 j4B i4B e4
  rw [partEqLoop_eq] at e4
  generalize hi5 : scanUp (fun x => !ltInt d4[a]! x) d4 j4.toNat i4.toNat = i5 at *
  generalize hj5 : scanDown (fun x => ltInt d4[a]! x) d4 i5 j4.toNat = j5 at *
  unfold slices_partitionEqualOrdered_uint64_l1b slices_partitionEqualOrdered_uint64_l2
  refine ⟨fun i' h'' => h'' = h4 ∧ i4 ≤ i' ∧ i' ≤ b ∧ scanUp (fun x => !ltInt d4[a]! x) d4 j4.toNat i'.toNat = i5, fun i' _ => (b - i').toNat, ⟨rfl, by omega, by omega, hi5⟩, ?_⟩
  rintro i6 h'' ⟨e6, i60, i6B, ei6⟩
  subst e6
  have done3 : i6.toNat = i5 → slices_partitionEqualOrdered_uint64_j3 s a i6 j4 false k (fun st h'' => (∃ d', U64 B h'' s d' ∧ d'.size = d.size ∧ Onl s h h'' ∧ (a : Int) + 1 ≤ st.1 ∧ (a : Int) ≤ st.2 ∧ st.2 ≤ b - 1 ∧ st.1 ≤ b ∧ partEqLoop ltInt a st.1.toNat st.2.toNat d' = r) ∧ (st.2 + 1 - st.1).toNat < (j4 + 1 - i4).toNat) (fun i' h3 => (h3 = h'' ∧ i4 ≤ i' ∧ i' ≤ b ∧ scanUp (fun x => !ltInt d4[a]! x) d4 j4.toNat i'.toNat = i5) ∧ ((b : Int) - i').toNat < ((b : Int) - i6).toNat) h'' := fun e6 => by
    unfold slices_partitionEqualOrdered_uint64_j3
    rw [if_neg (by simp)]
    unfold slices_partitionEqualOrdered_uint64_l4
    refine ⟨fun j' h3 => h3 = h'' ∧ (i6 ≤ j' + 1 ∨ j' = j4) ∧ j' ≤ j4 ∧ scanDown (fun x => ltInt d4[a]! x) d4 i5 j'.toNat = j5, fun j' _ => (j' + 1).toNat, ⟨rfl, .inr rfl, by omega, hj5⟩, ?_⟩
    rintro j6 h3 ⟨e7, j60, j6B, ej6⟩
    subst e7
    have done4 : j6.toNat = j5 → slices_partitionEqualOrdered_uint64_j5 s a i6 j6 false k (fun st h'' => (∃ d', U64 B h'' s d' ∧ d'.size = d.size ∧ Onl s h h'' ∧ (a : Int) + 1 ≤ st.1 ∧ (a : Int) ≤ st.2 ∧ st.2 ≤ b - 1 ∧ st.1 ≤ b ∧ partEqLoop ltInt a st.1.toNat st.2.toNat d' = r) ∧ (st.2 + 1 - st.1).toNat < (j4 + 1 - i4).toNat) (fun i' h3' => (h3' = h3 ∧ i4 ≤ i' ∧ i' ≤ b ∧ scanUp (fun x => !ltInt d4[a]! x) d4 j4.toNat i'.toNat = i5) ∧ ((b : Int) - i').toNat < ((b : Int) - i6).toNat) (fun j' h3' => (h3' = h3 ∧ (i6 ≤ j' + 1 ∨ j' = j4) ∧ j' ≤ j4 ∧ scanDown (fun x => ltInt d4[a]! x) d4 i5 j'.toNat = j5) ∧ (j' + 1).toNat < (j6 + 1).toNat) h3 := fun e7 => by
      unfold slices_partitionEqualOrdered_uint64_j5
      rw [if_neg (by simp)]
      by_cases hij6 : i6 > j6
      · rw [if_pos (decide_eq_true hij6)]
        rw [if_pos (by omega)] at e4
        subst e4
        have := H h3 R4 O4
        dsimp only at this
        rw [← e6, show ((i6.toNat : Nat) : Int) = i6 from by omega] at this
        exact this
      · rw [if_neg (by rw [decide_eq_true_eq]; exact hij6)]
        rw [if_neg (by omega)] at e4
        refine Swp_ok R4 (I := j6) (J := i6) ⟨by omega, by omega⟩ ⟨by omega, by omega⟩ fun h8 R8 O8 => ?_
        rw [e6, e7] at R8
        rw [wrapI64 (by omega) (by omega), wrapI64 (by omega) (by omega)]
        refine ⟨_, rfl, _, rfl, ⟨_, R8, by rw [swp_size', z4], O4.trans O8, by dsimp only; omega, by dsimp only; omega, by dsimp only; omega, by dsimp only; omega, by dsimp only; rw [show (i6 + 1).toNat = i5 + 1 from by omega, show (j6 - 1).toNat = j5 - 1 from by omega]; exact e4⟩, by dsimp only; omega⟩
    unfold slices_partitionEqualOrdered_uint64_l4b
    by_cases hij6 : i6 ≤ j6
    · rw [if_pos (decide_eq_true hij6)]
      refine Lss_ok R4 (I := a) (J := j6) ⟨by omega, by omega⟩ ⟨by omega, by omega⟩ ?_
      rw [ea]
      cases hl : ltInt d4[a]! d4[j6.toNat]! with
      | false =>
        rw [sD_end (.inr (by simp [hl]))] at ej6
        exact done4 ej6
      | true =>
        rw [sD_go (by omega) (by omega) (by simp [hl])] at ej6
        unfold slices_partitionEqualOrdered_uint64_j5
        rw [if_pos (by simp), wrapI64 (by omega) (by omega)]
        exact ⟨_, rfl, ⟨rfl, .inl (by omega), by omega, by rw [show (j6 - 1).toNat = j6.toNat - 1 from by omega]; exact ej6⟩, by dsimp only; omega⟩
    · rw [if_neg (by rw [decide_eq_true_eq]; exact hij6)]
      rw [sD_end (.inl (by omega))] at ej6
      exact done4 ej6
  unfold slices_partitionEqualOrdered_uint64_l2b
  by_cases hij6 : i6 ≤ j4
  · rw [if_pos (decide_eq_true hij6)]
    refine Lss_ok R4 (I := a) (J := i6) ⟨by omega, by omega⟩ ⟨by omega, by omega⟩ ?_
    rw [ea]
    cases hl : ltInt d4[a]! d4[i6.toNat]! with
    | false =>
      rw [sU_go (by omega) (by simp [hl])] at ei6
      unfold slices_partitionEqualOrdered_uint64_j3
      rw [if_pos (by simp), wrapI64 (by omega) (by omega)]
      exact ⟨_, rfl, ⟨rfl, by omega, by omega, by rw [show (i6 + 1).toNat = i6.toNat + 1 from by omega]; exact ei6⟩, by dsimp only; omega⟩
    | true =>
      rw [sU_end (.inr (by simp [hl]))] at ei6
      exact done3 ei6
  · rw [if_neg (by rw [decide_eq_true_eq]; exact hij6)]
    rw [sU_end (.inl (by omega))] at ei6
    exact done3 ei6
end
end Go.Q.Yh
