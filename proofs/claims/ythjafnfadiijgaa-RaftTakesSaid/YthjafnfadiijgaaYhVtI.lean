/- A part of the proof of statements of this seat: lemmas, no statement of their own. -/
import Derived.Test.YthjafnfadiijgaaYhVt2
import Derived.Test.YthjafnfadiijgaaYhVtH
set_option linter.unusedVariables false
set_option linter.unusedSimpArgs false
set_option maxHeartbeats 1000000
namespace Go.Q.Yh
open Go.Sort
/-! ### the sort -/
def PC (s : Slc) (p1 p2 p3 : Int) (k : Unit → Heap → Prop) (h : Heap) : Prop :=
  ∃ (B : Nat) (d : Array Int) (a b : Nat), U64 B h s d ∧ p1 = a ∧ p2 = b ∧ a ≤ b ∧ b ≤ d.size ∧ d.size ≤ 32 ∧ Below ltInt a b d ∧ (0 ≤ p3 ∧ p3 ≤ 1000) ∧ ∀ d' h', U64 B h' s d' → PermIn a b d d' → SortedIn ltInt a b d' → Onl s h h' → k () h'
theorem Pdq_ok (Q : PdqR) {N : Nat} (hQ : ∀ s p1 p2 p3 k h, (p2 - p1).toNat < N → PC s p1 p2 p3 k h → Q.R s p1 p2 p3 k h) {s : Slc} {p1 p2 p3 : Int} {k : Unit → Heap → Prop} {h : Heap} (hN : (p2 - p1).toNat ≤ N) (C : PC s p1 p2 p3 k h) : slices_pdqsortOrdered_uint64 Q s p1 p2 p3 k h := by
  obtain ⟨B, d, a, b, R, rfl, rfl, ab, bs, dz, Bl, hl, H⟩ := C
  unfold slices_pdqsortOrdered_uint64 slices_pdqsortOrdered_uint64_l1
  refine ⟨fun st h' => ∃ (d' : Array Int) (a' b' : Nat), st.1 = a' ∧ st.2.1 = b' ∧ a ≤ a' ∧ a' ≤ b' ∧ b' ≤ b ∧ U64 B h' s d' ∧ d'.size = d.size ∧ Below ltInt a' b' d' ∧ (0 ≤ st.2.2.1 ∧ st.2.2.1 ≤ 1000) ∧ Onl s h h' ∧ ∀ d2, PermIn a' b' d' d2 → SortedIn ltInt a' b' d2 → PermIn a b d d2 ∧ SortedIn ltInt a b d2, fun st _ => (st.2.1 - st.1).toNat,
    ⟨d, a, b, rfl, rfl, Nat.le_refl _, ab, Nat.le_refl _, R, rfl, Bl, hl, Onl.refl _ _, fun d2 p q => ⟨p, q⟩⟩, ?_⟩
  rintro t1 t2 lim wb wp h1 ⟨d1, a1, b1, e1, e2, aa, ab1, bb, R1, z1, Bl1, hl1, O1, Fi⟩
  dsimp only at e1 e2 hl1
  subst e1; subst e2
  unfold slices_pdqsortOrdered_uint64_l1b
  rw [wrapI64 (x := (b1 : Int) - a1) (by omega) (by omega)]
  refine ⟨_, rfl, ?_⟩
  have fin : ∀ d' h', U64 B h' s d' → PermIn a1 b1 d1 d' → SortedIn ltInt a1 b1 d' → Onl s h1 h' → k () h' := fun d' h' R' P' S' O' => by
    obtain ⟨q1, q2⟩ := Fi d' P' S'
    exact H d' h' R' q1 q2 (O1.trans O')
  by_cases h12 : (b1 : Int) - a1 ≤ 12
  · rw [if_pos (decide_eq_true h12)]
    refine Ins_ok R1 ab1 (by omega) (by omega) fun h2 R2 O2 => ?_
    obtain ⟨q1, q2⟩ := insertionSort_holds swo_ltInt d1 a1 b1 ab1 (by omega)
    exact fin _ h2 R2 q1 q2 O2
  rw [if_neg (by rw [decide_eq_true_eq]; exact h12)]
  by_cases hl0 : lim = 0
  · rw [if_pos (by simpa using hl0)]
    refine Heap_ok R1 (by omega) (by omega) (by omega) fun h2 R2 O2 => ?_
    obtain ⟨q1, q2⟩ := heapSort_holds swo_ltInt d1 a1 b1 ab1 (by omega)
    exact fin _ h2 R2 q1 q2 O2
  rw [if_neg (by simpa using hl0)]
  -- the pivot, and on
  have j2 : ∀ (d2 : Array Int) (h2 : Heap) (lim' : Int), (0 ≤ lim' ∧ lim' ≤ 1000) → U64 B h2 s d2 → PermIn a1 b1 d1 d2 → Onl s h1 h2 → slices_pdqsortOrdered_uint64_j2 Q s a1 b1 wb wp ((b1 : Int) - a1) lim' k (fun st h' => (∃ (d' : Array Int) (a' b' : Nat), st.1 = a' ∧ st.2.1 = b' ∧ a ≤ a' ∧ a' ≤ b' ∧ b' ≤ b ∧ U64 B h' s d' ∧ d'.size = d.size ∧ Below ltInt a' b' d' ∧ (0 ≤ st.2.2.1 ∧ st.2.2.1 ≤ 1000) ∧ Onl s h h' ∧ ∀ d2, PermIn a' b' d' d2 → SortedIn ltInt a' b' d2 → PermIn a b d d2 ∧ SortedIn ltInt a b d2) ∧ (st.2.1 - st.1).toNat < ((b1 : Int) - a1).toNat) h2 := fun d2 h2 lim' hl' R2 P2 O2 => by
    have z2 := P2.1
    have j4 : ∀ (d3 : Array Int) (h3 : Heap) (pv : Nat), a1 ≤ pv → pv < b1 → U64 B h3 s d3 → PermIn a1 b1 d1 d3 → Onl s h1 h3 → slices_pdqsortOrdered_uint64_j4 Q s a1 b1 lim' wb wp ((b1 : Int) - a1) pv k (fun st h' => (∃ (d' : Array Int) (a' b' : Nat), st.1 = a' ∧ st.2.1 = b' ∧ a ≤ a' ∧ a' ≤ b' ∧ b' ≤ b ∧ U64 B h' s d' ∧ d'.size = d.size ∧ Below ltInt a' b' d' ∧ (0 ≤ st.2.2.1 ∧ st.2.2.1 ≤ 1000) ∧ Onl s h h' ∧ ∀ d2, PermIn a' b' d' d2 → SortedIn ltInt a' b' d2 → PermIn a b d d2 ∧ SortedIn ltInt a b d2) ∧ (st.2.1 - st.1).toNat < ((b1 : Int) - a1).toNat) h3 := fun d3 h3 pv pv0 pv1 R3 P3 O3 => by
      have z3 := P3.1
      have Bl3 : Below ltInt a1 b1 d3 := Bl1.perm (by omega) P3
      have O03 := O1.trans O3
      have part : slices_pdqsortOrdered_uint64_j5 Q s a1 b1 lim' wb wp ((b1 : Int) - a1) pv false k (fun st h' => (∃ (d' : Array Int) (a' b' : Nat), st.1 = a' ∧ st.2.1 = b' ∧ a ≤ a' ∧ a' ≤ b' ∧ b' ≤ b ∧ U64 B h' s d' ∧ d'.size = d.size ∧ Below ltInt a' b' d' ∧ (0 ≤ st.2.2.1 ∧ st.2.2.1 ≤ 1000) ∧ Onl s h h' ∧ ∀ d2, PermIn a' b' d' d2 → SortedIn ltInt a' b' d2 → PermIn a b d d2 ∧ SortedIn ltInt a b d2) ∧ (st.2.1 - st.1).toNat < ((b1 : Int) - a1).toNat) h3 := by
        unfold slices_pdqsortOrdered_uint64_j5
        rw [if_neg (by simp)]
        refine Part_ok R3 pv0 pv1 (by omega) (by omega) fun h4 R4 O4 => ?_
        have O04 := O03.trans O4
        rcases hx : partition ltInt d3 a1 b1 pv with ⟨mid, ap, d4⟩
        rw [hx] at R4
        obtain ⟨g1, g2, z4, B1, B2, hle, hri⟩ := round_part swo_ltInt (partition_holds ltInt) pv0 pv1 (by omega) Bl3 hx
        dsimp only at R4 ⊢
        rw [wrapI64 (x := (mid : Int) - a1) (by omega) (by omega), wrapI64 (x := (b1 : Int) - mid) (by omega) (by omega), wrapI64 (x := (mid : Int) + 1) (by omega) (by omega)]
        refine ⟨_, rfl, _, rfl, _, rfl, ?_⟩
        by_cases hlt : (mid : Int) - a1 < (b1 : Int) - mid
        · rw [if_pos (decide_eq_true hlt)]
          refine hQ _ _ _ _ _ _ (by omega) ⟨B, d4, a1, mid, R4, rfl, rfl, g1, by omega, by omega, B1, hl', fun d5 h5 R5 P5 S5 O5 => ?_⟩
          obtain ⟨B5, f5⟩ := hle d5 P5 S5
          have z5 := P5.1
          refine ⟨_, rfl, ⟨d5, mid + 1, b1, by omega, rfl, by omega, by omega, bb, R5, by omega, B5, hl', O04.trans O5, fun d6 P6 S6 => ?_⟩, by omega⟩
          obtain ⟨q1, q2⟩ := f5 d6 P6 S6
          exact Fi d6 (permIn_trans _ _ _ a1 b1 P3 q1) q2
        · rw [if_neg (by rw [decide_eq_true_eq]; exact hlt)]
          refine hQ _ _ _ _ _ _ (by omega) ⟨B, d4, mid + 1, b1, R4, by omega, rfl, by omega, by omega, by omega, B2, hl', fun d5 h5 R5 P5 S5 O5 => ?_⟩
          obtain ⟨B5, f5⟩ := hri d5 P5 S5
          have z5 := P5.1
          refine ⟨⟨d5, a1, mid, rfl, rfl, aa, g1, by omega, R5, by omega, B5, hl', O04.trans O5, fun d6 P6 S6 => ?_⟩, by omega⟩
          obtain ⟨q1, q2⟩ := f5 d6 P6 S6
          exact Fi d6 (permIn_trans _ _ _ a1 b1 P3 q1) q2
      unfold slices_pdqsortOrdered_uint64_j4
      by_cases ha0 : (a1 : Int) > 0
      · rw [if_pos (decide_eq_true ha0), wrapI64 (by omega) (by omega)]
        refine Lss_ok R3 ⟨by omega, by omega⟩ ⟨by omega, by omega⟩ ?_
        rw [show ((a1 : Int) - 1).toNat = a1 - 1 from by omega, Int.toNat_natCast]
        cases hl2 : ltInt d3[a1 - 1]! d3[pv]! with
        | true => exact part
        | false =>
          show slices_pdqsortOrdered_uint64_j5 Q s a1 b1 lim' wb wp ((b1 : Int) - a1) pv true k _ h3
          unfold slices_pdqsortOrdered_uint64_j5
          rw [if_pos rfl]
          refine PartEq_ok R3 pv0 pv1 (by omega) (by omega) fun h4 R4 O4 => ?_
          rcases hx : partitionEqual ltInt d3 a1 b1 pv with ⟨mid, d4⟩
          rw [hx] at R4
          obtain ⟨g1, g2, z4, B1, f4⟩ := round_eq swo_ltInt (partitionEqual_holds ltInt) (by omega) pv0 pv1 (by omega) Bl3 hl2 hx
          dsimp only at R4 ⊢
          refine ⟨⟨d4, mid, b1, rfl, rfl, by omega, g2, bb, R4, by omega, B1, hl', O03.trans O4, fun d6 P6 S6 => ?_⟩, by omega⟩
          obtain ⟨q1, q2⟩ := f4 d6 P6 S6
          exact Fi d6 (permIn_trans _ _ _ a1 b1 P3 q1) q2
      · rw [if_neg (by rw [decide_eq_true_eq]; exact ha0)]
        exact part
    have j3 : ∀ (d3 : Array Int) (h3 : Heap) (pv : Nat) (hint : Int), a1 ≤ pv → pv < b1 → U64 B h3 s d3 → PermIn a1 b1 d1 d3 → Onl s h1 h3 → slices_pdqsortOrdered_uint64_j3 Q s a1 b1 lim' wb wp ((b1 : Int) - a1) pv hint k (fun st h' => (∃ (d' : Array Int) (a' b' : Nat), st.1 = a' ∧ st.2.1 = b' ∧ a ≤ a' ∧ a' ≤ b' ∧ b' ≤ b ∧ U64 B h' s d' ∧ d'.size = d.size ∧ Below ltInt a' b' d' ∧ (0 ≤ st.2.2.1 ∧ st.2.2.1 ≤ 1000) ∧ Onl s h h' ∧ ∀ d2, PermIn a' b' d' d2 → SortedIn ltInt a' b' d2 → PermIn a b d d2 ∧ SortedIn ltInt a b d2) ∧ (st.2.1 - st.1).toNat < ((b1 : Int) - a1).toNat) h3 := fun d3 h3 pv hint pv0 pv1 R3 P3 O3 => by
      have z3 := P3.1
      unfold slices_pdqsortOrdered_uint64_j3
      by_cases hc : ((wb && wp) && (hint == 1)) = true
      · rw [if_pos hc]
        refine Pins_ok R3 (by omega) (by omega) (by omega) (fun S => ?_) ?_
        · rw [if_pos rfl]; exact fin d3 h3 R3 P3 S O3
        · rw [if_neg (by simp)]; exact j4 d3 h3 pv pv0 pv1 R3 P3 O3
      · rw [if_neg hc]; exact j4 d3 h3 pv pv0 pv1 R3 P3 O3
    unfold slices_pdqsortOrdered_uint64_j2
    refine Pivot_ok R2 (by omega) (by omega) (by omega) fun p hint h3 p0 p1 R3 O3 => ?_
    dsimp only
    by_cases h2' : hint = 2
    · rw [if_pos (by simpa using h2')]
      refine Rev_ok R3 (by omega) (by omega) (by omega) fun d4 h4 R4 P4 O4 => ?_
      rw [wrapI64 (x := (b1 : Int) - 1) (by omega) (by omega), wrapI64 (x := (p : Int) - a1) (by omega) (by omega), wrapI64 (by omega) (by omega)]
      refine ⟨_, rfl, ?_⟩
      have := j3 d4 h4 (b1 - 1 - (p - a1)) 1 (by omega) (by omega) R4 (permIn_trans _ _ _ a1 b1 P2 P4) (O2.trans (O3.trans O4))
      rw [show ((b1 - 1 - (p - a1) : Nat) : Int) = (b1 : Int) - 1 - ((p : Int) - a1) from by omega] at this
      exact this
    · rw [if_neg (by simpa using h2')]
      exact j3 d2 h3 p hint p0 p1 R3 P2 (O2.trans O3)
  cases wb with
  | false =>
    rw [if_pos (by simp)]
    refine Break_ok R1 (by omega) (by omega) (by omega) fun d2 h2 R2 P2 O2 => ?_
    rw [wrapI64 (by omega) (by omega)]
    exact ⟨_, rfl, j2 d2 h2 (lim - 1) ⟨by omega, by omega⟩ R2 P2 O2⟩
  | true =>
    rw [if_neg (by simp)]
    exact j2 d1 h1 lim hl1 R1 (permIn_refl d1 a1 b1) (Onl.refl _ _)
def pdqQ : Nat → PdqR
  | 0 => ⟨fun _ _ _ _ _ _ => False, fun _ _ _ _ _ _ h => h.elim⟩
  | n + 1 => ⟨fun s p1 p2 p3 k h => slices_pdqsortOrdered_uint64 (pdqQ n) s p1 p2 p3 k h, fun p0 p1 p2 p3 k h H => slices_pdqsortOrdered_uint64_ref (pdqQ n) p0 p1 p2 p3 k h H⟩
theorem pdqQ_ok : ∀ (n : Nat) (s : Slc) (p1 p2 p3 : Int) (k : Unit → Heap → Prop) (h : Heap), (p2 - p1).toNat < n → PC s p1 p2 p3 k h → (pdqQ n).R s p1 p2 p3 k h
  | 0, _, _, _, _, _, _, hn, _ => by omega
  | n + 1, s, p1, p2, p3, k, h, hn, C => Pdq_ok (pdqQ n) (N := n) (fun s p1 p2 p3 k h hn' C' => pdqQ_ok n s p1 p2 p3 k h hn' C') (by omega) C
end Go.Q.Yh
