/- A part of the proof of statements of this seat: lemmas, no statement of their own. -/
import Derived.Test.YthjafnfadiijgaaYhVtG
import Derived.Test.YthjafnfadiijgaaYhVtL
set_option linter.unusedVariables false
set_option linter.unusedSimpArgs false
set_option maxHeartbeats 1000000
namespace Go.Q.Yh
open Go.Sort
/-! ### the heap -/
theorem sift_eq (hi first root : Nat) (d : Array Int) : siftDown ltInt hi first root d = if hi ≤ 2 * root + 1 then d else
    if ltInt d[first + root]! d[first + (if 2 * root + 2 < hi ∧ ltInt d[first + (2 * root + 1)]! d[first + (2 * root + 1) + 1]! = true then 2 * root + 2 else 2 * root + 1)]! = true then
      siftDown ltInt hi first (if 2 * root + 2 < hi ∧ ltInt d[first + (2 * root + 1)]! d[first + (2 * root + 1) + 1]! = true then 2 * root + 2 else 2 * root + 1) (swp d (first + root) (first + (if 2 * root + 2 < hi ∧ ltInt d[first + (2 * root + 1)]! d[first + (2 * root + 1) + 1]! = true then 2 * root + 2 else 2 * root + 1))) else d := by
  rw [siftDown]
  by_cases h1 : hi ≤ 2 * root + 1
  · rw [dif_pos h1, if_pos h1]
  rw [dif_neg h1, if_neg h1]
  by_cases h2 : 2 * root + 2 < hi ∧ ltInt d[first + (2 * root + 1)]! d[first + (2 * root + 1) + 1]! = true
  · rw [if_pos (by simp; exact ⟨by omega, h2.2⟩), if_pos h2]
    cases h3 : ltInt d[first + root]! d[first + (2 * root + 2)]! with
    | true => rw [if_neg (by simp), dif_pos h2.1, if_pos rfl]
    | false => rw [if_pos (by simp), if_neg (by simp)]
  · rw [if_neg (by simp; intro h; cases h4 : ltInt d[first + (2 * root + 1)]! d[first + (2 * root + 1) + 1]! with
                   | true => exact absurd ⟨by omega, h4⟩ h2
                   | false => rfl), if_neg h2]
    cases h3 : ltInt d[first + root]! d[first + (2 * root + 1)]! with
    | true => rw [if_neg (by simp), if_pos rfl]
    | false => rw [if_pos (by simp), if_neg (by simp)]
section
variable {B : Nat} {h : Heap} {s : Slc} {d : Array Int} {a b : Nat}
theorem Sift_ok {lo hi first : Nat} {k : Unit → Heap → Prop} (R : U64 B h s d) (hs : first + hi ≤ d.size) (hl : lo ≤ 1000) (hz : d.size ≤ 1000) (H : ∀ h', U64 B h' s (siftDown ltInt hi first lo d) → Onl s h h' → k () h') : slices_siftDownOrdered_uint64 s lo hi first k h := by
  unfold slices_siftDownOrdered_uint64 slices_siftDownOrdered_uint64_l1
  refine ⟨fun r h' => ∃ d', U64 B h' s d' ∧ d'.size = d.size ∧ Onl s h h' ∧ 0 ≤ r ∧ r ≤ 1000 ∧ siftDown ltInt hi first r.toNat d' = siftDown ltInt hi first lo d, fun r _ => (hi - r).toNat, ⟨d, R, rfl, Onl.refl _ _, by omega, by omega, by rw [Int.toNat_natCast]⟩, ?_⟩
  rintro r h1 ⟨d1, R1, z1, O1, r0, r1, e1⟩
  rw [sift_eq] at e1
  unfold slices_siftDownOrdered_uint64_l1b
  rw [wrapI64 (x := 2 * r) (by omega) (by omega), wrapI64 (by omega) (by omega)]
  refine ⟨_, rfl, ?_⟩
  by_cases hd : 2 * r + 1 ≥ (hi : Int)
  · rw [if_pos (decide_eq_true hd)]
    rw [if_pos (by omega)] at e1
    rw [e1] at R1
    exact H h1 R1 O1
  rw [if_neg (by rw [decide_eq_true_eq]; exact hd)]
  rw [if_neg (by omega)] at e1
  have j2 : ∀ c : Nat, (c = if 2 * r.toNat + 2 < hi ∧ ltInt d1[first + (2 * r.toNat + 1)]! d1[first + (2 * r.toNat + 1) + 1]! = true then 2 * r.toNat + 2 else 2 * r.toNat + 1) → c < hi → slices_siftDownOrdered_uint64_j2 s hi first r c k (fun r' h' => (∃ d', U64 B h' s d' ∧ d'.size = d.size ∧ Onl s h h' ∧ 0 ≤ r' ∧ r' ≤ 1000 ∧ siftDown ltInt hi first r'.toNat d' = siftDown ltInt hi first lo d) ∧ ((hi : Int) - r').toNat < ((hi : Int) - r).toNat) h1 := fun c hc ch => by
    rw [← hc] at e1
    have cr : r < c := by rw [hc]; split <;> omega
    unfold slices_siftDownOrdered_uint64_j2
    rw [wrapI64 (by omega) (by omega), wrapI64 (by omega) (by omega)]
    refine Lss_ok R1 ⟨by omega, by omega⟩ ⟨by omega, by omega⟩ ?_
    have ei : ((first : Int) + r).toNat = first + r.toNat := by omega
    have ej : ((first : Int) + c).toNat = first + c := by omega
    cases hl : ltInt d1[((first : Int) + r).toNat]! d1[((first : Int) + c).toNat]! with
    | false =>
      rw [ei, ej] at hl
      rw [if_neg (by rw [hl]; simp)] at e1
      rw [if_pos (by simp)]
      rw [e1] at R1
      exact H h1 R1 O1
    | true =>
      rw [ei, ej] at hl
      rw [if_pos hl] at e1
      rw [if_neg (by simp)]
      refine Swp_ok R1 (I := (first : Int) + c) (J := (first : Int) + r) ⟨by omega, by omega⟩ ⟨by omega, by omega⟩ fun h2 R2 O2 => ?_
      rw [ei, ej] at R2
      exact ⟨⟨_, R2, by rw [swp_size', z1], O1.trans O2, by omega, by omega, by rw [Int.toNat_natCast]; exact e1⟩, by omega⟩
  have j3 : ∀ f : Bool, (f = true ↔ 2 * r.toNat + 2 < hi ∧ ltInt d1[first + (2 * r.toNat + 1)]! d1[first + (2 * r.toNat + 1) + 1]! = true) → slices_siftDownOrdered_uint64_j3 s hi first r (2 * r + 1) f k (fun r' h' => (∃ d', U64 B h' s d' ∧ d'.size = d.size ∧ Onl s h h' ∧ 0 ≤ r' ∧ r' ≤ 1000 ∧ siftDown ltInt hi first r'.toNat d' = siftDown ltInt hi first lo d) ∧ ((hi : Int) - r').toNat < ((hi : Int) - r).toNat) h1 := fun f hf => by
    unfold slices_siftDownOrdered_uint64_j3
    cases f with
    | true =>
      rw [if_pos rfl, wrapI64 (by omega) (by omega)]
      refine ⟨_, rfl, ?_⟩
      have := hf.1 rfl
      have := j2 (2 * r.toNat + 2) (by rw [if_pos this]) this.1
      rw [show ((2 * r.toNat + 2 : Nat) : Int) = 2 * r + 1 + 1 from by omega] at this
      exact this
    | false =>
      rw [if_neg (by simp)]
      have hn : ¬ (2 * r.toNat + 2 < hi ∧ ltInt d1[first + (2 * r.toNat + 1)]! d1[first + (2 * r.toNat + 1) + 1]! = true) := fun e => by have := hf.2 e; cases this
      have := j2 (2 * r.toNat + 1) (by rw [if_neg hn]) (by omega)
      rw [show ((2 * r.toNat + 1 : Nat) : Int) = 2 * r + 1 from by omega] at this
      exact this
  rw [wrapI64 (by omega) (by omega)]
  by_cases h2 : 2 * r + 1 + 1 < (hi : Int)
  · rw [if_pos (decide_eq_true h2), wrapI64 (x := (first : Int) + (2 * r + 1)) (by omega) (by omega), wrapI64 (by omega) (by omega)]
    refine Lss_ok R1 ⟨by omega, by omega⟩ ⟨by omega, by omega⟩ ?_
    rw [show ((first : Int) + (2 * r + 1)).toNat = first + (2 * r.toNat + 1) from by omega, show ((first : Int) + (2 * r + 1) + 1).toNat = first + (2 * r.toNat + 1) + 1 from by omega]
    exact j3 _ ⟨fun e => ⟨by omega, e⟩, fun e => e.2⟩
  · rw [if_neg (by rw [decide_eq_true_eq]; exact h2)]
    exact j3 false ⟨fun e => Bool.noConfusion e, fun e => absurd e.1 (by omega)⟩
theorem sift_size : ∀ (n hi first root : Nat) (d : Array Int), hi - root ≤ n → (siftDown ltInt hi first root d).size = d.size
  | 0, hi, first, root, d, hn => by rw [sift_eq, if_pos (by omega)]
  | n + 1, hi, first, root, d, hn => by
    rw [sift_eq]
    by_cases h1 : hi ≤ 2 * root + 1
    · rw [if_pos h1]
    rw [if_neg h1]
    obtain ⟨c, hc⟩ : ∃ c, c = if 2 * root + 2 < hi ∧ ltInt d[first + (2 * root + 1)]! d[first + (2 * root + 1) + 1]! = true then 2 * root + 2 else 2 * root + 1 := ⟨_, rfl⟩
    rw [← hc]
    have cr : root < c := by rw [hc]; split <;> omega
    by_cases h2 : ltInt d[first + root]! d[first + c]! = true
    · rw [if_pos h2, sift_size n _ _ _ _ (by omega), swp_size']
    · rw [if_neg h2]
theorem Heap_ok {k : Unit → Heap → Prop} (R : U64 B h s d) (ab : a < b) (hs : b ≤ d.size) (hz : d.size ≤ 1000) (H : ∀ h', U64 B h' s (heapSort ltInt d a b) → Onl s h h' → k () h') : slices_heapSortOrdered_uint64 s a b k h := by
  unfold slices_heapSortOrdered_uint64
  rw [wrapI64 (x := (b : Int) - a) (by omega) (by omega)]
  refine ⟨_, rfl, ?_⟩
  rw [wrapI64 (x := (b : Int) - a - 1) (by omega) (by omega), Int.tdiv_eq_ediv_of_nonneg (by omega), wrapI64 (by omega) (by omega)]
  refine ⟨_, rfl, ?_⟩
  have en : (b : Int) - a = ((b - a : Nat) : Int) := by omega
  rw [en]
  unfold heapSort at H
  generalize hF : heapBuild ltInt (b - a) a ((b - a - 1) / 2 + 1) d = F at *
  unfold slices_heapSortOrdered_uint64_l1
  refine ⟨fun i h' => ∃ d', U64 B h' s d' ∧ d'.size = d.size ∧ Onl s h h' ∧ -1 ≤ i ∧ i ≤ b ∧ heapBuild ltInt (b - a) a (i + 1).toNat d' = F, fun i _ => (i + 1).toNat,
    ⟨d, R, rfl, Onl.refl _ _, by omega, by omega, by rw [show ((((b - a : Nat) : Int) - 1) / 2 + 1).toNat = (b - a - 1) / 2 + 1 from by omega]; exact hF⟩, ?_⟩
  rintro i h1 ⟨d1, R1, z1, O1, i0, iB, e1⟩
  unfold slices_heapSortOrdered_uint64_l1b
  by_cases hi : i ≥ 0
  · rw [if_pos (decide_eq_true hi)]
    rw [show (i + 1).toNat = i.toNat + 1 from by omega] at e1
    have ei : ((i.toNat : Nat) : Int) = i := by omega
    rw [← ei]
    refine Sift_ok R1 (by omega) (by omega) (by omega) fun h2 R2 O2 => ?_
    rw [ei, wrapI64 (by omega) (by omega)]
    refine ⟨_, rfl, ⟨_, R2, by rw [sift_size _ _ _ _ _ (Nat.le_refl _), z1], O1.trans O2, by omega, by omega, ?_⟩, by dsimp only; omega⟩
    rw [show (i - 1 + 1).toNat = i.toNat from by omega]
    exact e1
  rw [if_neg (by rw [decide_eq_true_eq]; exact hi)]
  rw [show (i + 1).toNat = 0 from by omega] at e1
  change d1 = F at e1
  subst e1
  rw [wrapI64 (by omega) (by omega)]
  refine ⟨_, rfl, ?_⟩
  generalize hG : heapPop ltInt a (b - a) d1 = G at *
  unfold slices_heapSortOrdered_uint64_l2
  refine ⟨fun i h' => ∃ d', U64 B h' s d' ∧ d'.size = d.size ∧ Onl s h h' ∧ -1 ≤ i ∧ i < (b - a : Nat) ∧ heapPop ltInt a (i + 1).toNat d' = G, fun i _ => (i + 1).toNat,
    ⟨d1, R1, z1, O1, by omega, by omega, by rw [show (((b - a : Nat) : Int) - 1 + 1).toNat = b - a from by omega]; exact hG⟩, ?_⟩
  rintro i h2 ⟨d2, R2, z2, O2, i0, iB, e2⟩
  unfold slices_heapSortOrdered_uint64_l2b
  by_cases hi : i ≥ 0
  · rw [if_pos (decide_eq_true hi)]
    rw [show (i + 1).toNat = i.toNat + 1 from by omega] at e2
    rw [wrapI64 (by omega) (by omega)]
    refine Swp_ok R2 (I := (a : Int) + i) (J := a) ⟨by omega, by omega⟩ ⟨by omega, by omega⟩ fun h3 R3 O3 => ?_
    rw [Int.toNat_natCast, show ((a : Int) + i).toNat = a + i.toNat from by omega] at R3
    have ei : ((i.toNat : Nat) : Int) = i := by omega
    have z3 : (swp d2 a (a + i.toNat)).size = d.size := by rw [swp_size', z2]
    rw [← ei]
    refine Sift_ok (lo := 0) R3 (by omega) (by omega) (by omega) fun h4 R4 O4 => ?_
    rw [ei, wrapI64 (by omega) (by omega)]
    refine ⟨_, rfl, ⟨_, R4, by rw [sift_size _ _ _ _ _ (Nat.le_refl _), z3], O2.trans (O3.trans O4), by omega, by omega, ?_⟩, by dsimp only; omega⟩
    rw [show (i - 1 + 1).toNat = i.toNat from by omega]
    exact e2
  · rw [if_neg (by rw [decide_eq_true_eq]; exact hi)]
    rw [show (i + 1).toNat = 0 from by omega] at e2
    change d2 = G at e2
    subst e2
    exact H h2 R2 O2
/-! ### turned about, stirred, and where the pivot is -/
theorem Rev_ok {k : Unit → Heap → Prop} (R : U64 B h s d) (ab : a ≤ b) (hs : b ≤ d.size) (hz : d.size ≤ 1000) (H : ∀ d' h', U64 B h' s d' → PermIn a b d d' → Onl s h h' → k () h') : slices_reverseRangeOrdered_uint64 s a b k h := by
  unfold slices_reverseRangeOrdered_uint64
  rw [wrapI64 (by omega) (by omega)]
  refine ⟨_, rfl, ?_⟩
  unfold slices_reverseRangeOrdered_uint64_l1
  refine ⟨fun st h' => ∃ d', U64 B h' s d' ∧ PermIn a b d d' ∧ Onl s h h' ∧ (a : Int) ≤ st.1 ∧ st.2 ≤ (b : Int) - 1 ∧ st.1 ≤ 1000 ∧ -1 ≤ st.2, fun st _ => (st.2 - st.1).toNat, ⟨d, R, permIn_refl d a b, Onl.refl _ _, by dsimp only; omega, by dsimp only; omega, by dsimp only; omega, by dsimp only; omega⟩, ?_⟩
  rintro i j h1 ⟨d1, R1, P1, O1, i0, jB, iB, j0⟩
  dsimp only at i0 jB iB j0
  have z1 := P1.1
  unfold slices_reverseRangeOrdered_uint64_l1b
  by_cases hij : i < j
  · rw [if_pos (decide_eq_true hij)]
    refine Swp_ok R1 (I := j) (J := i) ⟨by omega, by omega⟩ ⟨by omega, by omega⟩ fun h2 R2 O2 => ?_
    rw [wrapI64 (by omega) (by omega), wrapI64 (by omega) (by omega)]
    exact ⟨_, rfl, _, rfl, ⟨_, R2, permIn_trans _ _ _ a b P1 (swp_permIn d1 a b i.toNat j.toNat (by omega) (by omega) (by omega) (by omega) (by omega)), O1.trans O2, by dsimp only; omega, by dsimp only; omega, by dsimp only; omega, by dsimp only; omega⟩, by dsimp only; omega⟩
  · rw [if_neg (by rw [decide_eq_true_eq]; exact hij)]
    exact H d1 h1 R1 P1 O1
theorem U64.other {h' : Heap} {c E : Nat} {cs : List Value} (R : U64 B h s d) (T : Blk h c cs E) (hE : 22 ≠ E) (U : Upd c h h') : U64 B h' s d :=
  Row.keep R fun g hg => U.block g (R.bd hg).2 fun e => R.ne_blk T hE (e ▸ hg)
theorem Next_ok {c : Nat} {v : Int} {k : Int → Heap → Prop} (T : Blk h c [.int .u64 v] 159) (H : ∀ r h', (0 ≤ r ∧ r < 18446744073709551616) → Blk h' c [.int .u64 r] 159 → Upd c h h' → k r h') : slices_xorshift_Next (some ⟨c, 0, none⟩) k h := by
  unfold slices_xorshift_Next
  have up : ∀ (h1 : Heap) w, Upd c h1 (setH h1 ⟨c, 0, none⟩ w) := fun h1 w => ⟨by rw [setH_size]; exact Nat.le_refl _, fun i _ hi => setH_other hi⟩
  have c0 : ∀ {h1 : Heap} {w : Int}, Blk h1 c [.int .u64 w] 159 → cellH h1 ⟨c, 0, none⟩ = some (.int .u64 w) := fun K => by rw [K.cell]; rfl
  have st : ∀ {h1 : Heap} {w x : Int}, Blk h1 c [.int .u64 w] 159 → Blk (setH h1 ⟨c, 0, none⟩ (.int .u64 x)) c [.int .u64 x] 159 := fun K => K.set
  have T1 := st (x := bwXor .u64 v (shl .u64 v (13 : Int).toNat)) T
  refine ⟨_, rfl, v, c0 T, v, c0 T, _, T.wr (by simp), rfl, ?_⟩
  generalize bwXor .u64 v (shl .u64 v (13 : Int).toNat) = v1 at *
  have T2 := st (x := bwXor .u64 v1 (shr .u64 v1 (7 : Int).toNat)) T1
  refine ⟨v1, c0 T1, v1, c0 T1, _, T1.wr (by simp), rfl, ?_⟩
  generalize bwXor .u64 v1 (shr .u64 v1 (7 : Int).toNat) = v2 at *
  have T3 := st (x := bwXor .u64 v2 (shl .u64 v2 (17 : Int).toNat)) T2
  refine ⟨v2, c0 T2, v2, c0 T2, _, T2.wr (by simp), rfl, _, c0 T3, ?_⟩
  refine H _ _ ?_ T3 ((up _ _).trans ((up _ _).trans (up _ _)))
  unfold bwXor
  rw [wU64]
  omega
theorem Break_ok {k : Unit → Heap → Prop} (R : U64 B h s d) (ab : a ≤ b) (hs : b ≤ d.size) (hz : d.size ≤ 32) (H : ∀ d' h', U64 B h' s d' → PermIn a b d d' → Onl s h h' → k () h') : slices_breakPatternsOrdered_uint64 s a b k h := by
  unfold slices_breakPatternsOrdered_uint64
  rw [wrapI64 (x := (b : Int) - a) (by omega) (by omega)]
  refine ⟨_, rfl, ?_⟩
  by_cases h8 : (b : Int) - a ≥ 8
  · rw [if_pos (decide_eq_true h8)]
    refine ⟨_, _, rfl, rfl, ?_⟩
    have T0 := Blk.push h ([.int .u64 0] : List Value) 159
    have E1 := Ext.push h (.cells ([.int .u64 0] : List Value).toArray 159) (Nat.le_refl h.size)
    have R1 := R.pushed (.cells ([.int .u64 0] : List Value).toArray 159)
    generalize h.push (.cells ([.int .u64 0] : List Value).toArray 159) = h1 at *
    refine ⟨_, T0.wr (by simp), rfl, ?_⟩
    rw [wrapU64 (by omega) (by omega)]
    have T1 : Blk (setH h1 ⟨h.size, 0, none⟩ (.int .u64 ((b : Int) - a))) h.size [.int .u64 ((b : Int) - a)] 159 := T0.set
    have U1 : Upd h.size h1 (setH h1 ⟨h.size, 0, none⟩ (.int .u64 ((b : Int) - a))) := ⟨by rw [setH_size]; exact Nat.le_refl _, fun i _ hi => setH_other hi⟩
    have R2 : U64 B (setH h1 ⟨h.size, 0, none⟩ (.int .u64 ((b : Int) - a))) s d := U64.other R1 T0 (by decide) U1
    have O2 : Onl s h (setH h1 ⟨h.size, 0, none⟩ (.int .u64 ((b : Int) - a))) := ⟨by rw [setH_size]; exact E1.size, fun g hg _ => (U1.block g (by have := E1.size; omega) (by omega)).trans (E1.block g hg)⟩
    generalize setH h1 ⟨h.size, 0, none⟩ (.int .u64 ((b : Int) - a)) = h2 at *
    unfold slices_nextPowerOfTwo
    have en : (b : Int) - a = ((b - a : Nat) : Int) := by omega
    rw [en, wrapU64 (by omega) (by omega)]
    refine Len_ok (by omega) ?_
    have hm : 2 ^ bitsLen (b - a) ≤ 2 * (b - a) ∧ 0 < 2 ^ bitsLen (b - a) := by
      have key : (List.range 33).all (fun n => decide (n < 8 ∨ (2 ^ bitsLen n ≤ 2 * n ∧ 0 < 2 ^ bitsLen n))) = true := by decide +kernel
      have := List.all_eq_true.1 key (b - a) (by simp; omega)
      rw [decide_eq_true_eq] at this
      omega
    have hb6 : bitsLen (b - a) ≤ 8 := by
      have key : (List.range 33).all (fun n => decide (bitsLen n ≤ 8)) = true := by decide +kernel
      have := List.all_eq_true.1 key (b - a) (by simp; omega)
      simpa using this
    have es : shl .u64 1 ((bitsLen (b - a) : Nat) : Int).toNat = ((2 ^ bitsLen (b - a) : Nat) : Int) := by
      unfold shl
      rw [Int.toNat_natCast, show min (bitsLen (b - a)) IntKind.u64.bits = bitsLen (b - a) from Nat.min_eq_left (by show _ ≤ 64; omega), Int.one_mul]
      have : ((2 : Int) ^ bitsLen (b - a)) = ((2 ^ bitsLen (b - a) : Nat) : Int) := by simp
      rw [this]
      generalize 2 ^ bitsLen (b - a) = P at *
      rw [wrapU64 (by omega) (by omega)]
    refine ⟨by omega, _, rfl, ?_⟩
    rw [es]
    generalize 2 ^ bitsLen (b - a) = P at *
    have et : Int.tdiv ((b - a : Nat) : Int) 4 = ((b - a : Nat) : Int) / 4 := Int.tdiv_eq_ediv_of_nonneg (by omega)
    rw [et, wrapI64 (x := ((b - a : Nat) : Int) / 4) (by omega) (by omega), wrapI64 (x := ((b - a : Nat) : Int) / 4 * 2) (by omega) (by omega), wrapI64 (x := (a : Int) + ((b - a : Nat) : Int) / 4 * 2) (by omega) (by omega), wrapI64 (by omega) (by omega)]
    refine ⟨_, rfl, ?_⟩
    unfold slices_breakPatternsOrdered_uint64_l1
    refine ⟨fun i h' => ∃ d' v, U64 B h' s d' ∧ PermIn a b d d' ∧ Onl s h h' ∧ Blk h' h.size [.int .u64 v] 159 ∧ (a : Int) + ((b - a : Nat) : Int) / 4 * 2 - 1 ≤ i ∧ i ≤ (a : Int) + ((b - a : Nat) : Int) / 4 * 2 + 2, fun i _ => ((a : Int) + ((b - a : Nat) : Int) / 4 * 2 + 2 - i).toNat,
      ⟨d, _, R2, permIn_refl d a b, O2, T1, by omega, by omega⟩, ?_⟩
    rintro i h3 ⟨d3, v, R3, P3, O3, T3, i0, iB⟩
    have z3 := P3.1
    unfold slices_breakPatternsOrdered_uint64_l1b
    rw [et, wrapI64 (x := ((b - a : Nat) : Int) / 4) (by omega) (by omega), wrapI64 (x := ((b - a : Nat) : Int) / 4 * 2) (by omega) (by omega), wrapI64 (x := (a : Int) + ((b - a : Nat) : Int) / 4 * 2) (by omega) (by omega), wrapI64 (x := (a : Int) + ((b - a : Nat) : Int) / 4 * 2 + 1) (by omega) (by omega)]
    by_cases hi : i ≤ (a : Int) + ((b - a : Nat) : Int) / 4 * 2 + 1
    · rw [if_pos (decide_eq_true hi)]
      refine Next_ok T3 fun r h4 hr T4 U4 => ?_
      have R4 := U64.other R3 T3 (by decide) U4
      have O4 : Onl s h h4 := ⟨Nat.le_trans O3.size U4.size, fun g hg hne => (U4.block g (by have := O3.size; omega) (by omega)).trans (O3.block g hg hne)⟩
      have j2 : ∀ o : Nat, o < b - a → slices_breakPatternsOrdered_uint64_j2 s a ((b - a : Nat) : Int) ⟨h.size, 0, none⟩ (P : Int) i o k (fun i' h' => (∃ d' v, U64 B h' s d' ∧ PermIn a b d d' ∧ Onl s h h' ∧ Blk h' h.size [.int .u64 v] 159 ∧ (a : Int) + ((b - a : Nat) : Int) / 4 * 2 - 1 ≤ i' ∧ i' ≤ (a : Int) + ((b - a : Nat) : Int) / 4 * 2 + 2) ∧ ((a : Int) + ((b - a : Nat) : Int) / 4 * 2 + 2 - i').toNat < ((a : Int) + ((b - a : Nat) : Int) / 4 * 2 + 2 - i).toNat) h4 := fun o ho => by
        unfold slices_breakPatternsOrdered_uint64_j2
        rw [wrapI64 (by omega) (by omega)]
        refine Swp_ok R4 (I := (a : Int) + o) (J := i) ⟨by omega, by omega⟩ ⟨by omega, by omega⟩ fun h5 R5 O5 => ?_
        rw [wrapI64 (by omega) (by omega)]
        exact ⟨_, rfl, ⟨_, _, R5, permIn_trans _ _ _ a b P3 (swp_permIn d3 a b i.toNat ((a : Int) + o).toNat (by omega) (by omega) (by omega) (by omega) (by omega)), O4.trans O5, T4.old (O5.block _ T4.lt (R4.ne_blk T4 (by decide))), by omega, by omega⟩, by omega⟩
      have ew : IntKind.i64.wrap (bwAnd .u64 r (IntKind.u64.wrap ((P : Int) - 1))) = ((r.toNat &&& (P - 1) : Nat) : Int) := by
        have h1 := bwAnd64 (a := r.toNat) (b := P - 1) (by omega) (by omega)
        rw [show ((r.toNat : Nat) : Int) = r from by omega, show ((P - 1 : Nat) : Int) = (P : Int) - 1 from by omega] at h1
        have h2 : r.toNat &&& (P - 1) ≤ P - 1 := Nat.and_le_right
        rw [wrapU64 (by omega) (by omega), h1, wrapI64 (by omega) (by omega)]
      rw [ew]
      have h2 : r.toNat &&& (P - 1) ≤ P - 1 := Nat.and_le_right
      generalize r.toNat &&& (P - 1) = o at *
      refine ⟨_, rfl, ?_⟩
      by_cases ho : (o : Int) ≥ ((b - a : Nat) : Int)
      · rw [if_pos (decide_eq_true ho), wrapI64 (by omega) (by omega)]
        refine ⟨_, rfl, ?_⟩
        have := j2 (o - (b - a)) (by omega)
        rw [show ((o - (b - a) : Nat) : Int) = (o : Int) - ((b - a : Nat) : Int) from by omega] at this
        exact this
      · rw [if_neg (by rw [decide_eq_true_eq]; exact ho)]
        exact j2 o (by omega)
    · rw [if_neg (by rw [decide_eq_true_eq]; exact hi)]
      exact H d3 h3 R3 P3 O3
  · rw [if_neg (by rw [decide_eq_true_eq]; exact h8)]
    exact H d h R (permIn_refl d a b) (Onl.refl _ _)
theorem Ord2_ok {c : Nat} {v : Int} {x y : Int} {k : Int × Int → Heap → Prop} (R : U64 B h s d) (T : Blk h c [.int .i64 v] 3) (hx : 0 ≤ x ∧ x < d.size) (hy : 0 ≤ y ∧ y < d.size)
    (H : ∀ r h' v', (r = (x, y) ∨ r = (y, x)) → U64 B h' s d → Blk h' c [.int .i64 v'] 3 → Upd c h h' → k r h') : slices_order2Ordered_uint64 s x y (some ⟨c, 0, none⟩) k h := by
  unfold slices_order2Ordered_uint64
  refine Lss_ok R hy hx ?_
  cases ltInt d[y.toNat]! d[x.toNat]! with
  | true =>
    rw [if_pos rfl]
    refine ⟨_, rfl, v, by rw [T.cell]; rfl, _, T.wr (by simp), rfl, ?_⟩
    have U : Upd c h (setH h ⟨c, 0, none⟩ (.int .i64 (IntKind.i64.wrap (v + 1)))) := ⟨by rw [setH_size]; exact Nat.le_refl _, fun i _ hi => setH_other hi⟩
    exact H _ _ _ (.inr rfl) (U64.other R T (by decide) U) T.set U
  | false =>
    rw [if_neg (by simp)]
    exact H _ _ _ (.inl rfl) R T (Upd.refl _ _)
theorem Med_ok {c : Nat} {v : Int} {x y z : Int} {k : Int → Heap → Prop} (R : U64 B h s d) (T : Blk h c [.int .i64 v] 3) (hx : 0 ≤ x ∧ x < d.size) (hy : 0 ≤ y ∧ y < d.size) (hz : 0 ≤ z ∧ z < d.size)
    (H : ∀ r h' v', (r = x ∨ r = y ∨ r = z) → U64 B h' s d → Blk h' c [.int .i64 v'] 3 → Upd c h h' → k r h') : slices_medianOrdered_uint64 s x y z (some ⟨c, 0, none⟩) k h := by
  unfold slices_medianOrdered_uint64
  refine Ord2_ok R T hx hy fun r1 h1 v1 e1 R1 T1 U1 => ?_
  have q1 : (r1.1 = x ∨ r1.1 = y) ∧ (r1.2 = x ∨ r1.2 = y) := by rcases e1 with rfl | rfl <;> simp
  refine Ord2_ok R1 T1 (by rcases q1.2 with e | e <;> rw [e] <;> assumption) hz fun r2 h2 v2 e2 R2 T2 U2 => ?_
  have q2 : r2.1 = x ∨ r2.1 = y ∨ r2.1 = z := by
    rcases e2 with rfl | rfl
    · rcases q1.2 with e | e
      · exact .inl e
      · exact .inr (.inl e)
    · exact .inr (.inr rfl)
  refine Ord2_ok R2 T2 (by rcases q1.1 with e | e <;> rw [e] <;> assumption) (by rcases q2 with e | e | e <;> rw [e] <;> assumption) fun r3 h3 v3 e3 R3 T3 U3 => ?_
  refine H _ h3 v3 ?_ R3 T3 (U1.trans (U2.trans U3))
  rcases e3 with rfl | rfl
  · exact q2
  · rcases q1.1 with e | e
    · exact .inl e
    · exact .inr (.inl e)
theorem Pivot_ok {k : Int × Int → Heap → Prop} (R : U64 B h s d) (ab : a < b) (hs : b ≤ d.size) (hz : d.size ≤ 32) (H : ∀ (p : Nat) (hint : Int) h', a ≤ p → p < b → U64 B h' s d → Onl s h h' → k ((p : Int), hint) h') : slices_choosePivotOrdered_uint64 s a b k h := by
  unfold slices_choosePivotOrdered_uint64
  rw [wrapI64 (x := (b : Int) - a) (by omega) (by omega)]
  refine ⟨_, rfl, _, _, rfl, rfl, ?_⟩
  have T0 := Blk.push h ([.int .i64 0] : List Value) 3
  have E1 := Ext.push h (.cells ([.int .i64 0] : List Value).toArray 3) (Nat.le_refl h.size)
  have R1 := R.pushed (.cells ([.int .i64 0] : List Value).toArray 3)
  generalize h.push (.cells ([.int .i64 0] : List Value).toArray 3) = h1 at *
  have et : Int.tdiv ((b : Int) - a) 4 = ((b : Int) - a) / 4 := Int.tdiv_eq_ediv_of_nonneg (by omega)
  rw [et, wrapI64 (x := ((b : Int) - a) / 4) (by omega) (by omega), wrapI64 (x := ((b : Int) - a) / 4 * 1) (by omega) (by omega), wrapI64 (x := ((b : Int) - a) / 4 * 2) (by omega) (by omega), wrapI64 (x := ((b : Int) - a) / 4 * 3) (by omega) (by omega)]
  rw [wrapI64 (x := (a : Int) + ((b : Int) - a) / 4 * 1) (by omega) (by omega), wrapI64 (x := (a : Int) + ((b : Int) - a) / 4 * 2) (by omega) (by omega), wrapI64 (x := (a : Int) + ((b : Int) - a) / 4 * 3) (by omega) (by omega)]
  refine ⟨_, rfl, _, rfl, _, rfl, ?_⟩
  have j1 : ∀ (p : Int) (h' : Heap) (v : Int), (a : Int) ≤ p → p < b → U64 B h' s d → Blk h' h.size [.int .i64 v] 3 → Upd h.size h1 h' → slices_choosePivotOrdered_uint64_j1 ⟨h.size, 0, none⟩ p k h' := fun p h' v p0 p1 R' T' U' => by
    have O : Onl s h h' := ⟨Nat.le_trans E1.size U'.size, fun g hg _ => (U'.block g (by have := E1.size; omega) (by omega)).trans (E1.block g hg)⟩
    have ep : ((p.toNat : Nat) : Int) = p := by omega
    unfold slices_choosePivotOrdered_uint64_j1
    refine ⟨v, by rw [T'.cell]; rfl, ?_⟩
    rw [← ep]
    by_cases h1 : v = 0
    · rw [if_pos (by simpa using h1)]; exact H p.toNat 1 h' (by omega) (by omega) R' O
    · rw [if_neg (by simpa using h1)]
      by_cases h2 : v = 12
      · rw [if_pos (by simpa using h2)]; exact H p.toNat 2 h' (by omega) (by omega) R' O
      · rw [if_neg (by simpa using h2)]; exact H p.toNat 0 h' (by omega) (by omega) R' O
  by_cases h8 : (b : Int) - a ≥ 8
  · rw [if_pos (decide_eq_true h8), if_neg (by rw [decide_eq_true_eq]; omega)]
    unfold slices_choosePivotOrdered_uint64_j2
    refine Med_ok R1 T0 ⟨by omega, by omega⟩ ⟨by omega, by omega⟩ ⟨by omega, by omega⟩ fun r h2 v e R2 T2 U2 => ?_
    exact j1 r h2 v (by rcases e with e | e | e <;> omega) (by rcases e with e | e | e <;> omega) R2 T2 U2
  · rw [if_neg (by rw [decide_eq_true_eq]; exact h8)]
    exact j1 _ h1 0 (by omega) (by omega) R1 T0 (Upd.refl _ _)
/-! ### whether it is sorted -/
theorem Pins_ok {k : Bool → Heap → Prop} (R : U64 B h s d) (ab : a < b) (hs : b ≤ d.size) (hz : d.size ≤ 32) (H1 : SortedIn ltInt a b d → k true h) (H2 : k false h) : slices_partialInsertionSortOrdered_uint64 s a b k h := by
  unfold slices_partialInsertionSortOrdered_uint64
  rw [wrapI64 (by omega) (by omega)]
  refine ⟨_, rfl, ?_⟩
  unfold slices_partialInsertionSortOrdered_uint64_l1
  refine ⟨fun st h' => h' = h ∧ st = ((a : Int) + 1, 0), fun _ _ => 0, ⟨rfl, rfl⟩, ?_⟩
  rintro i0 j0 h' ⟨e, e2⟩
  subst e
  cases e2
  unfold slices_partialInsertionSortOrdered_uint64_l1b
  rw [if_pos (by decide)]
  unfold slices_partialInsertionSortOrdered_uint64_l3
  refine ⟨fun i h'' => h'' = h' ∧ (a : Int) + 1 ≤ i ∧ i ≤ b ∧ SortedIn ltInt a i.toNat d, fun i _ => (b - i).toNat, ⟨rfl, by omega, by omega, fun i j h1 h2 h3 => by omega⟩, ?_⟩
  rintro i h'' ⟨e, i0, iB, S⟩
  subst e
  have stop : ∀ nx1 nx3, slices_partialInsertionSortOrdered_uint64_j4 s a b i 0 false k nx1 nx3 h'' := fun nx1 nx3 => by
    unfold slices_partialInsertionSortOrdered_uint64_j4
    rw [if_neg (by simp)]
    by_cases hb : i = b
    · rw [if_pos (by simpa using hb)]
      exact H1 (by rw [hb, Int.toNat_natCast] at S; exact S)
    · rw [if_neg (by simpa using hb), wrapI64 (x := (b : Int) - a) (by omega) (by omega), if_pos (by rw [decide_eq_true_eq]; omega)]
      exact H2
  unfold slices_partialInsertionSortOrdered_uint64_l3b
  by_cases hi : i < b
  · rw [if_pos (decide_eq_true hi), wrapI64 (by omega) (by omega)]
    refine Lss_ok R (I := i) (J := i - 1) ⟨by omega, by omega⟩ ⟨by omega, by omega⟩ ?_
    cases hl : ltInt d[i.toNat]! d[(i - 1).toNat]! with
    | true => exact stop _ _
    | false =>
      unfold slices_partialInsertionSortOrdered_uint64_j4
      rw [if_pos (by simp), wrapI64 (by omega) (by omega)]
      refine ⟨_, rfl, ⟨rfl, by omega, by omega, ?_⟩, by dsimp only; omega⟩
      rw [show (i + 1).toNat = i.toNat + 1 from by omega]
      exact S.snoc swo_ltInt (by rw [show i.toNat - 1 = (i - 1).toNat from by omega]; exact hl)
  · rw [if_neg (by rw [decide_eq_true_eq]; exact hi)]
    exact stop _ _
end
end Go.Q.Yh
