/- A part of the proof of statements of this seat: lemmas, no statement of their own. -/
import Derived.Test.YtoapfefofjfifaaGreatYcR
import Derived.Test.YtoapfefofjfifaaGreatYcC
set_option linter.unusedVariables false
set_option linter.unusedSimpArgs false
set_option maxRecDepth 100000
/- Quorum: what a query of nothing over no pieces comes to. -/
namespace Go.Q.Yc
abbrev zQ : S_api_Query := ⟨ByteArray.empty, 0, 0, 0, 0⟩
abbrev zSel : S_api_Selector := ⟨ByteArray.empty, nilS⟩
theorem Len0_ok {k : Int → Heap → Prop} {h : Heap} (H : ∀ n, k n h) : math_bits_Len (IntKind.u64.wrap 0) k h := by
  unfold math_bits_Len
  rw [if_neg (by simp), show IntKind.u64.wrap 0 = 0 from by decide]
  unfold math_bits_Len64
  rw [if_neg (by decide)]
  unfold math_bits_Len64_j1
  rw [if_neg (by decide)]
  unfold math_bits_Len64_j2
  rw [if_neg (by decide)]
  unfold math_bits_Len64_j3
  exact ⟨0, by decide, ⟨by decide, by decide⟩, _, rfl, H _⟩
theorem Pdq0_ok {k : Unit → Heap → Prop} {h : Heap} {s : Slc} {n : Int} (H : k () h) : slices_pdqsortCmpFunc_api_Piece__piece_compare s 0 0 n k h := by
  unfold slices_pdqsortCmpFunc_api_Piece__piece_compare slices_pdqsortCmpFunc_api_Piece__piece_compare_l1
  refine ⟨fun s h' => s.1 = 0 ∧ s.2.1 = 0 ∧ h' = h, fun _ _ => 0, ⟨rfl, rfl, rfl⟩, ?_⟩
  rintro a b c d e h' ⟨rfl, rfl, rfl⟩
  unfold slices_pdqsortCmpFunc_api_Piece__piece_compare_l1b
  refine ⟨_, rfl, ?_⟩
  rw [if_pos (by decide)]
  unfold slices_insertionSortCmpFunc_api_Piece__piece_compare slices_insertionSortCmpFunc_api_Piece__piece_compare_l1
  refine ⟨_, rfl, fun i h'' => i = 1 ∧ h'' = h', fun _ _ => 0, ⟨by decide, rfl⟩, ?_⟩
  rintro i h'' ⟨rfl, rfl⟩
  unfold slices_insertionSortCmpFunc_api_Piece__piece_compare_l1b
  rw [if_neg (by decide)]
  exact H
theorem Merge_ok {s : Slc} {m : Nat} {k : Slc → Heap → Prop} {h : Heap} (S : SlcAt h s (List.replicate m (Slc.v nilS))) (l : s.len = m) (m1 : m ≤ 10) (H : ∀ h', Ext h.size h h' → k nilS h') : piece_Merge s k h := by
  unfold piece_Merge
  refine ⟨_, _, rfl, rfl, ?_⟩
  have W := Ext.push h (.map #[] 0) (Nat.le_refl _)
  have M : (h.push (.map #[] 0))[h.size]? = some (.map #[] 0) := by simp
  have z2 : (h.push (.map #[] 0)).size = h.size + 1 := by simp
  generalize h.push (.map #[] 0) = h2 at *
  have S2 := S.ext W
  unfold piece_Merge_l1
  refine ⟨fun i h' => h' = h2 ∧ 0 ≤ i ∧ i ≤ m, fun i _ => (m - i).toNat, ⟨rfl, by omega, by omega⟩, ?_⟩
  rintro i h' ⟨rfl, i0, i1⟩
  unfold piece_Merge_l1b
  by_cases c : i < m
  · rw [if_pos (by rw [decide_eq_true_eq]; omega)]
    have hg : (List.replicate m (Slc.v nilS))[i.toNat]? = some (Slc.v nilS) := by rw [List.getElem?_replicate, if_pos (by omega)]
    have : ∃ a, s.a = some a ∧ cellH h' (a.add i.toNat) = some (Slc.v nilS) := by
      cases ha : s.a with
      | none => have := S2.1 ha; rw [this] at hg; simp at hg
      | some a => exact ⟨a, rfl, S2.2 a ha _ _ hg⟩
    obtain ⟨a, ha, hc⟩ := this
    refine ⟨a, ha, i0, by omega, nilS, by rw [Nat.mul_one]; exact hc, ?_⟩
    unfold piece_Merge_l2
    refine ⟨fun j h'' => j = 0 ∧ h'' = h', fun _ _ => 0, ⟨rfl, rfl⟩, ?_⟩
    rintro j h'' ⟨rfl, rfl⟩
    unfold piece_Merge_l2b
    rw [if_neg (by decide), wrapI64 (by omega) (by omega)]
    exact ⟨⟨rfl, by omega, by omega⟩, by dsimp only; omega⟩
  · rw [if_neg (by rw [decide_eq_true_eq]; omega)]
    unfold maps_Values_map_piece_place_api_Piece_piece_place_api_Piece
    refine ⟨_, _, rfl, rfl, ?_⟩
    have P := Blk.push h' [.map (some h.size)] 85
    have W3 := Ext.push h' (.cells ([.map (some h.size)] : List Value).toArray 85) (Nat.le_refl _)
    generalize h'.push (.cells ([.map (some h.size)] : List Value).toArray 85) = h3 at *
    have z3 := W3.size
    unfold slices_SortedFunc_api_Piece__piece_compare slices_Collect_api_Piece
    refine ⟨_, h.size, 0, rfl, by rw [P.cell]; rfl, by rw [W3.block _ (by omega)]; exact M, fun h4 X4 => ?_⟩
    unfold slices_SortFunc_api_Piece_api_Piece__piece_compare
    refine ⟨_, rfl, ?_⟩
    refine Len0_ok fun n => ?_
    exact Pdq0_ok (H h4 ((W.trans (W3.mono (by omega))).trans (X4.mono (by omega))))
theorem Cut_ok {k : ByteArray × ByteArray × Bool → Heap → Prop} {h : Heap} (H : k (ByteArray.empty, ⟨#[]⟩, false) h) : strings_Cut ByteArray.empty ⟨#[123]⟩ k h := by
  unfold strings_Cut internal_stringslite_Cut internal_stringslite_Index
  refine ⟨_, rfl, ?_⟩
  rw [if_neg (by rw [← beq_toListBytes]; decide), if_pos (by decide)]
  refine ⟨123, by decide, ⟨by decide, by decide⟩, ?_⟩
  unfold internal_stringslite_IndexByte
  refine ⟨-1, rfl, ?_⟩
  show if _ then _ else _
  rw [if_neg (by decide)]
  exact H
theorem Selector_ok {k : S_api_Selector × Int → Heap → Prop} {h : Heap} (H : ∀ h', Ext h.size h h' → k (zSel, 0) h') : label_Selector ByteArray.empty k h := by
  unfold label_Selector
  refine ⟨_, _, rfl, rfl, Cut_ok ?_⟩
  have P := Blk.push h (S_api_Selector.cs zSel) 116
  have W := Ext.push h (.cells (S_api_Selector.cs zSel).toArray 116) (Nat.le_refl _)
  have pl := P.lt
  generalize h.push (.cells (S_api_Selector.cs zSel).toArray 116) = h2 at *
  have z2 := W.size
  refine ⟨_, _, rfl, rfl, ?_⟩
  have Q := Blk.push h2 (S_api_Selector.cs zSel) 116
  have W3 := Ext.push h2 (.cells (S_api_Selector.cs zSel).toArray 116) (Nat.le_refl _)
  generalize h2.push (.cells (S_api_Selector.cs zSel).toArray 116) = h3 at *
  have P3 := P.ext W3 pl
  refine ⟨_, WrsAt.of_blk Q (by show 2 ≤ 2; omega), rfl, ?_⟩
  have Q4 := Q.sets_all (vs := S_api_Selector.cs zSel) rfl
  have X4 : Ext h2.size h3 (setsH h3 ⟨h2.size, 0, none⟩ 0 (S_api_Selector.cs zSel)) := Ext.sets _ _ _ (Nat.le_refl _)
  generalize setsH h3 ⟨h2.size, 0, none⟩ 0 (S_api_Selector.cs zSel) = h4 at *
  have P4 := P3.ext X4 pl
  have X04 : Ext h.size h h4 := W.trans ((W3.trans X4).mono z2)
  rw [if_neg (by rw [← beq_toListBytes]; decide)]
  unfold label_Selector_g1
  rw [if_neg (by simp), if_pos (by simp)]
  refine ⟨zSel, CellsAt.of_blk Q4, _, WrsAt.of_blk P4 (by show 2 ≤ 2; omega), rfl, zSel, CellsAt.of_blk (P4.sets_all rfl), ?_⟩
  exact H _ (X04.trans (Ext.sets _ _ _ (Nat.le_refl _)))
theorem Check_ok {k : Int → Heap → Prop} {h : Heap} (H : ∀ h', Ext h.size h h' → k 0 h') : query_Check zQ k h := by
  unfold query_Check
  refine ⟨_, _, rfl, rfl, ?_⟩
  have P := Blk.push h (S_api_Query.cs zQ) 32
  have W := Ext.push h (.cells (S_api_Query.cs zQ).toArray 32) (Nat.le_refl _)
  have pl := P.lt
  generalize h.push (.cells (S_api_Query.cs zQ).toArray 32) = h2 at *
  have z2 := W.size
  refine ⟨ByteArray.empty, by rw [P.cell]; rfl, Selector_ok fun h5 X5 => ?_⟩
  have z5 := X5.size
  refine ⟨_, _, rfl, rfl, ?_⟩
  have Q := Blk.push h5 (S_api_Selector.cs zSel) 116
  have W6 := Ext.push h5 (.cells (S_api_Selector.cs zSel).toArray 116) (Nat.le_refl _)
  generalize h5.push (.cells (S_api_Selector.cs zSel).toArray 116) = h7 at *
  refine ⟨_, WrsAt.of_blk Q (by show 2 ≤ 2; omega), rfl, ?_⟩
  have X8 : Ext h5.size h5 (setsH h7 ⟨h5.size, 0, none⟩ 0 (S_api_Selector.cs zSel)) := W6.trans (Ext.sets _ _ _ (Nat.le_refl _))
  generalize setsH h7 ⟨h5.size, 0, none⟩ 0 (S_api_Selector.cs zSel) = h8 at *
  have P8 := (P.ext X5 pl).ext X8 (by omega)
  have X08 : Ext h.size h h8 := (W.trans (X5.mono z2)).trans (X8.mono (by omega))
  rw [if_neg (by simp)]
  have c3 : cellH h8 ((⟨h.size, 0, none⟩ : Addr).add 3) = some (.int .i64 0) := by rw [add_mk, P8.cell]; rfl
  refine ⟨0, c3, ?_⟩
  rw [if_neg (by decide)]
  refine ⟨0, c3, ?_⟩
  unfold query_Check_g1
  rw [if_neg (by decide)]
  refine ⟨0, c3, ?_⟩
  rw [if_neg (by decide)]
  unfold query_Check_g3 query_Check_g2
  rw [if_neg (by simp)]
  exact H h8 X08
theorem Between_ok {a b : Int} {k : Slc → Heap → Prop} {h : Heap} (H : k nilS h) : piece_Between nilS a b k h := by
  unfold piece_Between piece_Between_l1
  refine ⟨fun s h' => s = (nilS, 0) ∧ h' = h, fun _ _ => 0, ⟨rfl, rfl⟩, ?_⟩
  rintro s i h' ⟨e, rfl⟩
  cases e
  unfold piece_Between_l1b
  rw [if_neg (by decide)]
  exact H
theorem Ask_ok {k : Slc × Int → Heap → Prop} {h : Heap} (H : ∀ h', Ext h.size h h' → k (nilS, 0) h') : query_Ask zQ nilS 0 k h := by
  unfold query_Ask
  refine ⟨_, _, rfl, rfl, ?_⟩
  have P := Blk.push h (S_api_Query.cs zQ) 32
  have W := Ext.push h (.cells (S_api_Query.cs zQ).toArray 32) (Nat.le_refl _)
  have pl := P.lt
  generalize h.push (.cells (S_api_Query.cs zQ).toArray 32) = h2 at *
  have z2 := W.size
  refine ⟨zQ, CellsAt.of_blk P, Check_ok fun h5 X5 => ?_⟩
  have z5 := X5.size
  have P5 := P.ext X5 pl
  have X05 : Ext h.size h h5 := W.trans (X5.mono z2)
  rw [if_neg (by simp)]
  refine ⟨ByteArray.empty, by rw [P5.cell]; rfl, Selector_ok fun h8 X8 => ?_⟩
  have z8 := X8.size
  refine ⟨_, _, rfl, rfl, ?_⟩
  have Q := Blk.push h8 (S_api_Selector.cs zSel) 116
  have W6 := Ext.push h8 (.cells (S_api_Selector.cs zSel).toArray 116) (Nat.le_refl _)
  generalize h8.push (.cells (S_api_Selector.cs zSel).toArray 116) = h10 at *
  refine ⟨_, WrsAt.of_blk Q (by show 2 ≤ 2; omega), rfl, ?_⟩
  have X11 : Ext h8.size h8 (setsH h10 ⟨h8.size, 0, none⟩ 0 (S_api_Selector.cs zSel)) := W6.trans (Ext.sets _ _ _ (Nat.le_refl _))
  generalize setsH h10 ⟨h8.size, 0, none⟩ 0 (S_api_Selector.cs zSel) = h11 at *
  have z11 := X11.size
  refine ⟨_, _, rfl, rfl, ?_⟩
  have W13 := Ext.push h11 (.map #[] 0) (Nat.le_refl _)
  generalize h11.push (.map #[] 0) = h13 at *
  have z13 := W13.size
  have X813 := X11.trans (W13.mono z11)
  have P13 := (P5.ext X8 (by omega)).ext X813 (by omega)
  refine ⟨0, by rw [add_mk, P13.cell]; rfl, 0, by rw [add_mk, P13.cell]; rfl, _, _, rfl, rfl, ?_⟩
  have V := Blk.push h13 [Slc.v nilS] 30
  have W17 := Ext.push h13 (.cells ([Slc.v nilS] : List Value).toArray 30) (Nat.le_refl _)
  generalize h13.push (.cells ([Slc.v nilS] : List Value).toArray 30) = h17 at *
  have z17 := W17.size
  have P17 := P13.ext W17 (by omega)
  refine ⟨by rw [add_mk, P17.cell]; rfl, by rw [add_mk, P17.cell]; rfl, Merge_ok (m := 1) (V.slc (o := 0) (n := 1) rfl) rfl (by omega) fun h21 X21 => ?_⟩
  have z21 := X21.size
  have P21 := P17.ext X21 (by omega)
  refine ⟨by rw [add_mk, P21.cell]; rfl, by rw [add_mk, P21.cell]; rfl, Between_ok ?_⟩
  unfold query_Ask_l1
  refine ⟨fun s h' => s = (nilS, 0) ∧ h' = h21, fun _ _ => 0, ⟨rfl, rfl⟩, ?_⟩
  rintro s i h' ⟨e, rfl⟩
  cases e
  unfold query_Ask_l1b
  rw [if_neg (by decide)]
  have Xa := X8.trans (X813.mono z8)
  have Xb := Xa.trans (W17.mono (by have := Xa.size; omega))
  have Xc := Xb.trans (X21.mono (by have := Xb.size; omega))
  exact H _ (X05.trans (Xc.mono (by omega)))
theorem Run_ok {k : Slc × Int → Heap → Prop} {h : Heap} (H : ∀ h', Ext h.size h h' → k (nilS, 0) h') : query_Run zQ nilS 0 k h := by
  unfold query_Run
  refine ⟨_, _, rfl, rfl, ?_⟩
  have P := Blk.push h (S_api_Query.cs zQ) 32
  have W := Ext.push h (.cells (S_api_Query.cs zQ).toArray 32) (Nat.le_refl _)
  generalize h.push (.cells (S_api_Query.cs zQ).toArray 32) = h2 at *
  have z2 := W.size
  refine ⟨zQ, CellsAt.of_blk P, Ask_ok fun h5 X5 => ?_⟩
  rw [if_neg (by simp)]
  unfold query_groups query_groups_l1
  refine ⟨fun s h' => s = (nilS, nilS) ∧ h' = h5, fun _ _ => 0, ⟨rfl, rfl⟩, ?_⟩
  rintro s i h' ⟨e, rfl⟩
  cases e
  unfold query_groups_l1b
  rw [if_neg (by decide)]
  unfold query_Run_l1
  refine ⟨fun s h'' => s = (nilS, 0) ∧ h'' = h', fun _ _ => 0, ⟨rfl, rfl⟩, ?_⟩
  rintro s i h'' ⟨e, rfl⟩
  cases e
  unfold query_Run_l1b
  rw [if_neg (by decide)]
  exact H _ (W.trans (X5.mono z2))
end Go.Q.Yc
