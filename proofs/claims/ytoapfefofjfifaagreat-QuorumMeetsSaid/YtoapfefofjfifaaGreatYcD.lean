/- A part of the proof of statements of this seat: lemmas, no statement of their own. -/
import Derived.Test.YtoapfefofjfifaaGreatYcC
set_option linter.unusedVariables false
set_option linter.unusedSimpArgs false
/- Quorum: an op told, an op's end. -/
namespace Go.Q.Yc
theorem OpNil_ok {n : Int} {k : S_api_Op × Int → Heap → Prop} {h : Heap} (H : ∀ h', Ext h.size h h' → k (zOp, 6) h') : quorum_Desk_Op none n k h := by
  unfold quorum_Desk_Op
  refine ⟨_, _, rfl, rfl, ?_⟩
  have Q := Blk.push h (S_api_Op.cs zOp) 40
  have W := Ext.push h (.cells (S_api_Op.cs zOp).toArray 40) (Nat.le_refl _)
  generalize h.push (.cells (S_api_Op.cs zOp).toArray 40) = h2 at *
  rw [if_pos (by simp)]
  refine ⟨_, WrsAt.of_blk Q (by show 33 ≤ 33; omega), rfl, zOp, CellsAt.of_blk (Q.sets_all rfl), ?_⟩
  exact H _ (W.trans (Ext.sets _ _ _ (Nat.le_refl _)))
theorem OpNone_ok {n : Int} {k : S_api_Op × Int → Heap → Prop} {h : Heap} {r m : Nat} {L : List (Int × Nat)} (D : DeskAt h r m L) (hg : mget L n = none) (H : ∀ h', Ext h.size h h' → k (zOp, 6) h') : quorum_Desk_Op (some ⟨r, 0, none⟩) n k h := by
  unfold quorum_Desk_Op
  refine ⟨_, _, rfl, rfl, ?_⟩
  have Q := Blk.push h (S_api_Op.cs zOp) 40
  have W := Ext.push h (.cells (S_api_Op.cs zOp).toArray 40) (Nat.le_refl _)
  generalize h.push (.cells (S_api_Op.cs zOp).toArray 40) = h2 at *
  have D2 := D.ext W
  rw [if_neg (by simp)]
  refine ⟨_, rfl, some m, by rw [D2.P.cell]; rfl, _, D2.M, ?_⟩
  rw [ptrs_get, hg, if_pos (by simp)]
  refine ⟨_, WrsAt.of_blk Q (by show 33 ≤ 33; omega), rfl, zOp, CellsAt.of_blk (Q.sets_all rfl), ?_⟩
  exact H _ (W.trans (Ext.sets _ _ _ (Nat.le_refl _)))
theorem Op_ok {n : Int} {k : S_api_Op × Int → Heap → Prop} {h : Heap} {r m : Nat} {L : List (Int × Nat)} {g : Nat} {x : S_api_Op} {ns ys : List Int} (D : DeskAt h r m L) (hg : mget L n = some g) (O : OpAt h g x ns ys)
    (H : ∀ n' y' h', Row h.size h' 3 1 n' (ints ns) → Row h.size h' 3 1 y' (ints ys) → Ext h.size h h' → k (copyOf x n' y', 0) h') : quorum_Desk_Op (some ⟨r, 0, none⟩) n k h := by
  unfold quorum_Desk_Op
  refine ⟨_, _, rfl, rfl, ?_⟩
  have Q := Blk.push h (S_api_Op.cs zOp) 40
  have W := Ext.push h (.cells (S_api_Op.cs zOp).toArray 40) (Nat.le_refl _)
  have ql := Q.lt
  generalize h.push (.cells (S_api_Op.cs zOp).toArray 40) = h2 at *
  have z2 := W.size
  have D2 := D.ext W
  have O2 := O.ext W
  obtain ⟨b1, eb1⟩ : ∃ y, y = h.size := ⟨_, rfl⟩
  rw [← eb1] at Q W ql z2 ⊢
  rw [if_neg (by simp)]
  refine ⟨_, rfl, some m, by rw [D2.P.cell]; rfl, _, D2.M, ?_⟩
  rw [ptrs_get, hg, if_neg (by simp)]
  refine ⟨⟨g, 0, none⟩, rfl, x, CellsAt.of_blk O2.B, copied_ok (Ints.row O2.N) (Ints.row O2.Y) O2.bare (by have := O2.n; omega) (by have := O2.y; omega) fun n' y' h4 Rn Ry _ X4 => ?_⟩
  have z4 := X4.size
  have Q4 := Q.ext X4 (by omega)
  refine ⟨_, WrsAt.of_blk Q4 (by show 33 ≤ 33; omega), rfl, copyOf x n' y', CellsAt.of_blk (Q4.sets_all rfl), ?_⟩
  have o5 : ∀ i, i ≠ b1 → (setsH h4 ⟨b1, 0, none⟩ 0 (S_api_Op.cs (copyOf x n' y')))[i]? = h4[i]? := fun i hi => setsH_other _ _ hi
  have s5 : (setsH h4 ⟨b1, 0, none⟩ 0 (S_api_Op.cs (copyOf x n' y'))).size = h4.size := setsH_size _ _
  generalize setsH h4 ⟨b1, 0, none⟩ 0 (S_api_Op.cs (copyOf x n' y')) = h5 at *
  refine H n' y' h5 ((Rn.mono (by omega)).keep fun b hb => o5 b (by have := (Rn.bd hb).1; omega)) ((Ry.mono (by omega)).keep fun b hb => o5 b (by have := (Ry.bd hb).1; omega)) ⟨by omega, fun i hi => ?_⟩
  rw [o5 i (by omega), X4.block i (by omega), W.block i (by omega)]
theorem Result_ok {p0 : Option Addr} {n : Int} {k : S_api_Op × Int → Heap → Prop} {h : Heap} {Q : S_api_Op × Int → Heap → Prop} (st : ∀ r h' h'', Q r h' → h'.size ≤ h''.size → (∀ i, h.size < i → i < h'.size → h''[i]? = h'[i]?) → Q r h'')
    (hO : ∀ (h2 : Heap) (K : S_api_Op × Int → Heap → Prop), Ext h.size h h2 → h.size < h2.size → (∀ r h', Ext h2.size h2 h' → Q r h' → K r h') → quorum_Desk_Op p0 n K h2)
    (H : ∀ r h', Q r h' → Ext h.size h h' → k (if r.2 = 0 ∧ r.1.f_Done = false then (zOp, 14) else r) h') : quorum_Desk_Result p0 n k h := by
  unfold quorum_Desk_Result
  refine ⟨_, _, rfl, rfl, ?_⟩
  have P := Blk.push h (S_api_Op.cs zOp) 40
  have W := Ext.push h (.cells (S_api_Op.cs zOp).toArray 40) (Nat.le_refl _)
  have pl := P.lt
  generalize h.push (.cells (S_api_Op.cs zOp).toArray 40) = h2 at *
  have z2 := W.size
  refine hO h2 _ W pl fun rr h4 X4 q4 => ?_
  obtain ⟨x, e⟩ := rr
  have z4 := X4.size
  obtain ⟨b1, eb1⟩ : ∃ y, y = h.size := ⟨_, rfl⟩
  rw [← eb1] at P W pl z2 st H ⊢
  have P4 := P.ext X4 (by omega)
  refine ⟨_, _, rfl, rfl, ?_⟩
  have U := Blk.push h4 (S_api_Op.cs zOp) 40
  have W5 := Ext.push h4 (.cells (S_api_Op.cs zOp).toArray 40) (Nat.le_refl _)
  have ul := U.lt
  generalize h4.push (.cells (S_api_Op.cs zOp).toArray 40) = h6 at *
  have z6 := W5.size
  refine ⟨_, WrsAt.of_blk U (by show 33 ≤ 33; omega), rfl, ?_⟩
  have U7 := U.sets_all (vs := S_api_Op.cs x) rfl
  have X7 : Ext h4.size h6 (setsH h6 ⟨h4.size, 0, none⟩ 0 (S_api_Op.cs x)) := Ext.sets _ _ _ (Nat.le_refl _)
  generalize setsH h6 ⟨h4.size, 0, none⟩ 0 (S_api_Op.cs x) = h7 at *
  have X47 : Ext h4.size h4 h7 := W5.trans X7
  have z7 := X47.size
  have P7 := P4.ext X47 (by omega)
  have X07 : Ext b1 h h7 := (W.trans (X4.mono (by omega))).trans (X47.mono (by omega))
  have wr : ∀ vs, vs.length = 33 → (∀ i, i ≠ b1 → (setsH h7 ⟨b1, 0, none⟩ 0 vs)[i]? = h7[i]?) ∧ (setsH h7 ⟨b1, 0, none⟩ 0 vs).size = h7.size ∧ Blk (setsH h7 ⟨b1, 0, none⟩ 0 vs) b1 vs 40 ∧ Q (x, e) (setsH h7 ⟨b1, 0, none⟩ 0 vs) ∧ Ext b1 h (setsH h7 ⟨b1, 0, none⟩ 0 vs) := fun vs hl => by
    have o : ∀ i, i ≠ b1 → (setsH h7 ⟨b1, 0, none⟩ 0 vs)[i]? = h7[i]? := fun i hi => setsH_other _ _ hi
    have s : (setsH h7 ⟨b1, 0, none⟩ 0 vs).size = h7.size := setsH_size _ _
    refine ⟨o, s, P7.sets_all (by rw [hl]; rfl), st _ h4 _ q4 (by omega) fun i h1 h2 => ?_, X07.trans (Ext.sets _ _ _ (Nat.le_refl _))⟩
    rw [o i (by omega), X47.block i h2]
  have go : ∀ b, b = decide (e = 0 ∧ x.f_Done = false) → quorum_Desk_Result_g1 ⟨b1, 0, none⟩ ⟨h4.size, 0, none⟩ e b k h7 := fun b hb => by
    unfold quorum_Desk_Result_g1
    by_cases c : e = 0 ∧ x.f_Done = false
    · rw [hb, decide_eq_true c, if_pos rfl]
      obtain ⟨_, _, B8, q8, X8⟩ := wr (S_api_Op.cs zOp) rfl
      refine ⟨_, WrsAt.of_blk P7 (by show 33 ≤ 33; omega), rfl, zOp, CellsAt.of_blk B8, ?_⟩
      have := H _ _ q8 X8
      rw [if_pos c] at this; exact this
    · rw [hb, decide_eq_false c, if_neg (by simp)]
      obtain ⟨_, _, B8, q8, X8⟩ := wr (S_api_Op.cs x) rfl
      refine ⟨x, CellsAt.of_blk U7, _, WrsAt.of_blk P7 (by show 33 ≤ 33; omega), rfl, x, CellsAt.of_blk B8, ?_⟩
      have := H _ _ q8 X8
      rw [if_neg c] at this; exact this
  by_cases e0 : e = 0
  · rw [if_pos (by simpa using e0)]
    refine ⟨x.f_Done, by rw [add_mk, U7.cell]; rfl, go _ ?_⟩
    rw [e0]; cases x.f_Done <;> rfl
  · rw [if_neg (by simpa using e0)]
    exact go _ (by rw [decide_eq_false]; exact fun c => e0 c.1)
theorem openNil_ok {n node : Int} {k : Option Addr × Bool → Heap → Prop} {h : Heap} (H : k (none, false) h) : quorum_Desk_open none n node k h := by
  unfold quorum_Desk_open
  rw [if_pos (by simp)]; exact H
theorem open_ok {n node : Int} {k : Option Addr × Bool → Heap → Prop} {h : Heap} {r m : Nat} {L : List (Int × Nat)} {g : Nat} {x : S_api_Op} {ns ys : List Int} (D : DeskAt h r m L) (hg : mget L n = some g) (O : OpAt h g x ns ys)
    (H : k (some ⟨g, 0, none⟩, decide (x.f_Done = false ∧ node ∈ ns)) h) : quorum_Desk_open (some ⟨r, 0, none⟩) n node k h := by
  unfold quorum_Desk_open
  rw [if_neg (by simp)]
  refine ⟨_, rfl, some m, by rw [D.P.cell]; rfl, _, D.M, ?_⟩
  rw [ptrs_get, hg, if_pos (by simp)]
  refine ⟨⟨g, 0, none⟩, rfl, x.f_Done, by rw [add_mk, O.B.cell]; rfl, ?_⟩
  unfold quorum_Desk_open_g1
  by_cases d : x.f_Done = false
  · rw [d, if_pos (by simp)]
    refine ⟨⟨g, 0, none⟩, rfl, x.f_Nodes, by rw [add_mk, O.B.cell]; rfl, Has_ok (Ints.row O.N) (by have := O.n; omega) ?_⟩
    unfold quorum_Desk_open_g2
    simpa [d] using H
  · have d2 : x.f_Done = true := by cases hd : x.f_Done with | true => rfl | false => exact absurd hd d
    rw [d2, if_neg (by simp)]
    unfold quorum_Desk_open_g2
    simpa [d2] using H
end Go.Q.Yc
