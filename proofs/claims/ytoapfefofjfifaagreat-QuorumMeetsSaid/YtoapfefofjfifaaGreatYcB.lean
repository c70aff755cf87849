/- A part of the proof of statements of this seat: lemmas, no statement of their own. -/
import Derived.Test.YtoapfefofjfifaaGreatYcA
set_option linter.unusedVariables false
set_option linter.unusedSimpArgs false
/- Quorum: a desk, its ops, their starting and telling. -/
namespace Go.Q.Yc
abbrev nilS : Slc := ⟨none, 0, 0⟩
abbrev zOp : S_api_Op := ⟨0, 0, ByteArray.empty, nilS, ⟨ByteArray.empty, 0, 0, 0, 0⟩, ⟨0, ByteArray.empty, 0, ([] : List Int), nilS, 0⟩, 0, nilS, nilS, 0, false, 0, nilS⟩
/-- an op that has nothing but nodes and those that said yes -/
structure Bare (x : S_api_Op) : Prop where
  p : x.f_Pieces.a = none
  r : x.f_Rows.a = none
  w : x.f_Cmd.f_Wrapped.a = none
abbrev copyOf (x : S_api_Op) (n y : Slc) : S_api_Op := { x with f_Pieces := nilS, f_Nodes := n, f_Yes := y, f_Rows := nilS, f_Cmd := { x.f_Cmd with f_Wrapped := nilS } }
theorem blk_none {h : Heap} {i : Nat} {hi : h.size ≤ i} : h[i]? = none := by simp; omega
theorem copied_ok {x : S_api_Op} {ns ys : List Int} {k : S_api_Op → Heap → Prop} {h : Heap} (N : Ints h x.f_Nodes ns) (Y : Ints h x.f_Yes ys) (b : Bare x) (n1 : ns.length ≤ 1000000) (y1 : ys.length ≤ 1000000)
    (H : ∀ n y h', Row h.size h' 3 1 n (ints ns) → Row h.size h' 3 1 y (ints ys) → (∀ g, y.blk = some g → n.blk ≠ some g) → Ext h.size h h' → k (copyOf x n y) h') : quorum_copied x k h := by
  unfold quorum_copied
  refine ⟨_, _, rfl, rfl, _, _, rfl, rfl, ?_⟩
  have P := Blk.push h (S_api_Op.cs x) 40
  have W2 := Ext.push h (.cells (S_api_Op.cs x).toArray 40) (Nat.le_refl _)
  have pl := P.lt
  generalize h.push (.cells (S_api_Op.cs x).toArray 40) = h2 at *
  have z2 := W2.size
  have Q := Blk.push h2 (S_api_Op.cs zOp) 40
  have W3 := Ext.push h2 (.cells (S_api_Op.cs zOp).toArray 40) (Nat.le_refl _)
  have ql := Q.lt
  generalize h2.push (.cells (S_api_Op.cs zOp).toArray 40) = h4 at *
  have P4 := P.ext W3 pl
  have X4 : Ext h.size h h4 := W2.trans (W3.mono z2)
  have z4 := X4.size
  obtain ⟨b3, eb3⟩ : ∃ y, y = h2.size := ⟨_, rfl⟩
  obtain ⟨b1, eb1⟩ : ∃ y, y = h.size := ⟨_, rfl⟩
  rw [← eb3] at Q ql z2 ⊢
  rw [← eb1] at P P4 pl z4 z2 X4 ⊢
  refine ⟨x.f_Pieces, by rw [add_mk, P4.cell]; rfl, x.f_Nodes, by rw [add_mk, P4.cell]; rfl, x.f_Yes, by rw [add_mk, P4.cell]; rfl, x.f_Rows, by rw [add_mk, P4.cell]; rfl, ?_⟩
  unfold slices_Clone_api_Piece_api_Piece
  rw [if_pos (by rw [b.p]; rfl)]
  refine ⟨by rw [add_mk, P4.cell]; rfl, by rw [add_mk, P4.cell]; rfl, by rw [add_mk, P4.cell]; rfl, ?_⟩
  refine Clone_ok (N.ext (by rw [← eb1]; exact X4)) n1 fun n h5 Rn X5 => ?_
  have z5 := X5.size
  have P5 := P4.ext X5 (by omega)
  have Q5 := Q.ext X5 (by omega)
  refine ⟨by rw [add_mk, P5.cell]; rfl, by rw [add_mk, P5.cell]; rfl, ?_⟩
  have X05 : Ext b1 h h5 := X4.trans (X5.mono z4)
  refine Clone_ok (Y.ext (by rw [← eb1]; exact X05)) y1 fun y h6 Ry X6 => ?_
  have z6 := X6.size
  have P6 := P5.ext X6 (by omega)
  have Q6 := Q5.ext X6 (by omega)
  refine ⟨by rw [add_mk, P6.cell]; rfl, ?_⟩
  unfold slices_Clone_api_Row_api_Row
  rw [if_pos (by rw [b.r]; rfl)]
  have X06 : Ext b1 h h6 := X05.trans (X6.mono (by omega))
  have Rn6 := Rn.ext X6 fun g hg => (Rn.bd hg).2
  have dis : ∀ g, y.blk = some g → n.blk ≠ some g := fun g hy hn => by have := (Ry.bd hy).1; have := (Rn.bd hn).2; omega
  clear X4 P P4 P5 Q Q5 X5 X6 W2 W3
  refine ⟨_, by rw [add_mk]; exact P6.wr (by show _ < 33; omega), rfl, ?_⟩
  rw [add_mk]
  have P7 := P6.set (i := 0 + 3) (v := Slc.v nilS)
  have X7 := Ext.set h6 (a := ⟨b1, 0 + 3, none⟩) (Slc.v nilS) (B := b1) (Nat.le_refl _)
  have o7 : ∀ i, i ≠ b1 → (setH h6 ⟨b1, 0 + 3, none⟩ (Slc.v nilS))[i]? = h6[i]? := fun i hi => setH_other hi
  have s7 : (setH h6 ⟨b1, 0 + 3, none⟩ (Slc.v nilS)).size = h6.size := setH_size
  generalize setH h6 ⟨b1, 0 + 3, none⟩ (Slc.v nilS) = h7 at *
  refine ⟨_, by rw [add_mk]; exact P7.wr (by rw [List.length_set]; show _ < 33; omega), rfl, ?_⟩
  rw [add_mk]
  have P8 := P7.set (i := 0 + 27) (v := Slc.v n)
  have o8 : ∀ i, i ≠ b1 → (setH h7 ⟨b1, 0 + 27, none⟩ (Slc.v n))[i]? = h6[i]? := fun i hi => (setH_other hi).trans (o7 i hi)
  have s8 : (setH h7 ⟨b1, 0 + 27, none⟩ (Slc.v n)).size = h6.size := setH_size.trans s7
  generalize setH h7 ⟨b1, 0 + 27, none⟩ (Slc.v n) = h8 at *
  refine ⟨_, by rw [add_mk]; exact P8.wr (by rw [List.length_set, List.length_set]; show _ < 33; omega), rfl, ?_⟩
  rw [add_mk]
  have P9 := P8.set (i := 0 + 28) (v := Slc.v y)
  have o9 : ∀ i, i ≠ b1 → (setH h8 ⟨b1, 0 + 28, none⟩ (Slc.v y))[i]? = h6[i]? := fun i hi => (setH_other hi).trans (o8 i hi)
  have s9 : (setH h8 ⟨b1, 0 + 28, none⟩ (Slc.v y)).size = h6.size := setH_size.trans s8
  generalize setH h8 ⟨b1, 0 + 28, none⟩ (Slc.v y) = h9 at *
  refine ⟨_, by rw [add_mk]; exact P9.wr (by rw [List.length_set, List.length_set, List.length_set]; show _ < 33; omega), rfl, ?_⟩
  rw [add_mk]
  have P10 := P9.set (i := 0 + 32) (v := Slc.v nilS)
  have o10 : ∀ i, i ≠ b1 → (setH h9 ⟨b1, 0 + 32, none⟩ (Slc.v nilS))[i]? = h6[i]? := fun i hi => (setH_other hi).trans (o9 i hi)
  have s10 : (setH h9 ⟨b1, 0 + 32, none⟩ (Slc.v nilS)).size = h6.size := setH_size.trans s9
  generalize setH h9 ⟨b1, 0 + 32, none⟩ (Slc.v nilS) = h10 at *
  clear P7 P8 P9 o7 o8 o9 s7 s8 s9 X7
  refine ⟨x.f_Cmd.f_Wrapped, by rw [add_mk, add_mk, P10.cell]; rfl, ?_⟩
  unfold slices_Clone_byte_byte
  rw [if_pos (by rw [b.w]; rfl)]
  refine ⟨_, by rw [add_mk, add_mk]; exact P10.wr (by rw [List.length_set, List.length_set, List.length_set, List.length_set]; show _ < 33; omega), rfl, ?_⟩
  rw [add_mk, add_mk]
  have P11 : Blk (setH h10 ⟨b1, 0 + 9 + 15, none⟩ (Slc.v nilS)) b1 (S_api_Op.cs (copyOf x n y)) 40 := P10.set (i := 0 + 9 + 15) (v := Slc.v nilS)
  have o11 : ∀ i, i ≠ b1 → (setH h10 ⟨b1, 0 + 9 + 15, none⟩ (Slc.v nilS))[i]? = h6[i]? := fun i hi => (setH_other hi).trans (o10 i hi)
  have s11 : (setH h10 ⟨b1, 0 + 9 + 15, none⟩ (Slc.v nilS)).size = h6.size := setH_size.trans s10
  generalize setH h10 ⟨b1, 0 + 9 + 15, none⟩ (Slc.v nilS) = h11 at *
  clear P10 o10 s10
  refine ⟨copyOf x n y, CellsAt.of_blk P11, ?_⟩
  have Q11 : Blk h11 b3 (S_api_Op.cs zOp) 40 := Q6.old (o11 b3 (by omega))
  refine ⟨_, WrsAt.of_blk Q11 (by show 33 ≤ 33; omega), rfl, ?_⟩
  have Q12 := Q11.sets_all (vs := S_api_Op.cs (copyOf x n y)) rfl
  have o12 : ∀ i, i ≠ b1 → i ≠ b3 → (setsH h11 ⟨b3, 0, none⟩ 0 (S_api_Op.cs (copyOf x n y)))[i]? = h6[i]? := fun i hi h3 => (setsH_other _ _ h3).trans (o11 i hi)
  have s12 : (setsH h11 ⟨b3, 0, none⟩ 0 (S_api_Op.cs (copyOf x n y))).size = h6.size := (setsH_size _ _).trans s11
  generalize setsH h11 ⟨b3, 0, none⟩ 0 (S_api_Op.cs (copyOf x n y)) = h12 at *
  refine ⟨copyOf x n y, CellsAt.of_blk Q12, ?_⟩
  refine H n y h12 ?_ ?_ dis ⟨by rw [s12]; exact X06.size, fun i hi => (o12 i (by omega) (by omega)).trans (X06.block i (by omega))⟩
  · exact (Rn6.mono (by omega)).keep fun g hg => o12 g (by have := (Rn.bd hg).1; omega) (by have := (Rn.bd hg).1; omega)
  · exact (Ry.mono (by omega)).keep fun g hg => o12 g (by have := (Ry.bd hg).1; omega) (by have := (Ry.bd hg).1; omega)
end Go.Q.Yc
