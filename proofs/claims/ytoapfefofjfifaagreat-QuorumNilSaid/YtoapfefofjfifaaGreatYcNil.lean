/- A part of the proof of statements of this seat: lemmas, no statement of their own. -/
import Derived.Test.YtoapfefofjfifaaGreatYcAN
import Derived.Test.YtoapfefofjfifaaGreatYcOpen
set_option linter.unusedVariables false
set_option linter.unusedSimpArgs false
/- QuorumNil: a desk that is none has no ops. -/
namespace Go.Q.Yc
theorem great_ok {v : S_quaestorlaw31_Act} {k : Bool → Heap → Prop} {h : Heap} {ls ps : List S_api_Piece} (A : LsAt S_api_Piece.cs 5 h v.f_L ls) (B : LsAt S_api_Piece.cs 5 h v.f_O.f_Pieces ps)
    (H : ∀ r h', Ext h.size h h' → k r h') : law31_great v k h := by
  unfold law31_great
  refine ⟨_, _, rfl, rfl, ?_⟩
  have P := Blk.push h (S_quaestorlaw31_Act.cs v) 46
  have W := Ext.push h (.cells (S_quaestorlaw31_Act.cs v).toArray 46) (Nat.le_refl _)
  generalize h.push (.cells (S_quaestorlaw31_Act.cs v).toArray 46) = h2 at *
  have H2 : ∀ r, k r h2 := fun r => H r h2 W
  have g2 : ∀ b, law31_great_g2 ⟨h.size, 0, none⟩ b k h2 := fun b => by
    unfold law31_great_g2 law31_great_g3
    cases b with
    | true => rw [if_pos rfl]; exact H2 _
    | false => rw [if_neg (by simp)]; exact ⟨v.f_O.f_Q.f_Select, by rw [add_mk, add_mk, P.cell]; rfl, H2 _⟩
  have g1 : ∀ b, law31_great_g1 ⟨h.size, 0, none⟩ b k h2 := fun b => by
    unfold law31_great_g1
    cases b with
    | true => rw [if_pos rfl]; exact g2 _
    | false => rw [if_neg (by simp)]; exact ⟨v.f_O.f_Nodes, by rw [add_mk, add_mk, P.cell]; rfl, g2 _⟩
  refine ⟨v.f_L, by rw [add_mk, P.cell]; rfl, Great_ok (A.ext W) (by omega) fun r => ?_⟩
  cases r with
  | true => rw [if_pos rfl]; exact g1 _
  | false =>
    rw [if_neg (by simp)]
    exact ⟨v.f_O.f_Pieces, by rw [add_mk, add_mk, P.cell]; rfl, Great_ok (B.ext W) (by omega) fun r => g1 _⟩
theorem TickNil_ok {k : Unit → Heap → Prop} {h : Heap} (H : k () h) : quorum_Desk_Tick none k h := by
  unfold quorum_Desk_Tick quorum_Desk_numbers
  rw [if_pos (by simp)]
  unfold quorum_Desk_Tick_l1
  refine ⟨fun i h' => h' = h ∧ i = 0, fun _ _ => 0, ⟨rfl, rfl⟩, ?_⟩
  rintro i h' ⟨rfl, rfl⟩
  unfold quorum_Desk_Tick_l1b
  rw [if_neg (by simp)]
  exact H
theorem DueNil_ok {k : Slc → Heap → Prop} {h : Heap} (H : k nilS h) : quorum_Desk_Due none k h := by
  unfold quorum_Desk_Due quorum_Desk_numbers
  rw [if_pos (by simp)]
  unfold quorum_Desk_Due_l1
  refine ⟨fun i h' => h' = h ∧ i = (nilS, 0), fun _ _ => 0, ⟨rfl, rfl⟩, ?_⟩
  rintro s i h' ⟨rfl, e⟩
  cases e
  unfold quorum_Desk_Due_l1b
  rw [if_neg (by simp)]
  exact H
theorem StartNil_ok {v : S_api_Op} {k : Int → Heap → Prop} {h : Heap} (H : ∀ h', Ext h.size h h' → k 1 h') : quorum_Desk_Start none v k h := by
  unfold quorum_Desk_Start
  refine ⟨_, _, rfl, rfl, ?_⟩
  rw [if_pos (by simp)]
  unfold quorum_Desk_Start_g1
  rw [if_pos rfl]
  unfold quorum_Desk_Start_g2
  rw [if_pos rfl]
  unfold quorum_Desk_Start_g3
  rw [if_pos rfl]
  exact H _ (Ext.push h _ (Nat.le_refl _))
theorem NoNil_ok {n node e : Int} {k : Bool → Heap → Prop} {h : Heap} (H : k false h) : quorum_Desk_No none n node e k h := by
  unfold quorum_Desk_No
  refine openNil_ok ?_
  rw [if_pos (by simp)]
  unfold quorum_Desk_No_g1
  rw [if_pos rfl]
  exact H
theorem ResNil_ok {n : Int} {k : S_api_Op × Int → Heap → Prop} {h : Heap} (H : ∀ h', Ext h.size h h' → k (zOp, 6) h') : quorum_Desk_Result none n k h := by
  refine Result_ok (Q := fun r _ => r = (zOp, 6)) (fun r h' h'' e _ _ => e) (fun h2 K X2 _ HK => OpNil_ok fun h' X' => HK _ h' X' rfl) fun r h' e X => ?_
  subst e
  rw [if_neg (by simp)]
  exact H h' X
theorem Nil_ok {v : S_quaestorlaw31_Act} {k : Bool → Heap → Prop} {h : Heap} (o : Ok_S_quaestorlaw31_Act h v) (H : ∀ h', Ext h.size h h' → k true h') : law31_QuorumNil v k h := by
  obtain ⟨_, oO, _, _, ⟨_, _, ls, A, _⟩, _⟩ := o
  obtain ⟨_, _, _, ⟨_, _, ps, B, _⟩, _⟩ := oO
  unfold law31_QuorumNil
  refine ⟨_, _, rfl, rfl, ?_⟩
  have P := Blk.push h (S_quaestorlaw31_Act.cs v) 46
  have W := Ext.push h (.cells (S_quaestorlaw31_Act.cs v).toArray 46) (Nat.le_refl _)
  have pl := P.lt
  generalize h.push (.cells (S_quaestorlaw31_Act.cs v).toArray 46) = h2 at *
  have z2 := W.size
  obtain ⟨b1, eb1⟩ : ∃ y, y = h.size := ⟨_, rfl⟩
  have A2 := A.ext W
  have B2 := B.ext W
  rw [← eb1] at P W pl z2 H ⊢
  refine ⟨v, CellsAt.of_blk P, great_ok A2 B2 fun r h5 X5 => ?_⟩
  have z5 := X5.size
  have X05 : Ext b1 h h5 := W.trans (X5.mono z2)
  have P5 := P.ext X5 (by omega)
  cases r with
  | true =>
    rw [if_pos rfl]
    exact awake_ok fun h' X' => H h' (X05.trans (X'.mono (by omega)))
  | false =>
  rw [if_neg (by simp)]
  refine TickNil_ok ?_
  refine ⟨v.f_N, by rw [add_mk, P5.cell]; rfl, OpNil_ok fun h12 X12 => ?_⟩
  have z12 := X12.size
  refine ⟨_, _, rfl, rfl, ?_⟩
  have V := Blk.push h12 (S_api_Op.cs zOp) 40
  have W14 := Ext.push h12 (.cells (S_api_Op.cs zOp).toArray 40) (Nat.le_refl _)
  generalize h12.push (.cells (S_api_Op.cs zOp).toArray 40) = h14 at *
  refine ⟨_, WrsAt.of_blk V (by show 33 ≤ 33; omega), rfl, ?_⟩
  have X15 : Ext h12.size h12 (setsH h14 ⟨h12.size, 0, none⟩ 0 (S_api_Op.cs zOp)) := W14.trans (Ext.sets _ _ _ (Nat.le_refl _))
  generalize setsH h14 ⟨h12.size, 0, none⟩ 0 (S_api_Op.cs zOp) = h15 at *
  have z15 := X15.size
  have X515 : Ext h5.size h5 h15 := X12.trans (X15.mono z12)
  have P15 := P5.ext X515 (by omega)
  refine ⟨v.f_N, by rw [add_mk, P15.cell]; rfl, ResNil_ok fun h18 X18 => ?_⟩
  have z18 := X18.size
  refine ⟨_, _, rfl, rfl, ?_⟩
  have V2 := Blk.push h18 (S_api_Op.cs zOp) 40
  have W20 := Ext.push h18 (.cells (S_api_Op.cs zOp).toArray 40) (Nat.le_refl _)
  generalize h18.push (.cells (S_api_Op.cs zOp).toArray 40) = h20 at *
  refine ⟨_, WrsAt.of_blk V2 (by show 33 ≤ 33; omega), rfl, ?_⟩
  have X21 : Ext h18.size h18 (setsH h20 ⟨h18.size, 0, none⟩ 0 (S_api_Op.cs zOp)) := W20.trans (Ext.sets _ _ _ (Nat.le_refl _))
  generalize setsH h20 ⟨h18.size, 0, none⟩ 0 (S_api_Op.cs zOp) = h21 at *
  have z21 := X21.size
  have X1521 : Ext h15.size h15 h21 := X18.trans (X21.mono z18)
  have X521 : Ext h5.size h5 h21 := X515.trans (X1521.mono X515.size)
  have P21 := P5.ext X521 (by omega)
  have z21' := X521.size
  refine ⟨v.f_O, ?_, StartNil_ok fun h24 X24 => ?_⟩
  · rw [add_mk]
    exact P21.part (n := 33) rfl
  have z24 := X24.size
  have P24 := P21.ext X24 (by omega)
  rw [if_pos (by simp)]
  refine ⟨v.f_N, by rw [add_mk, P24.cell]; rfl, v.f_Node, by rw [add_mk, P24.cell]; rfl, v.f_L, by rw [add_mk, P24.cell]; rfl, YesNil_ok ?_⟩
  unfold law31_QuorumNil_g1
  rw [if_pos (by simp)]
  refine ⟨v.f_N, by rw [add_mk, P24.cell]; rfl, v.f_Node, by rw [add_mk, P24.cell]; rfl, v.f_E, by rw [add_mk, P24.cell]; rfl, NoNil_ok ?_⟩
  unfold law31_QuorumNil_g2
  rw [if_pos (by simp)]
  refine DueNil_ok ?_
  unfold law31_QuorumNil_g3
  rw [if_pos (by simp)]
  refine awake_ok fun h26 X26 => ?_
  unfold law31_QuorumNil_g4
  exact H h26 (((X05.trans (X521.mono (by omega))).trans (X24.mono (by omega))).trans (X26.mono (by omega)))
end Go.Q.Yc
