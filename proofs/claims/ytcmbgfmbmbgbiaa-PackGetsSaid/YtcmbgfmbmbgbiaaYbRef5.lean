/- A part of the proof of statements of this seat: lemmas, no statement of their own. -/
import Derived.Test.YtcmbgfmbmbgbiaaYbRef4
import Derived.Test.YtcmbgfmbmbgbiaaQArgA
set_option linter.unusedVariables false
set_option linter.unusedSimpArgs false
namespace Go.Q.Yb
theorem zNoteAt (h : Heap) : NoteAt h zNote [] [] [] [] [] [] := by
  have L0 : ∀ {α : Type} {cs : α → List Value} {w : Nat}, LsAt cs w h ⟨none, 0, 0⟩ ([] : List α) := ⟨rfl, fun i x hx => by simp at hx⟩
  have S0 : SlcAt h ⟨none, 0, 0⟩ (b8 []) := ⟨fun _ => rfl, fun a ha => by cases ha⟩
  have B0 : isB [] := fun b hb => by cases hb
  exact ⟨L0, L0, ⟨S0, rfl, B0, by decide, by decide⟩, ⟨L0, rfl, fun i v e hv => by simp at hv, (fun e he => by cases he), S0, rfl, B0, by decide, by decide, by decide, by decide⟩, by decide, by decide, by decide, (fun p hp => by cases hp), B0, (fun p hp => by cases hp)⟩
theorem zNoteSm : NoteSm zNote [] [] [] [] [] := ⟨by decide, by decide, by decide, (fun p hp => by cases hp), by decide, ⟨by decide, by decide⟩, ⟨by decide, (fun p hp => by cases hp), by decide⟩⟩
theorem PGets_ok {p0 : Slc} {l : List Int} {k : Bool → Heap → Prop} {h : Heap} (hs : SlcAt h p0 (b8 l)) (hl : p0.len = l.length) (hB : isB l) (H : ∀ h', Ext h.size h h' → k true h') : law27_PackGets p0 k h := by
  unfold law27_PackGets
  by_cases hz : l.length > 2000
  · rw [if_pos (by rw [decide_eq_true_eq]; omega)]
    exact awake27_ok H
  rw [if_neg (by rw [decide_eq_true_eq]; omega)]
  refine Lent_ok hs hl (by omega) fun h2 B2 X2 z2 => ?_
  have S2 : SlcAt h2 ⟨some ⟨h.size, 0, none⟩, l.length, l.length + 8⟩ (b8 l) := SlcAt.of_blk (ys := b8 (List.replicate 8 165)) (by rw [← List.map_append]; exact B2)
  have G1 : ∀ {h3 : Heap}, Ext h.size h h3 → law27_PackGets_g1 true k h3 := fun X => by
    unfold law27_PackGets_g1; rw [if_pos rfl]
    exact awake27_ok fun h' X' => by unfold law27_PackGets_g2; exact H h' (X.trans (X'.mono X.size))
  have G3 : ∀ {h3 : Heap}, Ext h.size h h3 → law27_PackGets_g3 true k h3 := fun X => by
    unfold law27_PackGets_g3; rw [if_pos rfl]
    exact awake27_ok fun h' X' => by unfold law27_PackGets_g4; exact H h' (X.trans (X'.mono X.size))
  refine pGet_ok S2 rfl (by show l.length ≤ l.length + 8; omega) hB (by omega) (fun n ps ids wr vs es snap h3 A S hc hn X3 => ?_) fun h3 X3 => ?_
  · have z3 := X3.size
    refine ⟨_, _, rfl, rfl, ?_⟩
    have Q := Blk.push h3 (S_api_Note.cs zNote) 42
    have Q2 := Q.sets_all (vs := S_api_Note.cs n) rfl
    have W := (Ext.push h3 (.cells (S_api_Note.cs zNote).toArray 42) (Nat.le_refl _)).trans (Ext.sets _ (a := ⟨h3.size, 0, none⟩) 0 (S_api_Note.cs n) (Nat.le_refl _))
    refine ⟨_, WrsAt.of_blk Q (by rw [ncs_len]; omega), rfl, ?_⟩
    dsimp only
    generalize setsH (h3.push (.cells (S_api_Note.cs zNote).toArray 42)) ⟨h3.size, 0, none⟩ 0 (S_api_Note.cs n) = h4 at *
    have z4 := W.size
    have X24 : Ext h2.size h2 h4 := X3.trans (W.mono z3)
    have X04 : Ext h.size h h4 := X2.trans (X24.mono (by omega))
    have ql := Q2.lt
    refine Kept_ok (B2.ext X24 B2.lt) (hs.ext X04) hl (by omega) ?_
    rw [show decide (l = l) = true from by simp, if_neg (by simp), if_neg (by simp)]
    refine ⟨n, CellsAt.of_blk Q2, RCheck_ok (A.ext W) S fun h5 X5 => ?_⟩
    have z5 := X5.size
    have X05 := X04.trans (X5.mono X04.size)
    rw [hc, if_pos (by simp)]
    refine ⟨n, CellsAt.of_blk (Q2.ext X5 ql), RNote_ok ((A.ext W).ext X5) S fun s6 h6 R6 X6 => ?_⟩
    have X06 := X05.trans (X6.mono X05.size)
    rw [← hn] at R6
    refine Same_ok R6.slc R6.pb (hs.ext X06) hl (by omega) ?_
    rw [show decide (l = l) = true from by simp]
    exact G3 X06
  · have z3 := X3.size
    refine ⟨_, _, rfl, rfl, ?_⟩
    have Q := Blk.push h3 (S_api_Note.cs zNote) 42
    have Q2 := Q.sets_all (vs := S_api_Note.cs zNote) rfl
    have W := (Ext.push h3 (.cells (S_api_Note.cs zNote).toArray 42) (Nat.le_refl _)).trans (Ext.sets _ (a := ⟨h3.size, 0, none⟩) 0 (S_api_Note.cs zNote) (Nat.le_refl _))
    refine ⟨_, WrsAt.of_blk Q (by rw [ncs_len]; omega), rfl, ?_⟩
    dsimp only
    generalize setsH (h3.push (.cells (S_api_Note.cs zNote).toArray 42)) ⟨h3.size, 0, none⟩ 0 (S_api_Note.cs zNote) = h4 at *
    have z4 := W.size
    have X24 : Ext h2.size h2 h4 := X3.trans (W.mono z3)
    have X04 : Ext h.size h h4 := X2.trans (X24.mono (by omega))
    refine Kept_ok (B2.ext X24 B2.lt) (hs.ext X04) hl (by omega) ?_
    rw [show decide (l = l) = true from by simp, if_neg (by simp), if_pos (by simp), if_pos (by simp)]
    refine ⟨zNote, CellsAt.of_blk Q2, RNote_ok (zNoteAt _) zNoteSm fun s5 h5 R5 X5 => ?_⟩
    have X05 := X04.trans (X5.mono X04.size)
    refine RNote_ok (zNoteAt _) zNoteSm fun s6 h6 R6 X6 => ?_
    have X06 := X05.trans (X6.mono X05.size)
    refine Same_ok (R5.slc.ext X6) R5.pb R6.slc R6.pb (by have : (noteL zNote [] [] [] [] []).length = 104 := rfl; omega) ?_
    rw [show decide (noteL zNote [] [] [] [] [] = noteL zNote [] [] [] [] []) = true from by simp]
    exact G1 X06
theorem PGets_all {p0 : Slc} {l : List Int} {k : Bool → Heap → Prop} {h : Heap} (hs : SlcAt h p0 (l.map (Value.int .u8))) (hl : p0.len = l.length) (hB : ∀ n ∈ l, (Lit.int .u8 n).wf = true) (H : ∀ h', Ext h.size h h' → k true h') : law27_PackGets p0 k h :=
  PGets_ok hs hl (wf_isB hB) H
end Go.Q.Yb
