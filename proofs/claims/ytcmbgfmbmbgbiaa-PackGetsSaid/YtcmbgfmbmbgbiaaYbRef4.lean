/- A part of the proof of statements of this seat: lemmas, no statement of their own. -/
import Derived.Test.YtcmbgfmbmbgbiaaYbRef3

set_option linter.unusedVariables false
set_option linter.unusedSimpArgs false
namespace Go.Q.Yb
theorem RPiece_ok {p : S_api_Piece} {k : Bool → Heap → Prop} {h : Heap} (H : ∀ h', Ext h.size h h' → k (!badP p) h') : ref13_Check p k h := by
  unfold ref13_Check
  refine ⟨_, _, rfl, rfl, ?_⟩
  have P := Blk.push h (S_api_Piece.cs p) 50
  have W := Ext.push h (.cells (S_api_Piece.cs p).toArray 50) (Nat.le_refl _)
  have H2 := H _ W
  refine ⟨p.f_Series, by rw [P.cell]; rfl, ?_⟩
  unfold badP at H2
  by_cases h1 : p.f_Series.size ≥ 1
  · rw [if_pos (by rw [decide_eq_true_eq]; omega)]
    refine ⟨p.f_Series, by rw [P.cell]; rfl, ?_⟩
    unfold ref13_Check_g1
    have : decide ((p.f_Series.size : Int) ≤ 200) = !(p.f_Series.size == 0 || decide (p.f_Series.size > 200)) := by
      rw [show (p.f_Series.size == 0) = false from by rw [beq_eq_false_iff_ne]; omega, Bool.false_or]
      by_cases h2 : p.f_Series.size > 200
      · rw [decide_eq_true h2, decide_eq_false (by omega)]; rfl
      · rw [decide_eq_false h2, decide_eq_true (by omega)]; rfl
    rw [this]; exact H2
  · rw [if_neg (by rw [decide_eq_true_eq]; omega)]
    unfold ref13_Check_g1
    rw [show (p.f_Series.size == 0) = true from by rw [beq_iff_eq]; omega, Bool.true_or] at H2
    exact H2
section
variable {n : S_api_Note} {ps : List S_api_Piece} {ids : List S_api_Id} {wr : List Int} {vs : List S_api_Entry} {es : List Ent} {snap : List Int}
def badI (x : Int) : Bool := decide (x < 0) || decide (x > 255)
theorem badI_not (x : Int) : (!(decide (x ≥ 0) && decide (x ≤ 255))) = badI x := by
  unfold badI
  by_cases h0 : x < 0
  · rw [decide_eq_true h0, decide_eq_false (by omega : ¬ x ≥ 0)]; rfl
  · rw [decide_eq_false h0, decide_eq_true (by omega : x ≥ 0)]
    by_cases h1 : x > 255
    · rw [decide_eq_true h1, decide_eq_false (by omega)]; rfl
    · rw [decide_eq_false h1, decide_eq_true (by omega)]; rfl
theorem RCheck_ok {k : Int → Heap → Prop} {h : Heap} (A : NoteAt h n ps ids wr vs es snap) (S : NoteSm n ps ids wr es snap) (H : ∀ h', Ext h.size h h' → k (chk n ps ids wr es snap) h') : ref27_Check n k h := by
  have pl := A.pa.l
  have il := A.ia.l
  have sp := S.p
  unfold ref27_Check
  refine ⟨_, _, rfl, rfl, ?_⟩
  have P := Blk.push h (S_api_Note.cs n) 42
  have W := Ext.push h (.cells (S_api_Note.cs n).toArray 42) (Nat.le_refl _)
  obtain ⟨h2, e2⟩ : ∃ y, y = h.push (.cells (S_api_Note.cs n).toArray 42) := ⟨_, rfl⟩
  rw [← e2] at P W ⊢
  have z2 := W.size
  have A2 := A.ext W
  have C : ∀ {h' : Heap} {i : Nat} {v : Value}, Ext h2.size h2 h' → (S_api_Note.cs n)[i]? = some v → cellH h' ((⟨h.size, 0, none⟩ : Addr).add i) = some v := fun X hv => by rw [add_mk, (P.ext X P.lt).cell, Nat.zero_add]; exact hv
  have X2 := Ext.refl h2.size h2
  have H2 := H h2 W
  have main : ¬ (ps.length > 32 ∨ ids.length > 64) → ref27_Check_g2 ⟨h.size, 0, none⟩ (decide (n.f_Kind < 1) || decide (n.f_Kind > 13)) k h2 := fun h1 => by
    have G6 : ref27_Check_g6 ⟨h.size, 0, none⟩ (decide (n.f_Kind < 1) || decide (n.f_Kind > 13) || badI n.f_E || badI n.f_Q.f_Agg || badI n.f_Cmd.f_Kind || badI n.f_M.f_Kind) k h2 := by
      unfold ref27_Check_g6
      have eT : ((n.f_Kind < 1 ∨ n.f_Kind > 13) ∨ ([n.f_E, n.f_Q.f_Agg, n.f_Cmd.f_Kind, n.f_M.f_Kind].any fun x => decide (x < 0) || decide (x > 255)) = true) ↔ (decide (n.f_Kind < 1) || decide (n.f_Kind > 13) || badI n.f_E || badI n.f_Q.f_Agg || badI n.f_Cmd.f_Kind || badI n.f_M.f_Kind) = true := by
        simp only [List.any_cons, List.any_nil, Bool.or_false, Bool.or_eq_true, decide_eq_true_eq, badI]
        simp only [or_assoc]
      by_cases hT : (decide (n.f_Kind < 1) || decide (n.f_Kind > 13) || badI n.f_E || badI n.f_Q.f_Agg || badI n.f_Cmd.f_Kind || badI n.f_M.f_Kind) = true
      · rw [if_pos hT]
        unfold chk at H2; rw [if_neg h1, if_pos (eT.2 hT)] at H2
        exact H2
      · rw [if_neg hT]
        have hn := fun h => hT (eT.1 h)
        refine ⟨fun i h' => 0 ≤ i ∧ i ≤ ps.length ∧ (ps.take i.toNat).any badP = false ∧ Ext h2.size h2 h', fun i _ => (ps.length - i).toNat, ⟨by omega, by omega, by simp, X2⟩, ?_⟩
        rintro i h3 ⟨i0, i1, ha, X3⟩
        have z3 := X3.size
        unfold ref27_Check_l7b
        refine ⟨n.f_Pieces, C X3 rfl, ?_⟩
        by_cases hi : i < ps.length
        · rw [if_pos (by rw [decide_eq_true_eq]; omega)]
          have hx : ps[i.toNat]? = some (ps[i.toNat]'(by omega)) := by simp
          have hm := List.mem_of_getElem? hx
          obtain ⟨a, ha', CA⟩ := A2.pa.at' _ _ hx
          generalize ps[i.toNat]'(by omega) = x at *
          refine ⟨_, C X3 rfl, a, ha', i0, by omega, x, CA.ext X3, RPiece_ok fun h4 X4 => ?_⟩
          have z4 := X4.size
          have X04 := X3.trans (X4.mono z3)
          cases hb : badP x with
          | true =>
            rw [if_pos (by rfl)]
            have H4 := H h4 (W.trans (X04.mono z2))
            unfold chk at H4
            rw [if_neg h1, if_neg hn, if_pos (List.any_eq_true.2 ⟨x, hm, hb⟩)] at H4
            exact H4
          | false =>
            rw [if_neg (by simp), wrapI64 (by omega) (by omega)]
            refine ⟨_, rfl, ⟨by omega, by omega, ?_, X04⟩, by dsimp only; omega⟩
            rw [show (i + 1).toNat = i.toNat + 1 from by omega, take_snoc hx, List.any_append, ha]
            simp [hb]
        · rw [if_neg (by rw [decide_eq_true_eq]; omega)]
          refine ⟨n, CellsAt.of_blk (P.ext X3 P.lt), RNote_ok (A2.ext X3) S fun s5 h5 R5 X5 => ?_⟩
          have hb : ps.any badP = false := by rw [List.take_of_length_le (by omega)] at ha; exact ha
          have H5 := H h5 (W.trans ((X3.trans (X5.mono z3)).mono z2))
          unfold chk at H5
          rw [if_neg h1, if_neg hn, if_neg (by rw [hb]; simp)] at H5
          rw [R5.pb]
          by_cases hl : (noteL n ps ids wr es snap).length > 4096
          · rw [if_pos (by rw [decide_eq_true_eq]; omega)]
            rw [if_pos hl] at H5
            exact H5
          · rw [if_neg (by rw [decide_eq_true_eq]; omega)]
            rw [if_neg hl] at H5
            exact H5
    have A6 : ∀ i : Nat, ((⟨h.size, 0, none⟩ : Addr).add 6).add i = (⟨h.size, 0, none⟩ : Addr).add (6 + i) := fun i => by simp [add_mk]
    have G5 : ref27_Check_g5 ⟨h.size, 0, none⟩ (decide (n.f_Kind < 1) || decide (n.f_Kind > 13) || badI n.f_E || badI n.f_Q.f_Agg || badI n.f_Cmd.f_Kind) k h2 := by
      unfold ref27_Check_g5
      cases ht : (decide (n.f_Kind < 1) || decide (n.f_Kind > 13) || badI n.f_E || badI n.f_Q.f_Agg || badI n.f_Cmd.f_Kind) with
      | true => rw [ht, Bool.true_or] at G6; rw [if_pos rfl]; exact G6
      | false =>
        rw [ht, Bool.false_or] at G6; rw [if_neg (by simp)]
        refine ⟨n.f_M.f_Kind, C X2 rfl, ?_⟩
        unfold ref27_byteOk; dsimp only
        rw [badI_not]; exact G6
    have G4 : ref27_Check_g4 ⟨h.size, 0, none⟩ (decide (n.f_Kind < 1) || decide (n.f_Kind > 13) || badI n.f_E || badI n.f_Q.f_Agg) k h2 := by
      unfold ref27_Check_g4
      cases ht : (decide (n.f_Kind < 1) || decide (n.f_Kind > 13) || badI n.f_E || badI n.f_Q.f_Agg) with
      | true => rw [ht, Bool.true_or] at G5; rw [if_pos rfl]; exact G5
      | false =>
        rw [ht, Bool.false_or] at G5; rw [if_neg (by simp)]
        refine ⟨n.f_Cmd.f_Kind, C X2 rfl, ?_⟩
        unfold ref27_byteOk; dsimp only
        rw [badI_not]; exact G5
    have G3 : ref27_Check_g3 ⟨h.size, 0, none⟩ (decide (n.f_Kind < 1) || decide (n.f_Kind > 13) || badI n.f_E) k h2 := by
      unfold ref27_Check_g3
      cases ht : (decide (n.f_Kind < 1) || decide (n.f_Kind > 13) || badI n.f_E) with
      | true => rw [ht, Bool.true_or] at G4; rw [if_pos rfl]; exact G4
      | false =>
        rw [ht, Bool.false_or] at G4; rw [if_neg (by simp)]
        refine ⟨n.f_Q.f_Agg, by rw [A6]; exact C X2 rfl, ?_⟩
        unfold ref27_byteOk; dsimp only
        rw [badI_not]; exact G4
    unfold ref27_Check_g2
    cases ht : (decide (n.f_Kind < 1) || decide (n.f_Kind > 13)) with
    | true => rw [ht, Bool.true_or] at G3; rw [if_pos rfl]; exact G3
    | false =>
      rw [ht, Bool.false_or] at G3; rw [if_neg (by simp)]
      refine ⟨n.f_E, C X2 rfl, ?_⟩
      unfold ref27_byteOk; dsimp only
      rw [badI_not]; exact G3
  have G1 : ∀ t, (t = true ↔ ps.length > 32 ∨ ids.length > 64) → ref27_Check_g1 ⟨h.size, 0, none⟩ t k h2 := fun t ht => by
    unfold ref27_Check_g1
    cases t with
    | true =>
      rw [if_pos rfl]
      unfold chk at H2
      rw [if_pos (ht.1 rfl)] at H2
      exact H2
    | false =>
      rw [if_neg (by simp)]
      have G2 := main fun h => Bool.false_ne_true (ht.2 h)
      refine ⟨n.f_Kind, by rw [P.cell]; rfl, ?_⟩
      by_cases hk : n.f_Kind < 1
      · rw [if_pos (by simpa using hk)]
        rw [decide_eq_true hk, Bool.true_or] at G2; exact G2
      · rw [if_neg (by simpa using hk)]
        refine ⟨n.f_Kind, by rw [P.cell]; rfl, ?_⟩
        rw [decide_eq_false hk, Bool.false_or] at G2; exact G2
  refine ⟨_, C X2 rfl, ?_⟩
  by_cases hp : ps.length > 32
  · rw [if_pos (by rw [decide_eq_true_eq]; omega)]
    exact G1 true ⟨fun _ => .inl hp, fun _ => rfl⟩
  · rw [if_neg (by rw [decide_eq_true_eq]; omega)]
    refine ⟨_, C X2 rfl, G1 _ ?_⟩
    rw [decide_eq_true_eq]
    omega
end
end Go.Q.Yb
