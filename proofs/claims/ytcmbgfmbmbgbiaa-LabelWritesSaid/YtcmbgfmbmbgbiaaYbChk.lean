/- A part of the proof of statements of this seat: lemmas, no statement of their own. -/
import Derived.Test.YtcmbgfmbmbgbiaaYbForm3
set_option linter.unusedVariables false
set_option linter.unusedSimpArgs false
namespace Go.Q.Yb
def intsC (x : Int) : List Value := [.int .i64 x]
theorem bytes_ok {s : Slc} {xs : List Int} {k : Bool → Heap → Prop} {h : Heap} (L : LsAt intsC 1 h s xs) (hm : xs.length ≤ 1000) (H : k (xs.any fun x => decide (x < 0) || decide (x > 255)) h) : slices_ContainsFunc_int_int__pack_bytes_1 s k h := by
  unfold slices_ContainsFunc_int_int__pack_bytes_1 slices_IndexFunc_int_int__pack_bytes_1
  have ll := L.l
  refine ⟨fun i h' => 0 ≤ i ∧ i ≤ xs.length ∧ (xs.take i.toNat).any (fun x => decide (x < 0) || decide (x > 255)) = false ∧ h' = h, fun i _ => (xs.length - i).toNat, ⟨by omega, by omega, by simp, rfl⟩, ?_⟩
  rintro i h' ⟨i0, i1, ha, e⟩
  subst e
  unfold slices_IndexFunc_int_int__pack_bytes_1_l1b
  by_cases hi : i < xs.length
  · rw [if_pos (by simp; omega)]
    have hx : xs[i.toNat]? = some (xs[i.toNat]'(by omega)) := by simp
    generalize xs[i.toNat]'(by omega) = x at *
    obtain ⟨a, h1, h2⟩ := L.at' _ _ hx
    refine ⟨a, h1, i0, by omega, x, h2 0 _ rfl, ?_⟩
    unfold pack_bytes_1
    dsimp only
    by_cases hb : (decide (x < 0) || decide (x > 255)) = true
    · rw [if_pos hb]
      have : xs.any (fun x => decide (x < 0) || decide (x > 255)) = true := List.any_eq_true.2 ⟨x, List.mem_of_getElem? hx, hb⟩
      rw [this] at H
      rw [show decide (i ≥ 0) = true from by simpa using i0]
      exact H
    · rw [if_neg hb, wrapI64 (by omega) (by omega)]
      refine ⟨⟨by omega, by omega, ?_, rfl⟩, by (try dsimp only); omega⟩
      rw [show (i + 1).toNat = i.toNat + 1 from by omega, List.take_add_one, hx]
      simp only [Option.toList_some, List.any_append, ha, Bool.false_or, List.any_cons, List.any_nil, Bool.or_false]
      simpa using hb
  · rw [if_neg (by simp; omega)]
    rw [List.take_of_length_le (by omega)] at ha
    rw [ha] at H
    exact ⟨_, rfl, H⟩
def badP (p : S_api_Piece) : Bool := p.f_Series.size == 0 || decide (p.f_Series.size > 200)
theorem pCheck_ok {p : S_api_Piece} {k : Int → Heap → Prop} {h : Heap} (H : ∀ h', Ext h.size h h' → k (if badP p then 1 else 0) h') : piece_Check p k h := by
  unfold piece_Check
  refine ⟨_, _, rfl, rfl, ?_⟩
  have P := Blk.push h (S_api_Piece.cs p) 50
  have W := Ext.push h (.cells (S_api_Piece.cs p).toArray 50) (Nat.le_refl _)
  obtain ⟨h2, e2⟩ : ∃ y, y = h.push (.cells (S_api_Piece.cs p).toArray 50) := ⟨_, rfl⟩
  rw [← e2] at P W ⊢
  refine ⟨_, by rw [P.cell]; rfl, ?_⟩
  have := H h2 W
  by_cases h0 : p.f_Series.size = 0
  · rw [if_pos (by simp [h0])]
    unfold piece_Check_g1
    rw [if_pos rfl]
    rw [if_pos (by simp [badP, h0])] at this
    exact this
  · rw [if_neg (by rw [beq_iff_eq]; omega)]
    refine ⟨_, by rw [P.cell]; rfl, ?_⟩
    unfold piece_Check_g1
    by_cases hb : p.f_Series.size > 200
    · rw [if_pos (by rw [decide_eq_true_eq]; omega)]
      rw [if_pos (by simp [badP, hb])] at this
      exact this
    · rw [if_neg (by rw [decide_eq_true_eq]; omega)]
      rw [if_neg (by simp only [badP, Bool.or_eq_true, beq_iff_eq, decide_eq_true_eq]; omega)] at this
      exact this
theorem pieces_ok {s : Slc} {xs : List S_api_Piece} {k : Bool → Heap → Prop} {h : Heap} (L : LsAt S_api_Piece.cs 5 h s xs) (hm : xs.length ≤ 1000) (H : ∀ h', Ext h.size h h' → k (xs.any badP) h') : slices_ContainsFunc_api_Piece_api_Piece__pack_Check_1 s k h := by
  unfold slices_ContainsFunc_api_Piece_api_Piece__pack_Check_1 slices_IndexFunc_api_Piece_api_Piece__pack_Check_1
  have ll := L.l
  refine ⟨fun i h' => 0 ≤ i ∧ i ≤ xs.length ∧ (xs.take i.toNat).any badP = false ∧ Ext h.size h h', fun i _ => (xs.length - i).toNat, ⟨by omega, by omega, by simp, Ext.refl _ _⟩, ?_⟩
  rintro i h1 ⟨i0, i1, ha, X⟩
  have z := X.size
  unfold slices_IndexFunc_api_Piece_api_Piece__pack_Check_1_l1b
  by_cases hi : i < xs.length
  · rw [if_pos (by simp; omega)]
    have hx : xs[i.toNat]? = some (xs[i.toNat]'(by omega)) := by simp
    generalize xs[i.toNat]'(by omega) = x at *
    obtain ⟨a, h1', h2'⟩ := (L.ext X).at' _ _ hx
    refine ⟨a, h1', i0, by omega, x, h2', ?_⟩
    unfold pack_Check_1
    refine ⟨_, _, rfl, rfl, ?_⟩
    have P := Blk.push h1 (S_api_Piece.cs x) 50
    have W := Ext.push h1 (.cells (S_api_Piece.cs x).toArray 50) (Nat.le_refl _)
    obtain ⟨h2, e2⟩ : ∃ y, y = h1.push (.cells (S_api_Piece.cs x).toArray 50) := ⟨_, rfl⟩
    rw [← e2] at P W ⊢
    have z2 := W.size
    refine ⟨x, CellsAt.of_blk P, pCheck_ok fun h3 X3 => ?_⟩
    have X13 : Ext h.size h h3 := X.trans ((W.mono z).trans (X3.mono (by omega)))
    by_cases hb : badP x = true
    · rw [if_pos hb]
      dsimp only
      rw [if_pos (by decide)]
      have : xs.any badP = true := List.any_eq_true.2 ⟨x, List.mem_of_getElem? hx, hb⟩
      rw [show decide (i ≥ 0) = true from by simpa using i0, ← this]
      exact H h3 X13
    · rw [if_neg hb]
      dsimp only
      rw [if_neg (by decide), wrapI64 (by omega) (by omega)]
      refine ⟨⟨by omega, by omega, ?_, X13⟩, by (try dsimp only); omega⟩
      rw [show (i + 1).toNat = i.toNat + 1 from by omega, List.take_add_one, hx]
      simp only [Option.toList_some, List.any_append, ha, Bool.false_or, List.any_cons, List.any_nil, Bool.or_false]
      simpa using hb
  · rw [if_neg (by simp; omega)]
    rw [List.take_of_length_le (by omega)] at ha
    refine ⟨_, rfl, ?_⟩
    dsimp only
    rw [show decide ((-1 : Int) ≥ 0) = false from by decide, ← ha]
    exact H h1 X
/-- what Check answers -/
def chk (n : S_api_Note) (ps : List S_api_Piece) (ids : List S_api_Id) (wr : List Int) (es : List Ent) (snap : List Int) : Int :=
  if ps.length > 32 ∨ ids.length > 64 then 3
  else if (n.f_Kind < 1 ∨ n.f_Kind > 13) ∨ ([n.f_E, n.f_Q.f_Agg, n.f_Cmd.f_Kind, n.f_M.f_Kind].any fun x => decide (x < 0) || decide (x > 255)) = true then 1
  else if ps.any badP then 1
  else if (noteL n ps ids wr es snap).length > 4096 then 3 else 0
variable {n : S_api_Note} {ps : List S_api_Piece} {ids : List S_api_Id} {wr : List Int} {vs : List S_api_Entry} {es : List Ent} {snap : List Int}
theorem Check_ok {k : Int → Heap → Prop} {h : Heap} (A : NoteAt h n ps ids wr vs es snap) (S : NoteSm n ps ids wr es snap) (H : ∀ h', Ext h.size h h' → k (chk n ps ids wr es snap) h') : pack_Check n k h := by
  have pl := A.pa.l
  have il := A.ia.l
  unfold pack_Check
  refine ⟨_, _, rfl, rfl, ?_⟩
  have P := Blk.push h (S_api_Note.cs n) 42
  have W := Ext.push h (.cells (S_api_Note.cs n).toArray 42) (Nat.le_refl _)
  obtain ⟨h2, e2⟩ : ∃ y, y = h.push (.cells (S_api_Note.cs n).toArray 42) := ⟨_, rfl⟩
  rw [← e2] at P W ⊢
  have z2 := W.size
  have A2 := A.ext W
  have g5 : ∀ {h'}, Blk h' h.size (S_api_Note.cs n) 42 → cellH h' ((⟨h.size, 0, none⟩ : Addr).add 5) = some (Slc.v n.f_Pieces) := fun K => by rw [add_mk, K.cell]; rfl
  have g29 : ∀ {h'}, Blk h' h.size (S_api_Note.cs n) 42 → cellH h' ((⟨h.size, 0, none⟩ : Addr).add 29) = some (Slc.v n.f_Ids) := fun K => by rw [add_mk, K.cell]; rfl
  have g0 : ∀ {h'}, Blk h' h.size (S_api_Note.cs n) 42 → cellH h' (⟨h.size, 0, none⟩ : Addr) = some (.int .i64 n.f_Kind) := fun K => by rw [K.cell]; rfl
  have H2 := H h2 W
  have G3 : ∀ (t : Bool) (h3 : Heap), Ext h2.size h2 h3 → ¬ (ps.length > 32 ∨ ids.length > 64) → (t = true ↔ (n.f_Kind < 1 ∨ n.f_Kind > 13) ∨ ([n.f_E, n.f_Q.f_Agg, n.f_Cmd.f_Kind, n.f_M.f_Kind].any fun x => decide (x < 0) || decide (x > 255)) = true) → pack_Check_g3 ⟨h.size, 0, none⟩ t k h3 := fun t h3 X h1 ht => by
    have H3 := H h3 (W.trans (X.mono z2))
    have z3 := X.size
    unfold chk at H3
    rw [if_neg h1] at H3
    unfold pack_Check_g3
    cases t with
    | true =>
      rw [if_pos rfl]
      rw [if_pos (ht.1 rfl)] at H3
      exact H3
    | false =>
      rw [if_neg (by simp)]
      have hn := fun h => Bool.false_ne_true (ht.2 h)
      have P3 := P.ext X P.lt
      refine ⟨_, g5 P3, pieces_ok (A2.ext X).pa (by omega) fun h4 X4 => ?_⟩
      have z4 := X4.size
      have XX : Ext h.size h h4 := W.trans ((X.trans (X4.mono z3)).mono z2)
      have H4 := H h4 XX
      unfold chk at H4
      rw [if_neg h1, if_neg hn] at H4
      by_cases hb : ps.any badP = true
      · rw [if_pos hb]
        rw [if_pos hb] at H4
        exact H4
      · rw [if_neg hb]
        have P4 := P3.ext X4 P3.lt
        refine ⟨n, CellsAt.of_blk P4, form_ok ((A2.ext X).ext X4) S fun s5 h5 R5 X5 => ?_⟩
        have H5 := H h5 (XX.trans (X5.mono XX.size))
        unfold chk at H5
        rw [if_neg h1, if_neg hn, if_neg hb] at H5
        rw [R5.pb]
        by_cases hl : (noteL n ps ids wr es snap).length > 4096
        · rw [if_pos (by rw [decide_eq_true_eq]; omega)]
          rw [if_pos hl] at H5
          exact H5
        · rw [if_neg (by rw [decide_eq_true_eq]; omega)]
          rw [if_neg hl] at H5
          exact H5
  have G1 : ∀ t, (t = true ↔ ps.length > 32 ∨ ids.length > 64) → pack_Check_g1 ⟨h.size, 0, none⟩ t k h2 := fun t ht => by
    unfold pack_Check_g1
    cases t with
    | true =>
      rw [if_pos rfl]
      unfold chk at H2
      rw [if_pos (ht.1 rfl)] at H2
      exact H2
    | false =>
      rw [if_neg (by simp)]
      have h1 := fun h => Bool.false_ne_true (ht.2 h)
      have G2 : ∀ t, (t = true ↔ n.f_Kind < 1 ∨ n.f_Kind > 13) → pack_Check_g2 ⟨h.size, 0, none⟩ t k h2 := fun t ht => by
        unfold pack_Check_g2
        cases t with
        | true =>
          rw [if_pos rfl]
          exact G3 true h2 (Ext.refl _ _) h1 ⟨fun _ => .inl (ht.1 rfl), fun _ => rfl⟩
        | false =>
          rw [if_neg (by simp)]
          have hn := fun h => Bool.false_ne_true (ht.2 h)
          refine ⟨n.f_E, by rw [add_mk, P.cell]; rfl, n.f_Q.f_Agg, by rw [add_mk, add_mk, P.cell]; rfl, n.f_Cmd.f_Kind, by rw [add_mk, P.cell]; rfl, n.f_M.f_Kind, by rw [add_mk, P.cell]; rfl, _, _, rfl, rfl, ?_⟩
          have N := Blk.push h2 ([n.f_E, n.f_Q.f_Agg, n.f_Cmd.f_Kind, n.f_M.f_Kind].map (Value.int .i64)) 3
          have W3 := Ext.push h2 (.cells ([n.f_E, n.f_Q.f_Agg, n.f_Cmd.f_Kind, n.f_M.f_Kind].map (Value.int .i64)).toArray 3) (Nat.le_refl _)
          obtain ⟨h3, e3⟩ : ∃ y, y = h2.push (.cells ([n.f_E, n.f_Q.f_Agg, n.f_Cmd.f_Kind, n.f_M.f_Kind].map (Value.int .i64)).toArray 3) := ⟨_, rfl⟩
          show pack_bytes _ _ (h2.push (.cells ([n.f_E, n.f_Q.f_Agg, n.f_Cmd.f_Kind, n.f_M.f_Kind].map (Value.int .i64)).toArray 3))
          rw [← e3] at N W3 ⊢
          have L : LsAt intsC 1 h3 ⟨some ⟨h2.size, 0, none⟩, 4, 4⟩ [n.f_E, n.f_Q.f_Agg, n.f_Cmd.f_Kind, n.f_M.f_Kind] := ⟨rfl, fun i x hx => ⟨_, rfl, fun j v hj => by
            have hj0 : j = 0 := by have := (List.getElem?_eq_some_iff.1 hj).1; simp [intsC] at this; exact this
            subst hj0
            simp [intsC] at hj
            subst hj
            rw [Nat.mul_one, add_mk, add_mk, N.cell, Nat.zero_add, Nat.add_zero, List.getElem?_map, hx]; rfl⟩⟩
          unfold pack_bytes
          refine bytes_ok L (by simp) ?_
          refine G3 _ h3 W3 h1 ?_
          rw [Bool.not_not]
          exact ⟨.inr, fun h => h.elim (fun h => absurd h hn) id⟩
      refine ⟨_, g0 P, ?_⟩
      by_cases hk : n.f_Kind < 1
      · rw [if_pos (by simpa using hk)]
        exact G2 true ⟨fun _ => .inl hk, fun _ => rfl⟩
      · rw [if_neg (by simpa using hk)]
        refine ⟨_, g0 P, G2 _ ?_⟩
        rw [decide_eq_true_eq]
        exact ⟨.inr, fun h => h.elim (fun h => absurd h hk) id⟩
  refine ⟨_, g5 P, ?_⟩
  by_cases hp : ps.length > 32
  · rw [if_pos (by rw [decide_eq_true_eq]; omega)]
    exact G1 true ⟨fun _ => .inl hp, fun _ => rfl⟩
  · rw [if_neg (by rw [decide_eq_true_eq]; omega)]
    refine ⟨_, g29 P, G1 _ ?_⟩
    rw [decide_eq_true_eq]
    omega
theorem nPut_ok {k : Slc → Heap → Prop} {h : Heap} (A : NoteAt h n ps ids wr vs es snap) (S : NoteSm n ps ids wr es snap)
    (H : ∀ s' h', Row h.size h' 5 1 s' (b8 (if chk n ps ids wr es snap = 0 then noteL n ps ids wr es snap else [])) → Ext h.size h h' → k s' h') : pack_Put n k h := by
  unfold pack_Put
  refine ⟨_, _, rfl, rfl, ?_⟩
  have P := Blk.push h (S_api_Note.cs n) 42
  have W := Ext.push h (.cells (S_api_Note.cs n).toArray 42) (Nat.le_refl _)
  obtain ⟨h2, e2⟩ : ∃ y, y = h.push (.cells (S_api_Note.cs n).toArray 42) := ⟨_, rfl⟩
  rw [← e2] at P W ⊢
  have z2 := W.size
  refine ⟨n, CellsAt.of_blk P, Check_ok (A.ext W) S fun h3 X3 => ?_⟩
  have z3 := X3.size
  have XX : Ext h.size h h3 := W.trans (X3.mono z2)
  by_cases hc : chk n ps ids wr es snap = 0
  · rw [if_neg (by simp [hc])]
    rw [if_pos hc] at H
    refine ⟨n, CellsAt.of_blk (P.ext X3 P.lt), form_ok ((A.ext W).ext X3) S fun s4 h4 R4 X4 => ?_⟩
    exact H s4 h4 (R4.mono (by omega)) (XX.trans (X4.mono (by omega)))
  · rw [if_pos (by simpa using hc)]
    rw [if_neg hc] at H
    exact H _ h3 (Row.nil _ _ _ _) XX
end Go.Q.Yb
