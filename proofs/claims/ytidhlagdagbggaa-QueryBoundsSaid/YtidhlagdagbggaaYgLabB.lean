/- A part of the proof of statements of this seat: lemmas, no statement of their own. -/
import Derived.Test.YtidhlagdagbggaaYgLabA
set_option linter.unusedVariables false
set_option linter.unusedSimpArgs false
namespace Go.Q.Yg
/-! ### questions -/
abbrev QU := Tx × Int × Tx
def qst (x : QU) : S_api_Question := ⟨ofL x.1, x.2.1, ofL x.2.2⟩
def qcs (x : QU) : List Value := S_api_Question.cs (qst x)
theorem qcs_len (x : QU) : (qcs x).length = 3 := rfl
theorem scs3_len (x : S_api_Question) : (S_api_Question.cs x).length = 3 := rfl
theorem scs_len (x : S_api_Selector) : (S_api_Selector.cs x).length = 2 := rfl
def sg : List Tx := [[61], [33, 61], [94, 61]]
def qgo (n r : Tx) : Int → List Tx → QU × Bool
  | _, [] => ((n, 0, []), false)
  | j, s :: ss => if prefU r s = true then ((n, j, r.drop s.length), wordU n && wordU (r.drop s.length)) else qgo n r (j + 1) ss
def questionU (l : Tx) : QU × Bool := qgo (l.takeWhile letterU) (l.dropWhile letterU) 0 sg
theorem tw_take {p : UInt8 → Bool} : ∀ {l : Tx} {i : Nat}, (l.take i).all p = true → (i = l.length ∨ ∃ c, l[i]? = some c ∧ p c = false) → l.takeWhile p = l.take i ∧ l.dropWhile p = l.drop i
  | [], i, _, _ => by simp
  | b :: r, 0, _, h => by
    rcases h with h | ⟨c, hc, hp⟩
    · simp at h
    · simp at hc; subst hc; simp [hp]
  | b :: r, i + 1, ha, h => by
    simp only [List.take_succ_cons, List.all_cons, Bool.and_eq_true] at ha
    have := tw_take (l := r) (i := i) ha.2 (by
      rcases h with h | ⟨c, hc, hp⟩
      · left; simpa using h
      · right; exact ⟨c, by simpa using hc, hp⟩)
    rw [List.takeWhile_cons, if_pos ha.1, List.dropWhile_cons, if_pos ha.1, this.1, this.2]
    exact ⟨rfl, rfl⟩
theorem Question_ok {l : Tx} {k : S_api_Question × Bool → Heap → Prop} {h : Heap} (hl : l.length ≤ 1000000000) (H : ∀ h', Ext h.size h h' → k (qst (questionU l).1, (questionU l).2) h') : label_question (ofL l) k h := by
  unfold label_question
  refine ⟨_, _, rfl, rfl, ?_⟩
  have P := Blk.push h (S_api_Question.cs ⟨ByteArray.empty, 0, ByteArray.empty⟩) 143
  have W := Ext.push h (.cells (S_api_Question.cs ⟨ByteArray.empty, 0, ByteArray.empty⟩).toArray 143) (Nat.le_refl _)
  have pl := P.lt
  generalize h.push (.cells (S_api_Question.cs ⟨ByteArray.empty, 0, ByteArray.empty⟩).toArray 143) = h2 at *
  have z2 := W.size
  refine ⟨fun i h' => 0 ≤ i ∧ i ≤ l.length ∧ (l.take i.toNat).all letterU = true ∧ h' = h2, fun i _ => (l.length - i).toNat, ⟨by omega, by omega, by simp, rfl⟩, ?_⟩
  rintro i h' ⟨i0, i1, ha, e⟩
  subst e
  have g2 : (i.toNat = l.length ∨ ∃ c, l[i.toNat]? = some c ∧ letterU c = false) → ∀ nx, label_question_g2 (ofL l) ⟨h.size, 0, none⟩ i false k nx h' := fun hs nx => by
    obtain ⟨tw, dw⟩ := tw_take ha hs
    unfold label_question_g2
    rw [if_neg (by simp), size_ofL]
    refine ⟨_, by omega, i0, by omega, rfl, ?_⟩
    rw [extract_ofL, show (0 : Int).toNat = 0 from rfl, List.drop_zero, Nat.sub_zero]
    obtain ⟨n, en⟩ : ∃ n, n = l.take i.toNat := ⟨_, rfl⟩
    obtain ⟨r, er⟩ : ∃ r, r = l.drop i.toNat := ⟨_, rfl⟩
    rw [← en] at tw ⊢
    rw [← er] at dw
    have nl : n.length ≤ 1000000000 := by rw [en, List.length_take]; omega
    have rl : r.length ≤ 1000000000 := by rw [er, List.length_drop]; omega
    refine ⟨_, _, rfl, rfl, ?_⟩
    have Q := Blk.push h' (S_api_Question.cs ⟨ByteArray.empty, 0, ByteArray.empty⟩) 143
    have Q2 := Q.sets_all (vs := S_api_Question.cs ⟨ofL n, 0, ByteArray.empty⟩) rfl
    have W3 := (Ext.push h' (.cells (S_api_Question.cs ⟨ByteArray.empty, 0, ByteArray.empty⟩).toArray 143) (Nat.le_refl _)).trans (Ext.sets _ (a := ⟨h'.size, 0, none⟩) 0 (S_api_Question.cs ⟨ofL n, 0, ByteArray.empty⟩) (Nat.le_refl _))
    refine ⟨_, WrsAt.of_blk Q (by rw [scs3_len]; omega), rfl, ?_⟩
    generalize setsH (h'.push (.cells (S_api_Question.cs ⟨ByteArray.empty, 0, ByteArray.empty⟩).toArray 143)) ⟨h'.size, 0, none⟩ 0 (S_api_Question.cs ⟨ofL n, 0, ByteArray.empty⟩) = h3 at *
    have z3 := W3.size
    have ql := Q2.lt
    unfold label_signs
    refine ⟨_, _, rfl, rfl, ?_⟩
    have S := Blk.push h3 (sg.map fun s => Value.string (ofL s)) 9
    have W4 := Ext.push h3 (.cells (sg.map fun s => Value.string (ofL s)).toArray 9) (Nat.le_refl _)
    have es : h3.push (.cells ([.string (⟨#[61]⟩ : ByteArray), .string (⟨#[33, 61]⟩ : ByteArray), .string (⟨#[94, 61]⟩ : ByteArray)]).toArray 9) = h3.push (.cells (sg.map fun s => Value.string (ofL s)).toArray 9) := rfl
    rw [es]
    generalize h3.push (.cells (sg.map fun s => Value.string (ofL s)).toArray 9) = h4 at *
    have z4 := W4.size
    have Q4 := Q2.ext W4 ql
    have P4 := (P.ext W3 pl).ext W4 (by omega)
    have X04 : Ext h.size h h4 := W.trans ((W3.trans (W4.mono z3)).mono z2)
    have ans : ∀ (x : S_api_Question) (b : Bool) (h5 : Heap), Ext h.size h4 h5 → Blk h5 h.size (S_api_Question.cs ⟨ByteArray.empty, 0, ByteArray.empty⟩) 143 → (qst (questionU l).1, (questionU l).2) = (x, b) → ∃ h6 : Heap, WrsAt h5 ⟨h.size, 0, none⟩ 3 ∧ h6 = setsH h5 ⟨h.size, 0, none⟩ 0 (S_api_Question.cs x) ∧ (∃ v17 : S_api_Question, CellsAt h6 ⟨h.size, 0, none⟩ (S_api_Question.cs v17) ∧ k (v17, b) h6) := fun x b h5 X5 P5 e => by
      refine ⟨_, WrsAt.of_blk P5 (by rw [scs3_len]; omega), rfl, x, CellsAt.of_blk (P5.sets_all (vs := S_api_Question.cs x) rfl), ?_⟩
      rw [← e]
      exact H _ ((X04.trans X5).trans (Ext.sets _ _ _ (Nat.le_refl _)))
    refine ⟨fun j h5 => 0 ≤ j ∧ j ≤ 3 ∧ qgo n r j (sg.drop j.toNat) = questionU l ∧ h5 = h4, fun j _ => (3 - j).toNat, ⟨by omega, by omega, by show qgo n r 0 sg = _; unfold questionU; rw [tw, dw], rfl⟩, ?_⟩
    rintro j h5 ⟨j0, j1, hq, e5⟩
    subst e5
    unfold label_question_l3b
    by_cases hj : j < 3
    · rw [if_pos (by rw [decide_eq_true_eq]; exact hj)]
      have hsg : sg[j.toNat]? = some (sg[j.toNat]'(by show j.toNat < 3; omega)) := by simp
      have hdr : sg.drop j.toNat = (sg[j.toNat]'(by show j.toNat < 3; omega)) :: sg.drop (j.toNat + 1) := List.drop_eq_getElem_cons (by show j.toNat < 3; omega)
      generalize sg[j.toNat]'(by show j.toNat < 3; omega) = s at *
      refine ⟨_, rfl, j0, by simpa using hj, ofL s, ?_, _, i0, by rw [size_ofL]; omega, by omega, rfl, ?_⟩
      · rw [Nat.mul_one, add_mk, S.cell, Nat.zero_add, List.getElem?_map, hsg]; rfl
      rw [extract_ofL, size_ofL, show (l.length : Int).toNat = l.length from rfl, List.take_of_length_le (by rw [List.length_drop]; exact Nat.le_refl _), ← er]
      refine CutPrefix_ok (Nat.le_trans rl (by decide)) ?_
      rw [hdr] at hq
      unfold qgo at hq
      cases hp : prefU r s with
      | true =>
        rw [hp, if_pos rfl] at hq
        rw [if_pos rfl, if_pos rfl]
        refine ⟨_, by rw [add_mk]; exact Q4.wr (by rw [scs3_len]; omega), rfl, ?_⟩
        rw [show (⟨h'.size, 0, none⟩ : Addr).add 1 = ⟨h'.size, 1, none⟩ from by simp, show (⟨h'.size, 0, none⟩ : Addr).add 2 = ⟨h'.size, 2, none⟩ from by simp]
        have Q5 : Blk (setH h5 ⟨h'.size, 1, none⟩ (.int .i64 j)) h'.size (S_api_Question.cs ⟨ofL n, j, ByteArray.empty⟩) 143 := Q4.set
        refine ⟨_, Q5.wr (by rw [scs3_len]; omega), rfl, ?_⟩
        have Q6 : Blk (setH (setH h5 ⟨h'.size, 1, none⟩ (.int .i64 j)) ⟨h'.size, 2, none⟩ (.string (ofL (r.drop s.length)))) h'.size (S_api_Question.cs ⟨ofL n, j, ofL (r.drop s.length)⟩) 143 := Q5.set
        have oth : ∀ g, g ≠ h'.size → (setH (setH h5 ⟨h'.size, 1, none⟩ (.int .i64 j)) ⟨h'.size, 2, none⟩ (.string (ofL (r.drop s.length))))[g]? = h5[g]? := fun g hg => (setH_other hg).trans (setH_other hg)
        have z6 : (setH (setH h5 ⟨h'.size, 1, none⟩ (.int .i64 j)) ⟨h'.size, 2, none⟩ (.string (ofL (r.drop s.length)))).size = h5.size := setH_size.trans setH_size
        generalize setH (setH h5 ⟨h'.size, 1, none⟩ (.int .i64 j)) ⟨h'.size, 2, none⟩ (.string (ofL (r.drop s.length))) = h6 at *
        have P6 := P4.old (oth h.size (by omega))
        have X6 : Ext h.size h5 h6 := ⟨by omega, fun g hg => oth g (by omega)⟩
        refine ⟨_, CellsAt.of_blk Q6, ofL n, by rw [Q6.cell]; rfl, word_ok (Nat.le_trans nl (by decide)) ⟨CellsAt.of_blk Q6, ?_⟩⟩
        cases hn : wordU n with
        | true =>
          rw [hn, Bool.true_and] at hq
          rw [if_pos rfl]
          refine ⟨ofL (r.drop s.length), by rw [Q6.cell]; rfl, word_ok (by rw [List.length_drop]; omega) ⟨CellsAt.of_blk Q6, ?_⟩⟩
          unfold label_question_j4
          exact ans _ _ h6 X6 P6 (by rw [← hq]; rfl)
        | false =>
          rw [hn, Bool.false_and] at hq
          rw [if_neg (by simp)]
          unfold label_question_j4
          exact ans _ _ h6 X6 P6 (by rw [← hq]; rfl)
      | false =>
        rw [hp, if_neg (by simp)] at hq
        rw [if_neg (by simp), wrapI64 (by omega) (by omega)]
        exact ⟨⟨by omega, by omega, by rw [show (j + 1).toNat = j.toNat + 1 from by omega]; exact hq, rfl⟩, by dsimp only; omega⟩
    · rw [if_neg (by rw [decide_eq_true_eq]; exact hj)]
      have : j = 3 := by omega
      subst this
      refine ⟨_, CellsAt.of_blk Q4, ?_⟩
      exact ans _ _ h5 (Ext.refl _ _) P4 (by rw [← hq]; rfl)
  unfold label_question_l1b
  rw [size_ofL]
  by_cases hi : i < l.length
  · rw [if_pos (by rw [decide_eq_true_eq]; exact hi)]
    have hx : l[i.toNat]? = some (l[i.toNat]'(by omega)) := by simp
    generalize l[i.toNat]'(by omega) = c at *
    refine ⟨_, i0, strAt_ofL hx, letter_ok ?_⟩
    cases hc : letterU c with
    | false => exact g2 (.inr ⟨c, hx, hc⟩) _
    | true =>
      unfold label_question_g2
      rw [if_pos rfl, wrapI64 (by omega) (by omega)]
      refine ⟨_, rfl, ⟨by omega, by omega, ?_, rfl⟩, by dsimp only; omega⟩
      rw [show (i + 1).toNat = i.toNat + 1 from by omega, List.take_add_one, hx]
      simp [ha, hc]
  · rw [if_neg (by rw [decide_eq_true_eq]; exact hi)]
    exact g2 (.inl (by omega)) _
/-! ### selectors -/
abbrev zSel : S_api_Selector := ⟨ByteArray.empty, ⟨none, 0, 0⟩⟩
def selGo : Nat → Tx → List QU → Option (List QU)
  | 0, _, _ => none
  | f + 1, rest, qs =>
    if (questionU (cutU rest 44).1).2 = false ∨ qs.length = 8 then none
    else if (cutU rest 44).2.2 = true then selGo f (cutU rest 44).2.1 (qs ++ [(questionU (cutU rest 44).1).1]) else some (qs ++ [(questionU (cutU rest 44).1).1])
def selU (l : Tx) : Option (Tx × List QU) :=
  if (cutU l 123).1 ≠ [] ∧ wordU (cutU l 123).1 = false then none
  else if (cutU l 123).2.2 = false then some ((cutU l 123).1, [])
  else if (sufU (cutU l 123).2.1 125).2 = false then none
  else (selGo ((sufU (cutU l 123).2.1 125).1.length + 1) (sufU (cutU l 123).2.1 125).1 []).map fun qs => ((cutU l 123).1, qs)
theorem cut_len (l : Tx) (c : UInt8) : (cutU l c).1.length ≤ l.length ∧ (cutU l c).2.1.length ≤ l.length ∧ ((cutU l c).2.2 = true → (cutU l c).2.1.length < l.length) := by
  unfold cutU
  by_cases hc : c ∈ l
  · rw [if_pos hc]
    have := congrArg List.length (tw_split c hc)
    rw [List.length_append, List.length_cons] at this
    dsimp only
    exact ⟨by omega, by omega, fun _ => by omega⟩
  · rw [if_neg hc]; simp
theorem suf_len (l : Tx) (c : UInt8) : (sufU l c).1.length ≤ l.length := by
  unfold sufU; split <;> simp
theorem Selector_ok {l : Tx} {k : S_api_Selector × Int → Heap → Prop} {h : Heap} (hl : l.length ≤ 100000000)
    (H0 : ∀ h', selU l = none → Ext h.size h h' → k (zSel, 4) h')
    (H1 : ∀ name qs s h', selU l = some (name, qs) → Row h.size h' 143 3 s (qs.flatMap qcs) → s.len = qs.length → Ext h.size h h' → k (⟨ofL name, s⟩, 0) h') : label_Selector (ofL l) k h := by
  unfold label_Selector
  refine ⟨_, _, rfl, rfl, ?_⟩
  have P := Blk.push h (S_api_Selector.cs zSel) 105
  have W := Ext.push h (.cells (S_api_Selector.cs zSel).toArray 105) (Nat.le_refl _)
  have pl := P.lt
  generalize h.push (.cells (S_api_Selector.cs zSel).toArray 105) = h2 at *
  have z2 := W.size
  refine Cut_ok' (by omega) ?_
  obtain ⟨cl1, cl2, cl3⟩ := cut_len l 123
  obtain ⟨name, en⟩ : ∃ x, x = (cutU l 123).1 := ⟨_, rfl⟩
  obtain ⟨rest, er⟩ : ∃ x, x = (cutU l 123).2.1 := ⟨_, rfl⟩
  obtain ⟨some', es⟩ : ∃ x, x = (cutU l 123).2.2 := ⟨_, rfl⟩
  have hsel : selU l = if name ≠ [] ∧ wordU name = false then none else if some' = false then some (name, []) else if (sufU rest 125).2 = false then none else (selGo ((sufU rest 125).1.length + 1) (sufU rest 125).1 []).map fun qs => (name, qs) := by
    rw [en, er, es]; rfl
  rw [← en, ← er, ← es]
  rw [← en] at cl1
  rw [← er] at cl2
  dsimp only
  refine ⟨_, _, rfl, rfl, ?_⟩
  have Q := Blk.push h2 (S_api_Selector.cs zSel) 105
  have Q2 := Q.sets_all (vs := S_api_Selector.cs ⟨ofL name, ⟨none, 0, 0⟩⟩) rfl
  have W3 := (Ext.push h2 (.cells (S_api_Selector.cs zSel).toArray 105) (Nat.le_refl _)).trans (Ext.sets _ (a := ⟨h2.size, 0, none⟩) 0 (S_api_Selector.cs ⟨ofL name, ⟨none, 0, 0⟩⟩) (Nat.le_refl _))
  refine ⟨_, WrsAt.of_blk Q (by rw [scs_len]; omega), rfl, ?_⟩
  generalize setsH (h2.push (.cells (S_api_Selector.cs zSel).toArray 105)) ⟨h2.size, 0, none⟩ 0 (S_api_Selector.cs ⟨ofL name, ⟨none, 0, 0⟩⟩) = h3 at *
  have z3 := W3.size
  have ql := Q2.lt
  have P3 := P.ext W3 pl
  have X03 : Ext h.size h h3 := W.trans (W3.mono z2)
  have bad : ∀ h', Blk h' h.size (S_api_Selector.cs zSel) 105 → Ext h.size h h' → selU l = none → ∃ h8 : Heap, WrsAt h' ⟨h.size, 0, none⟩ 2 ∧ h8 = setsH h' ⟨h.size, 0, none⟩ 0 (S_api_Selector.cs zSel) ∧ (∃ v9 : S_api_Selector, CellsAt h8 ⟨h.size, 0, none⟩ (S_api_Selector.cs v9) ∧ k (v9, 4) h8) := fun h' P' X' hn =>
    ⟨_, WrsAt.of_blk P' (by rw [scs_len]; omega), rfl, _, CellsAt.of_blk (P'.sets_all (vs := S_api_Selector.cs zSel) rfl), H0 _ hn (X'.trans (Ext.sets _ _ _ (Nat.le_refl _)))⟩
  have good : ∀ h' s qs, Blk h' h.size (S_api_Selector.cs zSel) 105 → Ext h.size h h' → Blk h' h2.size (S_api_Selector.cs ⟨ofL name, s⟩) 105 → Row (h2.size + 1) h' 143 3 s (qs.flatMap qcs) → s.len = qs.length → selU l = some (name, qs) →
      ∃ v10 : S_api_Selector, CellsAt h' ⟨h2.size, 0, none⟩ (S_api_Selector.cs v10) ∧ (∃ h11 : Heap, WrsAt h' ⟨h.size, 0, none⟩ 2 ∧ h11 = setsH h' ⟨h.size, 0, none⟩ 0 (S_api_Selector.cs v10) ∧ (∃ v12 : S_api_Selector, CellsAt h11 ⟨h.size, 0, none⟩ (S_api_Selector.cs v12) ∧ k (v12, 0) h11)) := fun h' s qs P' X' Q' R' sl hs => by
    refine ⟨_, CellsAt.of_blk Q', _, WrsAt.of_blk P' (by rw [scs_len]; omega), rfl, _, CellsAt.of_blk (P'.sets_all (vs := S_api_Selector.cs ⟨ofL name, s⟩) rfl), ?_⟩
    exact H1 name qs s _ hs ((R'.keep fun g hg => setsH_other _ _ (by have := (R'.bd hg).1; dsimp only; omega)).mono (by omega)) sl (X'.trans (Ext.sets _ _ _ (Nat.le_refl _)))
  have g1 : ∀ b, b = decide (name ≠ [] ∧ wordU name = false) → label_Selector_g1 ⟨h.size, 0, none⟩ (ofL rest) some' ⟨h2.size, 0, none⟩ b k h3 := fun b hb => by
    unfold label_Selector_g1
    by_cases hw : name ≠ [] ∧ wordU name = false
    · rw [hb, if_pos (by simpa using hw)]
      exact bad h3 P3 X03 (by rw [hsel, if_pos hw])
    rw [hb, if_neg (by simpa using hw)]
    rw [if_neg hw] at hsel
    cases hs' : some' with
    | false =>
      rw [if_pos (by simp)]
      rw [hs', if_pos rfl] at hsel
      exact good h3 ⟨none, 0, 0⟩ [] P3 X03 Q2 (Row.nil _ _ _ _) rfl hsel
    | true =>
      rw [if_neg (by simp)]
      rw [hs', if_neg (by simp)] at hsel
      refine CutSuffix_ok (by omega) ?_
      have sl := suf_len rest 125
      obtain ⟨r0, er0⟩ : ∃ x, x = (sufU rest 125).1 := ⟨_, rfl⟩
      obtain ⟨ok0, eok⟩ : ∃ x, x = (sufU rest 125).2 := ⟨_, rfl⟩
      rw [← er0, ← eok] at hsel
      rw [← er0] at sl
      rw [← er0, ← eok]
      refine ⟨fun q h' => ∃ s qs rl, Blk h' h.size (S_api_Selector.cs zSel) 105 ∧ Blk h' h2.size (S_api_Selector.cs ⟨ofL name, s⟩) 105 ∧ Row (h2.size + 1) h' 143 3 s (qs.flatMap qcs) ∧ s.len = qs.length ∧ qs.length ≤ 8 ∧ q.1 = ofL rl ∧ rl.length ≤ 100000000 ∧ Ext h.size h h' ∧
          ((q.2.1 = false ∧ selU l = none) ∨ (q.2.1 = true ∧ q.2.2 = true ∧ ∃ f, rl.length < f ∧ (selGo f rl qs).map (fun qs => (name, qs)) = selU l) ∨ (q.2.1 = true ∧ q.2.2 = false ∧ selU l = some (name, qs))),
        fun q _ => if q.2.2 = true then q.1.size + 1 else 0, ⟨⟨none, 0, 0⟩, [], r0, P3, Q2, Row.nil _ _ _ _, rfl, by simp, rfl, by omega, X03, ?_⟩, ?_⟩
      · cases hok : ok0 with
        | false => rw [hok, if_pos rfl] at hsel; exact .inl ⟨rfl, hsel⟩
        | true => rw [hok, if_neg (by simp)] at hsel; exact .inr (.inl ⟨rfl, rfl, r0.length + 1, by omega, hsel.symm⟩)
      rintro t5 t8 t9 h' ⟨s, qs, rl, P', Q', R', sl', q8, et, rl8, X', C⟩
      dsimp only at et C
      subst et
      have z' := X'.size
      have p' := P'.lt
      have q' := Q'.lt
      unfold label_Selector_l3b
      have j2f : label_Selector_j2 ⟨h.size, 0, none⟩ ⟨h2.size, 0, none⟩ false k h' ∨ selU l ≠ none := by
        by_cases hn : selU l = none
        · left; unfold label_Selector_j2; rw [if_pos (by simp)]; exact bad h' P' X' hn
        · exact .inr hn
      rcases C with ⟨c1, c2⟩ | ⟨c1, c2, f, hf, hgo⟩ | ⟨c1, c2, hgo⟩
      · subst c1
        rw [if_neg (by simp)]
        exact j2f.resolve_right fun hh => hh c2
      · subst c1; subst c2
        rw [if_pos (by simp)]
        obtain ⟨f, rfl⟩ : ∃ g, f = g + 1 := ⟨f - 1, by omega⟩
        unfold selGo at hgo
        obtain ⟨d1, d2, d3⟩ := cut_len rl 44
        refine Cut_ok' (by omega) ?_
        dsimp only
        refine Question_ok (by omega) fun h4 X4 => ?_
        obtain ⟨x, ex⟩ : ∃ x, x = (questionU (cutU rl 44).1).1 := ⟨_, rfl⟩
        obtain ⟨fit, ef⟩ : ∃ x, x = (questionU (cutU rl 44).1).2 := ⟨_, rfl⟩
        obtain ⟨r2, er2⟩ : ∃ x, x = (cutU rl 44).2.1 := ⟨_, rfl⟩
        obtain ⟨more, em⟩ : ∃ x, x = (cutU rl 44).2.2 := ⟨_, rfl⟩
        rw [← ex, ← ef, ← er2, ← em] at hgo
        rw [← er2, ← em] at d3
        rw [← er2] at d2
        rw [← ex, ← ef, ← er2, ← em]
        have z4 := X4.size
        refine ⟨_, _, rfl, rfl, ?_⟩
        have T := Blk.push h4 (S_api_Question.cs ⟨ByteArray.empty, 0, ByteArray.empty⟩) 143
        have T2 := T.sets_all (vs := S_api_Question.cs (qst x)) rfl
        have W5 := (Ext.push h4 (.cells (S_api_Question.cs ⟨ByteArray.empty, 0, ByteArray.empty⟩).toArray 143) (Nat.le_refl _)).trans (Ext.sets _ (a := ⟨h4.size, 0, none⟩) 0 (S_api_Question.cs (qst x)) (Nat.le_refl _))
        refine ⟨_, WrsAt.of_blk T (by rw [scs3_len]; omega), rfl, ?_⟩
        generalize setsH (h4.push (.cells (S_api_Question.cs ⟨ByteArray.empty, 0, ByteArray.empty⟩).toArray 143)) ⟨h4.size, 0, none⟩ 0 (S_api_Question.cs (qst x)) = h5 at *
        have z5 := W5.size
        have X45 : Ext h'.size h' h5 := X4.trans (W5.mono z4)
        have P5 := P'.ext X45 p'
        have Q5 := Q'.ext X45 q'
        have R5 := R'.ext X45 fun g hg => (R'.bd hg).2
        have X05 : Ext h.size h h5 := X'.trans (X45.mono z')
        have no : selU l = none → label_Selector_j2 ⟨h.size, 0, none⟩ ⟨h2.size, 0, none⟩ false k h5 := fun hn => by
          unfold label_Selector_j2; rw [if_pos (by simp)]; exact bad h5 P5 X05 hn
        cases hfit : fit with
        | false =>
          rw [if_pos (by simp)]
          rw [hfit, if_pos (.inl rfl)] at hgo
          unfold label_Selector_g4
          rw [if_pos rfl]
          exact no (by rw [← hgo]; rfl)
        | true =>
          rw [if_neg (by simp)]
          have c5 : cellH h5 ((⟨h2.size, 0, none⟩ : Addr).add 1) = some (Slc.v s) := by rw [add_mk, Q5.cell]; rfl
          refine ⟨s, c5, ?_⟩
          unfold label_Selector_g4
          by_cases h8 : qs.length = 8
          · rw [if_pos (by rw [beq_iff_eq]; omega)]
            rw [hfit, if_pos (.inr h8)] at hgo
            exact no (by rw [← hgo]; rfl)
          rw [if_neg (by rw [beq_iff_eq]; omega)]
          rw [hfit, if_neg (by simpa using h8)] at hgo
          refine ⟨s, c5, qst x, CellsAt.of_blk T2, _, _, rfl, rfl, ?_⟩
          refine App.row (R5.pushed _) (by simp; omega) rfl rfl (oneC (by kernel_rfl)) (by omega) (by simp only [maxLen]; omega) fun s' h6 R6 l6 z6 F6 _ => ?_
          simp at z6
          have F : ∀ g, g < h5.size → s.blk ≠ some g → h6[g]? = h5[g]? := fun g hg hs => by rw [F6 g (by simp; omega) hs, Array.getElem?_push, if_neg (by omega)]
          have ns : ∀ g, g ≤ h2.size → s.blk ≠ some g := fun g hg e => by have := (R5.bd e).1; omega
          have P6 : Blk h6 h.size (S_api_Selector.cs zSel) 105 := P5.old (F h.size (by omega) (ns _ (by omega)))
          have Q6 : Blk h6 h2.size (S_api_Selector.cs ⟨ofL name, s⟩) 105 := Q5.old (F h2.size (by omega) (ns _ (Nat.le_refl _)))
          refine ⟨_, by rw [add_mk]; exact Q6.wr (by rw [scs_len]; omega), rfl, ?_⟩
          rw [show (⟨h2.size, 0, none⟩ : Addr).add 1 = ⟨h2.size, 1, none⟩ from by simp]
          have Q7 : Blk (setH h6 ⟨h2.size, 1, none⟩ (Slc.v s')) h2.size (S_api_Selector.cs ⟨ofL name, s'⟩) 105 := Q6.set
          have oth : ∀ g, g ≠ h2.size → (setH h6 ⟨h2.size, 1, none⟩ (Slc.v s'))[g]? = h6[g]? := fun g hg => setH_other hg
          have z7 : (setH h6 ⟨h2.size, 1, none⟩ (Slc.v s')).size = h6.size := setH_size
          generalize setH h6 ⟨h2.size, 1, none⟩ (Slc.v s') = h7 at *
          refine ⟨⟨s', qs ++ [x], r2, P6.old (oth _ (by omega)), Q7, ?_, by rw [l6, List.length_append]; simp; omega, by rw [List.length_append]; simp; omega, rfl, by omega, X05.trans ⟨by omega, fun g hg => by rw [oth g (by omega), F g (by omega) (ns g (by omega))]⟩, ?_⟩, ?_⟩
          · have := R6.keep fun g hg => oth g (by have := (R6.bd hg).1; omega)
            rw [List.flatMap_append]
            simpa [qcs] using this
          · cases hm : more with
            | true =>
              rw [hm, if_pos rfl] at hgo
              exact .inr (.inl ⟨rfl, rfl, f, by have := d3 hm; omega, hgo⟩)
            | false =>
              rw [hm, if_neg (by simp)] at hgo
              exact .inr (.inr ⟨rfl, rfl, hgo.symm⟩)
          · dsimp only
            rw [size_ofL, size_ofL, if_pos rfl]
            cases hm : more with
            | true => rw [if_pos rfl]; have := d3 hm; omega
            | false => rw [if_neg (by simp)]; omega
      · subst c1; subst c2
        rw [if_neg (by simp)]
        unfold label_Selector_j2
        rw [if_neg (by simp)]
        exact good h' s qs P' X' Q' R' sl' hgo
  have nempty : (ofL name).toList == (⟨#[]⟩ : ByteArray).toList ↔ name = [] := by
    rw [ofL_toList, show (⟨#[]⟩ : ByteArray).toList = [] from ofL_toList []]; simp
  by_cases hn : name = []
  · rw [if_neg (by rw [Bool.not_eq_true', Bool.not_eq_false]; exact nempty.2 hn)]
    exact g1 _ (by simp [hn])
  · rw [if_pos (by
      rw [Bool.not_eq_true']
      cases hh : ((ofL name).toList == (⟨#[]⟩ : ByteArray).toList) with
      | false => rfl
      | true => exact absurd (nempty.1 hh) hn)]
    refine word_ok (by omega) (g1 _ ?_)
    cases hw : wordU name <;> simp [hn, hw]
end Go.Q.Yg
