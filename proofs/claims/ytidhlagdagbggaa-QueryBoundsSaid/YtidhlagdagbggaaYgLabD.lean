/- A part of the proof of statements of this seat: lemmas, no statement of their own. -/
import Derived.Test.YtidhlagdagbggaaYgLabC
import Derived.Test.YtidhlagdagbggaaYgLab2
set_option linter.unusedVariables false
set_option linter.unusedSimpArgs false
namespace Go.Q.Yg
theorem lst_U (l : S_api_Label) : lst (U l.f_Name, U l.f_Value) = l := by simp only [lst, ofL_U]
theorem qst_U (q : S_api_Question) : qst (U q.f_Name, q.f_Sign, U q.f_Value) = q := by simp only [qst, ofL_U]
def hasU (ls : List LU) (a b : Tx) : Bool := ls.any fun l => decide (l.1 = a) && decide (l.2 = b)
def begU (ls : List LU) (a b : Tx) : Bool := ls.any fun l => decide (l.1 = a) && prefU l.2 b
def answerU (ls : List LU) (x : QU) : Bool := if x.2.1 = 0 then hasU ls x.1 x.2.2 else if x.2.1 = 1 then !hasU ls x.1 x.2.2 else if x.2.1 = 2 then begU ls x.1 x.2.2 else false
def chooseU (qn : Tx) (qs : List QU) (sn : Tx) (ls : List LU) : Bool := if qn ≠ [] ∧ qn ≠ sn then false else !(qs.any fun x => !answerU ls x)
theorem bq (a b : Tx) : ((ofL a).toList == (ofL b).toList) = decide (a = b) := by
  rw [ofL_toList, ofL_toList]; by_cases h : a = b <;> simp [h]
theorem any_snoc {α : Type} {p : α → Bool} {l : List α} {i : Nat} {x : α} (hx : l[i]? = some x) : (l.take (i + 1)).any p = ((l.take i).any p || p x) := by
  rw [List.take_add_one, hx, List.any_append]; simp
theorem any_take {α : Type} {p : α → Bool} {l : List α} {i : Nat} (h : (l.take i).any p = true) : l.any p = true := by
  obtain ⟨x, hx, hp⟩ := List.any_eq_true.1 h
  exact List.any_eq_true.2 ⟨x, List.mem_of_mem_take hx, hp⟩
section
variable {s : Slc} {ls : List LU}
theorem LHas_ok {a b : Tx} {k : Bool → Heap → Prop} {h : Heap} (L : LsAt S_api_Label.cs 2 h s (ls.map lst)) (hm : ls.length ≤ 1000000) (H : ∀ h', Ext h.size h h' → k (hasU ls a b) h') : slices_Contains_api_Label_api_Label s ⟨ofL a, ofL b⟩ k h := by
  have sl : s.len = ls.length := by have := L.l; simpa using this
  unfold slices_Contains_api_Label_api_Label
  refine ⟨_, _, rfl, rfl, ?_⟩
  have P := Blk.push h (S_api_Label.cs ⟨ofL a, ofL b⟩) 159
  have W := Ext.push h (.cells (S_api_Label.cs ⟨ofL a, ofL b⟩).toArray 159) (Nat.le_refl _)
  generalize h.push (.cells (S_api_Label.cs ⟨ofL a, ofL b⟩).toArray 159) = h2 at *
  have z2 := W.size
  refine ⟨_, CellsAt.of_blk P, ?_⟩
  unfold slices_Index_api_Label_api_Label
  refine ⟨_, _, rfl, rfl, ?_⟩
  have Q := Blk.push h2 (S_api_Label.cs ⟨ofL a, ofL b⟩) 159
  have W3 := Ext.push h2 (.cells (S_api_Label.cs ⟨ofL a, ofL b⟩).toArray 159) (Nat.le_refl _)
  generalize h2.push (.cells (S_api_Label.cs ⟨ofL a, ofL b⟩).toArray 159) = h3 at *
  have X03 : Ext h.size h h3 := W.trans (W3.mono z2)
  have L3 := (L.ext W).ext W3
  refine ⟨fun i h' => 0 ≤ i ∧ i ≤ ls.length ∧ (hasU (ls.take i.toNat) a b) = false ∧ h' = h3, fun i _ => (ls.length - i).toNat, ⟨by omega, by omega, by simp [hasU], rfl⟩, ?_⟩
  rintro i h' ⟨i0, i1, ha, e⟩
  subst e
  unfold slices_Index_api_Label_api_Label_l1b
  by_cases hi : i < ls.length
  · rw [if_pos (by rw [decide_eq_true_eq]; omega)]
    have hx : ls[i.toNat]? = some (ls[i.toNat]'(by omega)) := by simp
    generalize ls[i.toNat]'(by omega) = x at *
    obtain ⟨ad, h1, C⟩ := L3.at' i.toNat (lst x) (by rw [List.getElem?_map, hx]; rfl)
    refine ⟨_, CellsAt.of_blk Q, ad, h1, i0, by omega, lst x, C, ?_⟩
    show (if (((ofL a).toList == (ofL x.1).toList) && ((ofL b).toList == (ofL x.2).toList)) = true then _ else _)
    rw [bq, bq]
    have hs := any_snoc (p := fun l : LU => decide (l.1 = a) && decide (l.2 = b)) hx
    by_cases hb : a = x.1 ∧ b = x.2
    · rw [if_pos (by simp [hb.1, hb.2])]
      have : hasU ls a b = true := any_take (i := i.toNat + 1) (by rw [hs]; simp [hb.1, hb.2])
      have F := H h' X03
      rw [this] at F
      dsimp only
      rw [show decide (i ≥ 0) = true from by simpa using i0]; exact F
    · rw [if_neg (by simpa using hb), wrapI64 (by omega) (by omega)]
      refine ⟨⟨by omega, by omega, ?_, rfl⟩, by dsimp only; omega⟩
      rw [show (i + 1).toNat = i.toNat + 1 from by omega]
      unfold hasU at ha ⊢
      rw [hs, ha]
      have : ¬ (x.1 = a ∧ x.2 = b) := fun h => hb ⟨h.1.symm, h.2.symm⟩
      by_cases h1 : x.1 = a
      · have : ¬ x.2 = b := fun h2 => this ⟨h1, h2⟩
        simp [this]
      · simp [h1]
  · rw [if_neg (by rw [decide_eq_true_eq]; omega)]
    rw [List.take_of_length_le (by omega)] at ha
    have F := H h' X03
    rw [ha] at F
    exact ⟨_, rfl, F⟩
theorem LBeg_ok {x : QU} {b : Nat} {k : Bool → Heap → Prop} {h : Heap} (L : LsAt S_api_Label.cs 2 h s (ls.map lst)) (hm : ls.length ≤ 1000000) (ok : okL ls) (P : Blk h b (qcs x) 143) (H : ∀ h', Ext h.size h h' → k (begU ls x.1 x.2.2) h') : slices_ContainsFunc_api_Label_api_Label__label_answers_1 s ⟨b, 0, none⟩ k h := by
  have sl : s.len = ls.length := by have := L.l; simpa using this
  unfold slices_ContainsFunc_api_Label_api_Label__label_answers_1 slices_IndexFunc_api_Label_api_Label__label_answers_1
  refine ⟨fun i h' => 0 ≤ i ∧ i ≤ ls.length ∧ (begU (ls.take i.toNat) x.1 x.2.2) = false ∧ Ext h.size h h', fun i _ => (ls.length - i).toNat, ⟨by omega, by omega, by simp [begU], Ext.refl _ _⟩, ?_⟩
  rintro i h1 ⟨i0, i1, ha, X⟩
  have z1 := X.size
  unfold slices_IndexFunc_api_Label_api_Label__label_answers_1_l1b
  by_cases hi : i < ls.length
  · rw [if_pos (by rw [decide_eq_true_eq]; omega)]
    have hx : ls[i.toNat]? = some (ls[i.toNat]'(by omega)) := by simp
    generalize ls[i.toNat]'(by omega) = y at *
    obtain ⟨ad, hd, C⟩ := (L.ext X).at' i.toNat (lst y) (by rw [List.getElem?_map, hx]; rfl)
    refine ⟨ad, hd, i0, by omega, lst y, C, ?_⟩
    unfold label_answers_1
    refine ⟨_, _, rfl, rfl, ?_⟩
    have Q := Blk.push h1 (S_api_Label.cs (lst y)) 159
    have W2 := Ext.push h1 (.cells (S_api_Label.cs (lst y)).toArray 159) (Nat.le_refl _)
    have P2 := (P.ext X P.lt).ext W2 (by have := P.lt; omega)
    generalize h1.push (.cells (S_api_Label.cs (lst y)).toArray 159) = h2 at *
    have X2 : Ext h.size h h2 := X.trans (W2.mono z1)
    have hs := any_snoc (p := fun l : LU => decide (l.1 = x.1) && prefU l.2 x.2.2) hx
    have step : ∀ r, r = (decide (y.1 = x.1) && prefU y.2 x.2.2) → (if r = true then k (decide (i ≥ 0)) h2 else (0 ≤ IntKind.i64.wrap (i + 1) ∧ IntKind.i64.wrap (i + 1) ≤ (ls.length : Int) ∧ begU (ls.take (IntKind.i64.wrap (i + 1)).toNat) x.1 x.2.2 = false ∧ Ext h.size h h2) ∧ ((ls.length : Int) - IntKind.i64.wrap (i + 1)).toNat < ((ls.length : Int) - i).toNat) := fun r hr => by
      rw [← hr] at hs
      cases hr2 : r with
      | true =>
        rw [if_pos rfl]
        have : begU ls x.1 x.2.2 = true := any_take (i := i.toNat + 1) (by rw [hs, hr2]; simp)
        have F := H h2 X2
        rw [this] at F
        rw [show decide (i ≥ 0) = true from by simpa using i0]; exact F
      | false =>
        rw [if_neg (by simp), wrapI64 (by omega) (by omega)]
        refine ⟨⟨by omega, by omega, ?_, X2⟩, by omega⟩
        rw [show (i + 1).toNat = i.toNat + 1 from by omega]
        unfold begU at ha ⊢
        rw [hs, ha, hr2]; rfl
    refine ⟨ofL y.1, by rw [Q.cell]; rfl, ofL x.1, by rw [P2.cell]; rfl, ?_⟩
    rw [bq]
    by_cases hn : y.1 = x.1
    · rw [if_pos (by simpa using hn)]
      refine ⟨ofL y.2, by rw [add_mk, Q.cell]; rfl, ofL x.2.2, by rw [add_mk, P2.cell]; rfl, ?_⟩
      refine HasPrefix_ok (ok y (List.mem_of_getElem? hx)).2 ?_
      unfold label_answers_1_g1
      exact step _ (by simp [hn])
    · rw [if_neg (by simpa using hn)]
      unfold label_answers_1_g1
      exact step _ (by simp [hn])
  · rw [if_neg (by rw [decide_eq_true_eq]; omega)]
    rw [List.take_of_length_le (by omega)] at ha
    have F := H h1 X
    rw [ha] at F
    exact ⟨_, rfl, F⟩
theorem Answers_ok {x : QU} {sn : Tx} {k : Bool → Heap → Prop} {h : Heap} (L : LsAt S_api_Label.cs 2 h s (ls.map lst)) (hm : ls.length ≤ 1000000) (ok : okL ls) (H : ∀ h', Ext h.size h h' → k (answerU ls x) h') : label_answers (qst x) ⟨ofL sn, s⟩ k h := by
  unfold label_answers
  refine ⟨_, _, rfl, rfl, ?_⟩
  have P := Blk.push h (qcs x) 143
  have W := Ext.push h (.cells (qcs x).toArray 143) (Nat.le_refl _)
  have pl := P.lt
  rw [show S_api_Question.cs (qst x) = qcs x from rfl]
  generalize h.push (.cells (qcs x).toArray 143) = h2 at *
  have z2 := W.size
  refine ⟨_, _, rfl, rfl, ?_⟩
  have Q := Blk.push h2 (S_api_Series.cs ⟨ofL sn, s⟩) 114
  have W3 := Ext.push h2 (.cells (S_api_Series.cs ⟨ofL sn, s⟩).toArray 114) (Nat.le_refl _)
  generalize h2.push (.cells (S_api_Series.cs ⟨ofL sn, s⟩).toArray 114) = h3 at *
  have P3 := P.ext W3 pl
  have L3 := (L.ext W).ext W3
  have X3 : Ext h.size h h3 := W.trans (W3.mono z2)
  have z3 := X3.size
  have H' : ∀ h', Ext h3.size h3 h' → k (answerU ls x) h' := fun h' X => H h' (X3.trans (X.mono z3))
  unfold answerU at H'
  have cq : ∀ i : Nat, cellH h3 ((⟨h.size, 0, none⟩ : Addr).add i) = (qcs x)[i]? := fun i => by rw [add_mk, Nat.zero_add, P3.cell]
  have cs : cellH h3 ((⟨h2.size, 0, none⟩ : Addr).add 1) = some (Slc.v s) := by rw [add_mk, Q.cell]; rfl
  refine ⟨x.2.1, by rw [cq]; rfl, ?_⟩
  by_cases h0 : x.2.1 = 0
  · rw [if_pos (by simp [h0])]
    simp only [if_pos h0] at H'
    exact ⟨s, cs, ofL x.1, by rw [P3.cell]; rfl, ofL x.2.2, by rw [cq]; rfl, LHas_ok L3 hm H'⟩
  rw [if_neg (by simpa using h0)]
  simp only [if_neg h0] at H'
  by_cases h1 : x.2.1 = 1
  · rw [if_pos (by simp [h1])]
    simp only [if_pos h1] at H'
    exact ⟨s, cs, ofL x.1, by rw [P3.cell]; rfl, ofL x.2.2, by rw [cq]; rfl, LHas_ok L3 hm H'⟩
  rw [if_neg (by simpa using h1)]
  simp only [if_neg h1] at H'
  by_cases h2' : x.2.1 = 2
  · rw [if_pos (by simp [h2'])]
    simp only [if_pos h2'] at H'
    exact ⟨s, cs, LBeg_ok L3 hm ok P3 H'⟩
  · rw [if_neg (by simpa using h2')]
    simp only [if_neg h2'] at H'
    exact H' h3 (Ext.refl _ _)
variable {sq : Slc} {qs : List QU}
theorem Chooses_ok {qn sn : Tx} {k : Bool → Heap → Prop} {h : Heap} (Lq : LsAt S_api_Question.cs 3 h sq (qs.map qst)) (L : LsAt S_api_Label.cs 2 h s (ls.map lst)) (hq : qs.length ≤ 1000000) (hm : ls.length ≤ 1000000) (ok : okL ls) (H : ∀ h', Ext h.size h h' → k (chooseU qn qs sn ls) h') : label_Chooses ⟨ofL qn, sq⟩ ⟨ofL sn, s⟩ k h := by
  have ql : sq.len = qs.length := by have := Lq.l; simpa using this
  unfold label_Chooses
  refine ⟨_, _, rfl, rfl, ?_⟩
  have P := Blk.push h (S_api_Selector.cs ⟨ofL qn, sq⟩) 105
  have W := Ext.push h (.cells (S_api_Selector.cs ⟨ofL qn, sq⟩).toArray 105) (Nat.le_refl _)
  have pl := P.lt
  generalize h.push (.cells (S_api_Selector.cs ⟨ofL qn, sq⟩).toArray 105) = h2 at *
  have z2 := W.size
  refine ⟨_, _, rfl, rfl, ?_⟩
  have Q := Blk.push h2 (S_api_Series.cs ⟨ofL sn, s⟩) 114
  have W3 := Ext.push h2 (.cells (S_api_Series.cs ⟨ofL sn, s⟩).toArray 114) (Nat.le_refl _)
  generalize h2.push (.cells (S_api_Series.cs ⟨ofL sn, s⟩).toArray 114) = h3 at *
  have P3 := P.ext W3 pl
  have L3 := (L.ext W).ext W3
  have Lq3 := (Lq.ext W).ext W3
  have X3 : Ext h.size h h3 := W.trans (W3.mono z2)
  have z3 := X3.size
  have ql3 := Q.lt
  have H' : ∀ h', Ext h3.size h3 h' → k (chooseU qn qs sn ls) h' := fun h' X => H h' (X3.trans (X.mono z3))
  unfold chooseU at H'
  have g1 : ∀ b, b = decide (qn ≠ [] ∧ qn ≠ sn) → label_Chooses_g1 ⟨h.size, 0, none⟩ ⟨h2.size, 0, none⟩ b k h3 := fun b hb => by
    unfold label_Chooses_g1
    by_cases hc : qn ≠ [] ∧ qn ≠ sn
    · rw [hb, if_pos (by simpa using hc)]
      have := H' h3 (Ext.refl _ _)
      rw [if_pos hc] at this; exact this
    rw [hb, if_neg (by simpa using hc)]
    simp only [if_neg hc] at H'
    refine ⟨sq, by rw [add_mk, P3.cell]; rfl, ?_⟩
    unfold slices_ContainsFunc_api_Question_api_Question__label_Chooses_1 slices_IndexFunc_api_Question_api_Question__label_Chooses_1
    refine ⟨fun i h' => 0 ≤ i ∧ i ≤ qs.length ∧ ((qs.take i.toNat).any fun x => !answerU ls x) = false ∧ Ext h3.size h3 h', fun i _ => (qs.length - i).toNat, ⟨by omega, by omega, by simp, Ext.refl _ _⟩, ?_⟩
    rintro i h4 ⟨i0, i1, ha, X4⟩
    have z4 := X4.size
    unfold slices_IndexFunc_api_Question_api_Question__label_Chooses_1_l1b
    by_cases hi : i < qs.length
    · rw [if_pos (by rw [decide_eq_true_eq]; omega)]
      have hx : qs[i.toNat]? = some (qs[i.toNat]'(by omega)) := by simp
      generalize qs[i.toNat]'(by omega) = x at *
      obtain ⟨ad, hd, C⟩ := (Lq3.ext X4).at' i.toNat (qst x) (by rw [List.getElem?_map, hx]; rfl)
      refine ⟨ad, hd, i0, by omega, qst x, C, ?_⟩
      unfold label_Chooses_1
      refine ⟨_, _, rfl, rfl, ?_⟩
      have T := Blk.push h4 (S_api_Question.cs (qst x)) 143
      have W5 := Ext.push h4 (.cells (S_api_Question.cs (qst x)).toArray 143) (Nat.le_refl _)
      have Q5 := (Q.ext X4 ql3).ext W5 (by omega)
      generalize h4.push (.cells (S_api_Question.cs (qst x)).toArray 143) = h5 at *
      have z5 := W5.size
      refine ⟨qst x, CellsAt.of_blk T, _, CellsAt.of_blk Q5, Answers_ok ((L3.ext X4).ext W5) hm ok fun h6 X6 => ?_⟩
      have X36 : Ext h3.size h3 h6 := X4.trans ((W5.trans (X6.mono z5)).mono z4)
      have hs := any_snoc (p := fun x : QU => !answerU ls x) hx
      cases hb : answerU ls x with
      | true =>
        dsimp only
        rw [if_neg (by simp), wrapI64 (by omega) (by omega)]
        refine ⟨⟨by omega, by omega, ?_, X36⟩, by omega⟩
        rw [show (i + 1).toNat = i.toNat + 1 from by omega, hs, ha, hb]; rfl
      | false =>
        dsimp only
        rw [if_pos (by simp)]
        have : (qs.any fun x => !answerU ls x) = true := any_take (i := i.toNat + 1) (by rw [hs, hb]; simp)
        have F := H' h6 X36
        rw [this] at F
        rw [show decide (i ≥ 0) = true from by simpa using i0]; exact F
    · rw [if_neg (by rw [decide_eq_true_eq]; omega)]
      rw [List.take_of_length_le (by omega)] at ha
      have F := H' h4 X4
      rw [ha] at F
      exact ⟨_, rfl, F⟩
  have hne : ((ofL qn).toList == (⟨#[]⟩ : ByteArray).toList) = decide (qn = []) := bq qn []
  refine ⟨ofL qn, by rw [P3.cell]; rfl, ?_⟩
  rw [hne]
  by_cases hn : qn = []
  · rw [if_neg (by simp [hn])]
    exact g1 _ (by simp [hn])
  · rw [if_pos (by simp [hn])]
    refine ⟨ofL qn, by rw [P3.cell]; rfl, ofL sn, by rw [Q.cell]; rfl, ?_⟩
    rw [bq]
    exact g1 _ (by simp [hn])
end
end Go.Q.Yg
