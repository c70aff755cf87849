/- A part of the proof of statements of this seat: lemmas, no statement of their own. -/
import Derived.Test.YtcmbgfmbmbgbiaaYbLabC
import Derived.Test.YtcmbgfmbmbgbiaaYbLab2
set_option linter.unusedVariables false
set_option linter.unusedSimpArgs false
namespace Go.Q.Yb
theorem lst_U (l : S_api_Label) : lst (U l.f_Name, U l.f_Value) = l := by simp only [lst, ofL_U]
theorem qst_U (q : S_api_Question) : qst (U q.f_Name, q.f_Sign, U q.f_Value) = q := by simp only [qst, ofL_U]
def hasU (ls : List LU) (a b : Tx) : Bool := ls.any fun l => decide (l.1 = a) && decide (l.2 = b)
def begU (ls : List LU) (a b : Tx) : Bool := ls.any fun l => decide (l.1 = a) && prefU l.2 b
def answerU (ls : List LU) (x : QU) : Bool := if x.2.1 = 0 then hasU ls x.1 x.2.2 else if x.2.1 = 1 then !hasU ls x.1 x.2.2 else if x.2.1 = 2 then begU ls x.1 x.2.2 else false
def chooseU (qn : Tx) (qs : List QU) (sn : Tx) (ls : List LU) : Bool := if qn ≠ [] ∧ qn ≠ sn then false else !(qs.any fun x => !answerU ls x)
theorem bq (a b : Tx) : ((ofL a).toList == (ofL b).toList) = decide (a = b) := by
  rw [ofL_toList, ofL_toList]; by_cases h : a = b <;> simp [h]
theorem any_snoc {α : Type} {p : α → Bool} {l : List α} {i : Nat} {x : α} (hx : l[i]? = some x) : (l.take (i + 1)).any p = ((l.take i).any p || p x) := by
  rw [List.take_add_one, hx, List.any_append]; simp
theorem any_take {α : Type} {p : α → Bool} {l : List α} {i : Nat} (h : (l.take i).any p = true) : l.any p = true := by
  obtain ⟨x, hx, hp⟩ := List.any_eq_true.1 h
  exact List.any_eq_true.2 ⟨x, List.mem_of_mem_take hx, hp⟩
section
variable {s : Slc} {ls : List LU}
theorem LHas_ok {a b : Tx} {k : Bool → Heap → Prop} {h : Heap} (L : LsAt S_api_Label.cs 2 h s (ls.map lst)) (hm : ls.length ≤ 1000000) (H : ∀ h', Ext h.size h h' → k (hasU ls a b) h') : slices_Contains_api_Label_api_Label s ⟨ofL a, ofL b⟩ k h := by
  have sl : s.len = ls.length := by have := L.l; simpa using this
  unfold slices_Contains_api_Label_api_Label
  refine ⟨_, _, rfl, rfl, ?_⟩
  have P := Blk.push h (S_api_Label.cs ⟨ofL a, ofL b⟩) 163
  have W := Ext.push h (.cells (S_api_Label.cs ⟨ofL a, ofL b⟩).toArray 163) (Nat.le_refl _)
  generalize h.push (.cells (S_api_Label.cs ⟨ofL a, ofL b⟩).toArray 163) = h2 at *
  have z2 := W.size
  refine ⟨_, CellsAt.of_blk P, ?_⟩
  unfold slices_Index_api_Label_api_Label
  refine ⟨_, _, rfl, rfl, ?_⟩
  have Q := Blk.push h2 (S_api_Label.cs ⟨ofL a, ofL b⟩) 163
  have W3 := Ext.push h2 (.cells (S_api_Label.cs ⟨ofL a, ofL b⟩).toArray 163) (Nat.le_refl _)
  generalize h2.push (.cells (S_api_Label.cs ⟨ofL a, ofL b⟩).toArray 163) = h3 at *
  have X03 : Ext h.size h h3 := W.trans (W3.mono z2)
  have L3 := (L.ext W).ext W3
  refine ⟨fun i h' => 0 ≤ i ∧ i ≤ ls.length ∧ (hasU (ls.take i.toNat) a b) = false ∧ h' = h3, fun i _ => (ls.length - i).toNat, ⟨by omega, by omega, by simp [hasU], rfl⟩, ?_⟩
  rintro i h' ⟨i0, i1, ha, e⟩
  subst e
  unfold slices_Index_api_Label_api_Label_l1b
  by_cases hi : i < ls.length
  · rw [if_pos (by rw [decide_eq_true_eq]; omega)]
    have hx : ls[i.toNat]? = some (ls[i.toNat]'(by omega)) := by simp
    generalize ls[i.toNat]'(by omega) = x at *
    obtain ⟨ad, h1, C⟩ := L3.at' i.toNat (lst x) (by rw [List.getElem?_map, hx]; rfl)
    refine ⟨_, CellsAt.of_blk Q, ad, h1, i0, by omega, lst x, C, ?_⟩
    show (if (((ofL a).toList == (ofL x.1).toList) && ((ofL b).toList == (ofL x.2).toList)) = true then _ else _)
    rw [bq, bq]
    have hs := any_snoc (p := fun l : LU => decide (l.1 = a) && decide (l.2 = b)) hx
    by_cases hb : a = x.1 ∧ b = x.2
    · rw [if_pos (by simp [hb.1, hb.2])]
      have : hasU ls a b = true := any_take (i := i.toNat + 1) (by rw [hs]; simp [hb.1, hb.2])
      have F := H h' X03
      rw [this] at F
      dsimp only
      rw [show decide (i ≥ 0) = true from by simpa using i0]; exact F
    · rw [if_neg (by simpa using hb), wrapI64 (by omega) (by omega)]
      refine ⟨⟨by omega, by omega, ?_, rfl⟩, by dsimp only; omega⟩
      rw [show (i + 1).toNat = i.toNat + 1 from by omega]
      unfold hasU at ha ⊢
      rw [hs, ha]
      have : ¬ (x.1 = a ∧ x.2 = b) := fun h => hb ⟨h.1.symm, h.2.symm⟩
      by_cases h1 : x.1 = a
      · have : ¬ x.2 = b := fun h2 => this ⟨h1, h2⟩
        simp [this]
      · simp [h1]
  · rw [if_neg (by rw [decide_eq_true_eq]; omega)]
    rw [List.take_of_length_le (by omega)] at ha
    have F := H h' X03
    rw [ha] at F
    exact ⟨_, rfl, F⟩
theorem LBeg_ok {x : QU} {b : Nat} {k : Bool → Heap → Prop} {h : Heap} (L : LsAt S_api_Label.cs 2 h s (ls.map lst)) (hm : ls.length ≤ 1000000) (ok : okL ls) (P : Blk h b (qcs x) 165) (H : ∀ h', Ext h.size h h' → k (begU ls x.1 x.2.2) h') : slices_ContainsFunc_api_Label_api_Label__label_answers_1 s ⟨b, 0, none⟩ k h := by
  have sl : s.len = ls.length := by have := L.l; simpa using this
  unfold slices_ContainsFunc_api_Label_api_Label__label_answers_1 slices_IndexFunc_api_Label_api_Label__label_answers_1
  refine ⟨fun i h' => 0 ≤ i ∧ i ≤ ls.length ∧ (begU (ls.take i.toNat) x.1 x.2.2) = false ∧ Ext h.size h h', fun i _ => (ls.length - i).toNat, ⟨by omega, by omega, by simp [begU], Ext.refl _ _⟩, ?_⟩
  rintro i h1 ⟨i0, i1, ha, X⟩
  have z1 := X.size
  unfold slices_IndexFunc_api_Label_api_Label__label_answers_1_l1b
  by_cases hi : i < ls.length
  · rw [if_pos (by rw [decide_eq_true_eq]; omega)]
    have hx : ls[i.toNat]? = some (ls[i.toNat]'(by omega)) := by simp
    generalize ls[i.toNat]'(by omega) = y at *
    obtain ⟨ad, hd, C⟩ := (L.ext X).at' i.toNat (lst y) (by rw [List.getElem?_map, hx]; rfl)
    refine ⟨ad, hd, i0, by omega, lst y, C, ?_⟩
    unfold label_answers_1
    refine ⟨_, _, rfl, rfl, ?_⟩
    have Q := Blk.push h1 (S_api_Label.cs (lst y)) 163
    have W2 := Ext.push h1 (.cells (S_api_Label.cs (lst y)).toArray 163) (Nat.le_refl _)
    have P2 := (P.ext X P.lt).ext W2 (by have := P.lt; omega)
    generalize h1.push (.cells (S_api_Label.cs (lst y)).toArray 163) = h2 at *
    have X2 : Ext h.size h h2 := X.trans (W2.mono z1)
    have hs := any_snoc (p := fun l : LU => decide (l.1 = x.1) && prefU l.2 x.2.2) hx
    have step : ∀ r, r = (decide (y.1 = x.1) && prefU y.2 x.2.2) → (if r = true then k (decide (i ≥ 0)) h2 else (0 ≤ IntKind.i64.wrap (i + 1) ∧ IntKind.i64.wrap (i + 1) ≤ (ls.length : Int) ∧ begU (ls.take (IntKind.i64.wrap (i + 1)).toNat) x.1 x.2.2 = false ∧ Ext h.size h h2) ∧ ((ls.length : Int) - IntKind.i64.wrap (i + 1)).toNat < ((ls.length : Int) - i).toNat) := fun r hr => by
      rw [← hr] at hs
      cases hr2 : r with
      | true =>
        rw [if_pos rfl]
        have : begU ls x.1 x.2.2 = true := any_take (i := i.toNat + 1) (by rw [hs, hr2]; simp)
        have F := H h2 X2
        rw [this] at F
        rw [show decide (i ≥ 0) = true from by simpa using i0]; exact F
      | false =>
        rw [if_neg (by simp), wrapI64 (by omega) (by omega)]
        refine ⟨⟨by omega, by omega, ?_, X2⟩, by omega⟩
        rw [show (i + 1).toNat = i.toNat + 1 from by omega]
        unfold begU at ha ⊢
        rw [hs, ha, hr2]; rfl
    refine ⟨ofL y.1, by rw [Q.cell]; rfl, ofL x.1, by rw [P2.cell]; rfl, ?_⟩
    rw [bq]
    by_cases hn : y.1 = x.1
    · rw [if_pos (by simpa using hn)]
      refine ⟨ofL y.2, by rw [add_mk, Q.cell]; rfl, ofL x.2.2, by rw [add_mk, P2.cell]; rfl, ?_⟩
      refine HasPrefix_ok (ok y (List.mem_of_getElem? hx)).2 ?_
      unfold label_answers_1_g1
      exact step _ (by simp [hn])
    · rw [if_neg (by simpa using hn)]
      unfold label_answers_1_g1
      exact step _ (by simp [hn])
  · rw [if_neg (by rw [decide_eq_true_eq]; omega)]
    rw [List.take_of_length_le (by omega)] at ha
    have F := H h1 X
    rw [ha] at F
    exact ⟨_, rfl, F⟩
theorem Answers_ok {x : QU} {sn : Tx} {k : Bool → Heap → Prop} {h : Heap} (L : LsAt S_api_Label.cs 2 h s (ls.map lst)) (hm : ls.length ≤ 1000000) (ok : okL ls) (H : ∀ h', Ext h.size h h' → k (answerU ls x) h') : label_answers (qst x) ⟨ofL sn, s⟩ k h := by
  unfold label_answers
  refine ⟨_, _, rfl, rfl, ?_⟩
  have P := Blk.push h (qcs x) 165
  have W := Ext.push h (.cells (qcs x).toArray 165) (Nat.le_refl _)
  have pl := P.lt
  rw [show S_api_Question.cs (qst x) = qcs x from rfl]
  generalize h.push (.cells (qcs x).toArray 165) = h2 at *
  have z2 := W.size
  refine ⟨_, _, rfl, rfl, ?_⟩
  have Q := Blk.push h2 (S_api_Series.cs ⟨ofL sn, s⟩) 66
  have W3 := Ext.push h2 (.cells (S_api_Series.cs ⟨ofL sn, s⟩).toArray 66) (Nat.le_refl _)
  generalize h2.push (.cells (S_api_Series.cs ⟨ofL sn, s⟩).toArray 66) = h3 at *
  have P3 := P.ext W3 pl
  have L3 := (L.ext W).ext W3
  have X3 : Ext h.size h h3 := W.trans (W3.mono z2)
  have z3 := X3.size
  have H' : ∀ h', Ext h3.size h3 h' → k (answerU ls x) h' := fun h' X => H h' (X3.trans (X.mono z3))
  unfold answerU at H'
  have cq : ∀ i : Nat, cellH h3 ((⟨h.size, 0, none⟩ : Addr).add i) = (qcs x)[i]? := fun i => by rw [add_mk, Nat.zero_add, P3.cell]
  have cs : cellH h3 ((⟨h2.size, 0, none⟩ : Addr).add 1) = some (Slc.v s) := by rw [add_mk, Q.cell]; rfl
  refine ⟨x.2.1, by rw [cq]; rfl, ?_⟩
  by_cases h0 : x.2.1 = 0
  · rw [if_pos (by simp [h0])]
    simp only [if_pos h0] at H'
    exact ⟨s, cs, ofL x.1, by rw [P3.cell]; rfl, ofL x.2.2, by rw [cq]; rfl, LHas_ok L3 hm H'⟩
  rw [if_neg (by simpa using h0)]
  simp only [if_neg h0] at H'
  by_cases h1 : x.2.1 = 1
  · rw [if_pos (by simp [h1])]
    simp only [if_pos h1] at H'
    exact ⟨s, cs, ofL x.1, by rw [P3.cell]; rfl, ofL x.2.2, by rw [cq]; rfl, LHas_ok L3 hm H'⟩
  rw [if_neg (by simpa using h1)]
  simp only [if_neg h1] at H'
  by_cases h2' : x.2.1 = 2
  · rw [if_pos (by simp [h2'])]
    simp only [if_pos h2'] at H'
    exact ⟨s, cs, LBeg_ok L3 hm ok P3 H'⟩
  · rw [if_neg (by simpa using h2')]
    simp only [if_neg h2'] at H'
    exact H' h3 (Ext.refl _ _)
variable {sq : Slc} {qs : List QU}
theorem Chooses_ok {qn sn : Tx} {k : Bool → Heap → Prop} {h : Heap} (Lq : LsAt S_api_Question.cs 3 h sq (qs.map qst)) (L : LsAt S_api_Label.cs 2 h s (ls.map lst)) (hq : qs.length ≤ 1000000) (hm : ls.length ≤ 1000000) (ok : okL ls) (H : ∀ h', Ext h.size h h' → k (chooseU qn qs sn ls) h') : label_Chooses ⟨ofL qn, sq⟩ ⟨ofL sn, s⟩ k h := by
  have ql : sq.len = qs.length := by have := Lq.l; simpa using this
  unfold label_Chooses
  refine ⟨_, _, rfl, rfl, ?_⟩
  have P := Blk.push h (S_api_Selector.cs ⟨ofL qn, sq⟩) 63
  have W := Ext.push h (.cells (S_api_Selector.cs ⟨ofL qn, sq⟩).toArray 63) (Nat.le_refl _)
  have pl := P.lt
  generalize h.push (.cells (S_api_Selector.cs ⟨ofL qn, sq⟩).toArray 63) = h2 at *
  have z2 := W.size
  refine ⟨_, _, rfl, rfl, ?_⟩
  have Q := Blk.push h2 (S_api_Series.cs ⟨ofL sn, s⟩) 66
  have W3 := Ext.push h2 (.cells (S_api_Series.cs ⟨ofL sn, s⟩).toArray 66) (Nat.le_refl _)
  generalize h2.push (.cells (S_api_Series.cs ⟨ofL sn, s⟩).toArray 66) = h3 at *
  have P3 := P.ext W3 pl
  have L3 := (L.ext W).ext W3
  have Lq3 := (Lq.ext W).ext W3
  have X3 : Ext h.size h h3 := W.trans (W3.mono z2)
  have z3 := X3.size
  have ql3 := Q.lt
  have H' : ∀ h', Ext h3.size h3 h' → k (chooseU qn qs sn ls) h' := fun h' X => H h' (X3.trans (X.mono z3))
  unfold chooseU at H'
  have g1 : ∀ b, b = decide (qn ≠ [] ∧ qn ≠ sn) → label_Chooses_g1 ⟨h.size, 0, none⟩ ⟨h2.size, 0, none⟩ b k h3 := fun b hb => by
    unfold label_Chooses_g1
    by_cases hc : qn ≠ [] ∧ qn ≠ sn
    · rw [hb, if_pos (by simpa using hc)]
      have := H' h3 (Ext.refl _ _)
      rw [if_pos hc] at this; exact this
    rw [hb, if_neg (by simpa using hc)]
    simp only [if_neg hc] at H'
    refine ⟨sq, by rw [add_mk, P3.cell]; rfl, ?_⟩
    unfold slices_ContainsFunc_api_Question_api_Question__label_Chooses_1 slices_IndexFunc_api_Question_api_Question__label_Chooses_1
    refine ⟨fun i h' => 0 ≤ i ∧ i ≤ qs.length ∧ ((qs.take i.toNat).any fun x => !answerU ls x) = false ∧ Ext h3.size h3 h', fun i _ => (qs.length - i).toNat, ⟨by omega, by omega, by simp, Ext.refl _ _⟩, ?_⟩
    rintro i h4 ⟨i0, i1, ha, X4⟩
    have z4 := X4.size
    unfold slices_IndexFunc_api_Question_api_Question__label_Chooses_1_l1b
    by_cases hi : i < qs.length
    · rw [if_pos (by rw [decide_eq_true_eq]; omega)]
      have hx : qs[i.toNat]? = some (qs[i.toNat]'(by omega)) := by simp
      generalize qs[i.toNat]'(by omega) = x at *
      obtain ⟨ad, hd, C⟩ := (Lq3.ext X4).at' i.toNat (qst x) (by rw [List.getElem?_map, hx]; rfl)
      refine ⟨ad, hd, i0, by omega, qst x, C, ?_⟩
      unfold label_Chooses_1
      refine ⟨_, _, rfl, rfl, ?_⟩
      have T := Blk.push h4 (S_api_Question.cs (qst x)) 165
      have W5 := Ext.push h4 (.cells (S_api_Question.cs (qst x)).toArray 165) (Nat.le_refl _)
      have Q5 := (Q.ext X4 ql3).ext W5 (by omega)
      generalize h4.push (.cells (S_api_Question.cs (qst x)).toArray 165) = h5 at *
      have z5 := W5.size
      refine ⟨qst x, CellsAt.of_blk T, _, CellsAt.of_blk Q5, Answers_ok ((L3.ext X4).ext W5) hm ok fun h6 X6 => ?_⟩
      have X36 : Ext h3.size h3 h6 := X4.trans ((W5.trans (X6.mono z5)).mono z4)
      have hs := any_snoc (p := fun x : QU => !answerU ls x) hx
      cases hb : answerU ls x with
      | true =>
        dsimp only
        rw [if_neg (by simp), wrapI64 (by omega) (by omega)]
        refine ⟨⟨by omega, by omega, ?_, X36⟩, by omega⟩
        rw [show (i + 1).toNat = i.toNat + 1 from by omega, hs, ha, hb]; rfl
      | false =>
        dsimp only
        rw [if_pos (by simp)]
        have : (qs.any fun x => !answerU ls x) = true := any_take (i := i.toNat + 1) (by rw [hs, hb]; simp)
        have F := H' h6 X36
        rw [this] at F
        rw [show decide (i ≥ 0) = true from by simpa using i0]; exact F
    · rw [if_neg (by rw [decide_eq_true_eq]; omega)]
      rw [List.take_of_length_le (by omega)] at ha
      have F := H' h4 X4
      rw [ha] at F
      exact ⟨_, rfl, F⟩
  have hne : ((ofL qn).toList == (⟨#[]⟩ : ByteArray).toList) = decide (qn = []) := bq qn []
  refine ⟨ofL qn, by rw [P3.cell]; rfl, ?_⟩
  rw [hne]
  by_cases hn : qn = []
  · rw [if_neg (by simp [hn])]
    exact g1 _ (by simp [hn])
  · rw [if_pos (by simp [hn])]
    refine ⟨ofL qn, by rw [P3.cell]; rfl, ofL sn, by rw [Q.cell]; rfl, ?_⟩
    rw [bq]
    exact g1 _ (by simp [hn])
/-- the document's -/
theorem RChooses_ok {qn sn : Tx} {k : Bool → Heap → Prop} {h : Heap} (Lq : LsAt S_api_Question.cs 3 h sq (qs.map qst)) (L : LsAt S_api_Label.cs 2 h s (ls.map lst)) (hq : qs.length ≤ 1000000) (hm : ls.length ≤ 1000000) (H : ∀ h', Ext h.size h h' → k (chooseU qn qs sn ls) h') : ref15_Chooses ⟨ofL qn, sq⟩ ⟨ofL sn, s⟩ k h := by
  have ql : sq.len = qs.length := by have := Lq.l; simpa using this
  have sl : s.len = ls.length := by have := L.l; simpa using this
  unfold ref15_Chooses
  refine ⟨_, _, rfl, rfl, ?_⟩
  have P := Blk.push h (S_api_Selector.cs ⟨ofL qn, sq⟩) 63
  have W := Ext.push h (.cells (S_api_Selector.cs ⟨ofL qn, sq⟩).toArray 63) (Nat.le_refl _)
  have pl := P.lt
  generalize h.push (.cells (S_api_Selector.cs ⟨ofL qn, sq⟩).toArray 63) = h2 at *
  have z2 := W.size
  refine ⟨_, _, rfl, rfl, ?_⟩
  have Q := Blk.push h2 (S_api_Series.cs ⟨ofL sn, s⟩) 66
  have W3 := Ext.push h2 (.cells (S_api_Series.cs ⟨ofL sn, s⟩).toArray 66) (Nat.le_refl _)
  generalize h2.push (.cells (S_api_Series.cs ⟨ofL sn, s⟩).toArray 66) = h3 at *
  have P3 := P.ext W3 pl
  have L3 := (L.ext W).ext W3
  have Lq3 := (Lq.ext W).ext W3
  have X3 : Ext h.size h h3 := W.trans (W3.mono z2)
  have z3 := X3.size
  have ql3 := Q.lt
  have pl3 := P3.lt
  have H' : ∀ h', Ext h3.size h3 h' → k (chooseU qn qs sn ls) h' := fun h' X => H h' (X3.trans (X.mono z3))
  unfold chooseU at H'
  have g1 : ∀ b, b = decide (qn ≠ [] ∧ qn ≠ sn) → ref15_Chooses_g1 ⟨h.size, 0, none⟩ ⟨h2.size, 0, none⟩ b k h3 := fun b hb => by
    unfold ref15_Chooses_g1
    by_cases hc : qn ≠ [] ∧ qn ≠ sn
    · rw [hb, if_pos (by simpa using hc)]
      have := H' h3 (Ext.refl _ _)
      rw [if_pos hc] at this; exact this
    rw [hb, if_neg (by simpa using hc)]
    simp only [if_neg hc] at H'
    refine ⟨fun i h' => 0 ≤ i ∧ i ≤ qs.length ∧ ((qs.take i.toNat).any fun x => !answerU ls x) = false ∧ Ext h3.size h3 h', fun i _ => (qs.length - i).toNat, ⟨by omega, by omega, by simp, Ext.refl _ _⟩, ?_⟩
    rintro i h4 ⟨i0, i1, ha, X4⟩
    have z4 := X4.size
    have P4 := P3.ext X4 pl3
    have Q4 := Q.ext X4 ql3
    have cq : ∀ {h'}, Blk h' h.size (S_api_Selector.cs ⟨ofL qn, sq⟩) 63 → cellH h' ((⟨h.size, 0, none⟩ : Addr).add 1) = some (Slc.v sq) := fun K => by rw [add_mk, K.cell]; rfl
    have cs : ∀ {h'}, Blk h' h2.size (S_api_Series.cs ⟨ofL sn, s⟩) 66 → cellH h' ((⟨h2.size, 0, none⟩ : Addr).add 1) = some (Slc.v s) := fun K => by rw [add_mk, K.cell]; rfl
    unfold ref15_Chooses_l2b
    refine ⟨sq, cq P4, ?_⟩
    by_cases hi : i < qs.length
    · rw [if_pos (by rw [decide_eq_true_eq]; omega)]
      have hx : qs[i.toNat]? = some (qs[i.toNat]'(by omega)) := by simp
      generalize qs[i.toNat]'(by omega) = x at *
      obtain ⟨ad, hd, C⟩ := (Lq3.ext X4).at' i.toNat (qst x) (by rw [List.getElem?_map, hx]; rfl)
      refine ⟨sq, cq P4, ad, hd, i0, by omega, qst x, C, _, _, rfl, rfl, ?_⟩
      have T := Blk.push h4 (S_api_Question.cs ⟨ByteArray.empty, 0, ByteArray.empty⟩) 165
      have T2 := T.sets_all (vs := qcs x) rfl
      have W5 := (Ext.push h4 (.cells (S_api_Question.cs ⟨ByteArray.empty, 0, ByteArray.empty⟩).toArray 165) (Nat.le_refl _)).trans (Ext.sets _ (a := ⟨h4.size, 0, none⟩) 0 (qcs x) (Nat.le_refl _))
      refine ⟨_, WrsAt.of_blk T (by rw [scs3_len]; omega), rfl, ?_⟩
      rw [show S_api_Question.cs (qst x) = qcs x from rfl]
      generalize setsH (h4.push (.cells (S_api_Question.cs ⟨ByteArray.empty, 0, ByteArray.empty⟩).toArray 165)) ⟨h4.size, 0, none⟩ 0 (qcs x) = h5 at *
      have z5 := W5.size
      have tl := T2.lt
      have Q5 := Q4.ext W5 (by omega)
      have L5 := (L3.ext X4).ext W5
      have X35 : Ext h3.size h3 h5 := X4.trans (W5.mono z4)
      have hs := any_snoc (p := fun x : QU => !answerU ls x) hx
      refine ⟨fun q h' => 0 ≤ q.2.2 ∧ q.2.2 ≤ ls.length ∧ q.1 = hasU (ls.take q.2.2.toNat) x.1 x.2.2 ∧ q.2.1 = begU (ls.take q.2.2.toNat) x.1 x.2.2 ∧ Ext h5.size h5 h', fun q _ => (ls.length - q.2.2).toNat, ⟨by dsimp only; omega, by dsimp only; omega, by simp [hasU], by simp [begU], Ext.refl _ _⟩, ?_⟩
      rintro sm bg j h6 ⟨j0, j1, hsm, hbg, X6⟩
      dsimp only at j0 j1 hsm hbg
      have z6 := X6.size
      have Q6 := Q5.ext X6 (by omega)
      have T6 := T2.ext X6 tl
      have X36 : Ext h3.size h3 h6 := X35.trans (X6.mono X35.size)
      unfold ref15_Chooses_l3b
      refine ⟨s, cs Q6, ?_⟩
      have ct : ∀ {h'} (i : Nat), Blk h' h4.size (qcs x) 165 → cellH h' ((⟨h4.size, 0, none⟩ : Addr).add i) = (qcs x)[i]? := fun i K => by rw [add_mk, Nat.zero_add, K.cell]
      by_cases hj : j < ls.length
      · rw [if_pos (by rw [decide_eq_true_eq]; omega)]
        have hy : ls[j.toNat]? = some (ls[j.toNat]'(by omega)) := by simp
        generalize ls[j.toNat]'(by omega) = y at *
        obtain ⟨a2, hd2, C2⟩ := (L5.ext X6).at' j.toNat (lst y) (by rw [List.getElem?_map, hy]; rfl)
        refine ⟨s, cs Q6, a2, hd2, j0, by omega, lst y, C2, _, _, rfl, rfl, ?_⟩
        have V := Blk.push h6 (S_api_Label.cs ⟨ByteArray.empty, ByteArray.empty⟩) 163
        have V2 := V.sets_all (vs := S_api_Label.cs (lst y)) rfl
        have W7 := (Ext.push h6 (.cells (S_api_Label.cs ⟨ByteArray.empty, ByteArray.empty⟩).toArray 163) (Nat.le_refl _)).trans (Ext.sets _ (a := ⟨h6.size, 0, none⟩) 0 (S_api_Label.cs (lst y)) (Nat.le_refl _))
        refine ⟨_, WrsAt.of_blk V (by rw [labcs_len]; omega), rfl, ?_⟩
        generalize setsH (h6.push (.cells (S_api_Label.cs ⟨ByteArray.empty, ByteArray.empty⟩).toArray 163)) ⟨h6.size, 0, none⟩ 0 (S_api_Label.cs (lst y)) = h7 at *
        have z7 := W7.size
        have T7 := T6.ext W7 (by omega)
        have X57 : Ext h5.size h5 h7 := X6.trans (W7.mono z6)
        have s1 := any_snoc (p := fun l : LU => decide (l.1 = x.1) && decide (l.2 = x.2.2)) hy
        have s2 := any_snoc (p := fun l : LU => decide (l.1 = x.1) && prefU l.2 x.2.2) hy
        have step : ∀ (sm' bg' : Bool), sm' = (sm || (decide (y.1 = x.1) && decide (y.2 = x.2.2))) → bg' = (bg || (decide (y.1 = x.1) && prefU y.2 x.2.2)) → ref15_Chooses_j4 ⟨h.size, 0, none⟩ ⟨h2.size, 0, none⟩ i ⟨h4.size, 0, none⟩ j sm' bg' k (fun s h' => (0 ≤ s ∧ s ≤ (qs.length : Int) ∧ ((qs.take s.toNat).any fun x => !answerU ls x) = false ∧ Ext h3.size h3 h') ∧ ((qs.length : Int) - s).toNat < ((qs.length : Int) - i).toNat) (fun s h' => (0 ≤ s.2.2 ∧ s.2.2 ≤ (ls.length : Int) ∧ s.1 = hasU (ls.take s.2.2.toNat) x.1 x.2.2 ∧ s.2.1 = begU (ls.take s.2.2.toNat) x.1 x.2.2 ∧ Ext h5.size h5 h') ∧ ((ls.length : Int) - s.2.2).toNat < ((ls.length : Int) - j).toNat) h7 := fun sm' bg' e1 e2 => by
          unfold ref15_Chooses_j4
          rw [wrapI64 (by omega) (by omega)]
          refine ⟨_, rfl, ⟨by dsimp only; omega, by dsimp only; omega, ?_, ?_, X57⟩, by dsimp only; omega⟩
          · dsimp only
            rw [show (j + 1).toNat = j.toNat + 1 from by omega, e1, hsm]; unfold hasU; rw [s1]
          · dsimp only
            rw [show (j + 1).toNat = j.toNat + 1 from by omega, e2, hbg]; unfold begU; rw [s2]
        refine ⟨ofL y.1, by rw [V2.cell]; rfl, ofL x.1, by rw [T7.cell]; rfl, ?_⟩
        rw [bq]
        by_cases hn : y.1 = x.1
        · rw [if_neg (by simp [hn])]
          have g5 : ∀ sm', sm' = (sm || decide (y.2 = x.2.2)) → ref15_Chooses_g5 ⟨h.size, 0, none⟩ ⟨h2.size, 0, none⟩ i ⟨h4.size, 0, none⟩ bg j ⟨h6.size, 0, none⟩ sm' k (fun s h' => (0 ≤ s ∧ s ≤ (qs.length : Int) ∧ ((qs.take s.toNat).any fun x => !answerU ls x) = false ∧ Ext h3.size h3 h') ∧ ((qs.length : Int) - s).toNat < ((qs.length : Int) - i).toNat) (fun s h' => (0 ≤ s.2.2 ∧ s.2.2 ≤ (ls.length : Int) ∧ s.1 = hasU (ls.take s.2.2.toNat) x.1 x.2.2 ∧ s.2.1 = begU (ls.take s.2.2.toNat) x.1 x.2.2 ∧ Ext h5.size h5 h') ∧ ((ls.length : Int) - s.2.2).toNat < ((ls.length : Int) - j).toNat) h7 := fun sm' e1 => by
            have e1' : sm' = (sm || (decide (y.1 = x.1) && decide (y.2 = x.2.2))) := by rw [e1]; simp [hn]
            unfold ref15_Chooses_g5
            cases hb : bg with
            | true =>
              rw [if_pos rfl]
              unfold ref15_Chooses_g6
              exact step _ _ e1' (by rw [hb]; rfl)
            | false =>
              rw [if_neg (by simp)]
              have c1 : cellH h7 ((⟨h6.size, 0, none⟩ : Addr).add 1) = some (.string (ofL y.2)) := by rw [add_mk, V2.cell]; rfl
              have c2 : cellH h7 ((⟨h4.size, 0, none⟩ : Addr).add 2) = some (.string (ofL x.2.2)) := by rw [ct 2 T7]; rfl
              refine ⟨_, c1, _, c2, ?_⟩
              rw [size_ofL, size_ofL]
              by_cases hlen : x.2.2.length ≤ y.2.length
              · rw [if_pos (by rw [decide_eq_true_eq]; omega)]
                refine ⟨_, c1, _, c2, _, by omega, by omega, by rw [size_ofL, size_ofL]; omega, rfl, _, c2, ?_⟩
                rw [size_ofL, extract_ofL, bq]
                unfold ref15_Chooses_g7 ref15_Chooses_g6
                refine step _ _ e1' ?_
                rw [hb, hn]
                simp only [decide_true, Bool.true_and, Bool.false_or, prefU]
                rw [show decide (x.2.2.length ≤ y.2.length) = true from by simpa using hlen, Bool.true_and, show (0 : Int).toNat = 0 from rfl, List.drop_zero, Nat.sub_zero, show (x.2.2.length : Int).toNat = x.2.2.length from rfl]
              · rw [if_neg (by rw [decide_eq_true_eq]; omega)]
                unfold ref15_Chooses_g7 ref15_Chooses_g6
                refine step _ _ e1' ?_
                rw [hb]
                simp only [prefU]
                rw [show decide (x.2.2.length ≤ y.2.length) = false from by simpa using hlen]; simp
          cases hb : sm with
          | true => rw [if_pos rfl]; exact g5 _ (by rw [hb]; rfl)
          | false =>
            rw [if_neg (by simp)]
            refine ⟨ofL y.2, by rw [add_mk, V2.cell]; rfl, ofL x.2.2, by rw [ct 2 T7]; rfl, ?_⟩
            rw [bq]
            exact g5 _ (by rw [hb]; rfl)
        · rw [if_pos (by simp [hn])]
          exact step _ _ (by simp [hn]) (by simp [hn])
      · rw [if_neg (by rw [decide_eq_true_eq]; omega)]
        rw [List.take_of_length_le (by omega)] at hsm hbg
        have c1 : cellH h6 ((⟨h4.size, 0, none⟩ : Addr).add 1) = some (.int .i64 x.2.1) := by rw [ct 1 T6]; rfl
        have fin : ∀ b : Bool, b = !answerU ls x → ref15_Chooses_g11 ⟨h.size, 0, none⟩ ⟨h2.size, 0, none⟩ i b k (fun s h' => (0 ≤ s ∧ s ≤ (qs.length : Int) ∧ ((qs.take s.toNat).any fun x => !answerU ls x) = false ∧ Ext h3.size h3 h') ∧ ((qs.length : Int) - s).toNat < ((qs.length : Int) - i).toNat) (fun s h' => (0 ≤ s.2.2 ∧ s.2.2 ≤ (ls.length : Int) ∧ s.1 = hasU (ls.take s.2.2.toNat) x.1 x.2.2 ∧ s.2.1 = begU (ls.take s.2.2.toNat) x.1 x.2.2 ∧ Ext h5.size h5 h') ∧ ((ls.length : Int) - s.2.2).toNat < ((ls.length : Int) - j).toNat) h6 := fun b hb => by
          unfold ref15_Chooses_g11
          cases hc : b with
          | true =>
            rw [if_pos rfl]
            have : (qs.any fun x => !answerU ls x) = true := any_take (i := i.toNat + 1) (by rw [hs, ← hb, hc]; simp)
            have F := H' h6 X36
            rw [this] at F; exact F
          | false =>
            rw [if_neg (by simp), wrapI64 (by omega) (by omega)]
            refine ⟨_, rfl, ⟨by omega, by omega, ?_, X36⟩, by omega⟩
            rw [show (i + 1).toNat = i.toNat + 1 from by omega, hs, ha, ← hb, hc]; rfl
        unfold answerU at fin
        rw [← hsm, ← hbg] at fin
        refine ⟨_, c1, ?_⟩
        have tr : ref15_Chooses_g8 ⟨h.size, 0, none⟩ ⟨h2.size, 0, none⟩ i ⟨h4.size, 0, none⟩ bg true k (fun s h' => (0 ≤ s ∧ s ≤ (qs.length : Int) ∧ ((qs.take s.toNat).any fun x => !answerU ls x) = false ∧ Ext h3.size h3 h') ∧ ((qs.length : Int) - s).toNat < ((qs.length : Int) - i).toNat) (fun s h' => (0 ≤ s.2.2 ∧ s.2.2 ≤ (ls.length : Int) ∧ s.1 = hasU (ls.take s.2.2.toNat) x.1 x.2.2 ∧ s.2.1 = begU (ls.take s.2.2.toNat) x.1 x.2.2 ∧ Ext h5.size h5 h') ∧ ((ls.length : Int) - s.2.2).toNat < ((ls.length : Int) - j).toNat) h6 ∨ (if x.2.1 = 0 then sm else if x.2.1 = 1 then !sm else if x.2.1 = 2 then bg else false) = true := by
          cases hh : (if x.2.1 = 0 then sm else if x.2.1 = 1 then !sm else if x.2.1 = 2 then bg else false) with
          | true => exact .inr rfl
          | false =>
            left
            unfold ref15_Chooses_g8; rw [if_pos rfl]
            unfold ref15_Chooses_g9; rw [if_pos rfl]
            unfold ref15_Chooses_g10; rw [if_pos rfl]
            exact fin true (by rw [hh]; rfl)
        by_cases k0 : x.2.1 = 0
        · cases hb : sm with
          | false =>
            rw [if_pos (by simp [k0])]
            rcases tr with tr | tr
            · rw [hb] at *; exact tr
            · rw [if_pos k0, hb] at tr; cases tr
          | true =>
            rw [if_neg (by simp)]
            refine ⟨_, c1, ?_⟩
            rw [show (x.2.1 == 1 && true) = false from by simp [k0]]
            unfold ref15_Chooses_g8; rw [if_neg (by simp)]
            refine ⟨_, c1, ?_⟩
            rw [show (x.2.1 == 2 && !bg) = false from by simp [k0]]
            unfold ref15_Chooses_g9; rw [if_neg (by simp)]
            refine ⟨_, c1, ?_⟩
            rw [show decide (x.2.1 < 0) = false from by simp [k0]]
            unfold ref15_Chooses_g10; rw [if_neg (by simp)]
            refine ⟨_, c1, ?_⟩
            exact fin _ (by rw [hb, if_pos k0]; simp [k0])
        rw [if_neg (by simp [k0])]
        refine ⟨_, c1, ?_⟩
        by_cases k1 : x.2.1 = 1
        · cases hb : sm with
          | true =>
            rw [show (x.2.1 == 1 && true) = true from by simp [k1]]
            rcases tr with tr | tr
            · exact tr
            · rw [if_neg k0, if_pos k1, hb] at tr; cases tr
          | false =>
            rw [show (x.2.1 == 1 && false) = false from by simp]
            unfold ref15_Chooses_g8; rw [if_neg (by simp)]
            refine ⟨_, c1, ?_⟩
            rw [show (x.2.1 == 2 && !bg) = false from by simp [k1]]
            unfold ref15_Chooses_g9; rw [if_neg (by simp)]
            refine ⟨_, c1, ?_⟩
            rw [show decide (x.2.1 < 0) = false from by simp [k1]]
            unfold ref15_Chooses_g10; rw [if_neg (by simp)]
            refine ⟨_, c1, ?_⟩
            exact fin _ (by rw [hb, if_neg k0, if_pos k1]; simp [k1])
        rw [show (x.2.1 == 1 && sm) = false from by simp [k1]]
        unfold ref15_Chooses_g8; rw [if_neg (by simp)]
        refine ⟨_, c1, ?_⟩
        by_cases k2 : x.2.1 = 2
        · rw [show (x.2.1 == 2 && !bg) = !bg from by simp [k2]]
          cases hb : bg with
          | false =>
            unfold ref15_Chooses_g9; rw [if_pos (by simp)]
            unfold ref15_Chooses_g10; rw [if_pos rfl]
            exact fin _ (by rw [hb, if_neg k0, if_neg k1, if_pos k2]; rfl)
          | true =>
            unfold ref15_Chooses_g9; rw [if_neg (by simp)]
            refine ⟨_, c1, ?_⟩
            rw [show decide (x.2.1 < 0) = false from by simp [k2]]
            unfold ref15_Chooses_g10; rw [if_neg (by simp)]
            refine ⟨_, c1, ?_⟩
            exact fin _ (by rw [hb, if_neg k0, if_neg k1, if_pos k2]; simp [k2])
        · rw [show (x.2.1 == 2 && !bg) = false from by simp [k2]]
          unfold ref15_Chooses_g9; rw [if_neg (by simp)]
          refine ⟨_, c1, ?_⟩
          unfold ref15_Chooses_g10
          by_cases kn : x.2.1 < 0
          · rw [if_pos (by simpa using kn)]
            exact fin _ (by rw [if_neg k0, if_neg k1, if_neg k2]; rfl)
          · rw [if_neg (by simpa using kn)]
            refine ⟨_, c1, ?_⟩
            exact fin _ (by rw [if_neg k0, if_neg k1, if_neg k2]; simp; omega)
    · rw [if_neg (by rw [decide_eq_true_eq]; omega)]
      rw [List.take_of_length_le (by omega)] at ha
      have F := H' h4 X4
      rw [ha] at F; exact F
  have hne : ((ofL qn).toList == (⟨#[]⟩ : ByteArray).toList) = decide (qn = []) := bq qn []
  refine ⟨ofL qn, by rw [P3.cell]; rfl, ?_⟩
  rw [hne]
  by_cases hn : qn = []
  · rw [if_neg (by simp [hn])]
    exact g1 _ (by simp [hn])
  · rw [if_pos (by simp [hn])]
    refine ⟨ofL qn, by rw [P3.cell]; rfl, ofL sn, by rw [Q.cell]; rfl, ?_⟩
    rw [bq]
    exact g1 _ (by simp [hn])
end
end Go.Q.Yb
