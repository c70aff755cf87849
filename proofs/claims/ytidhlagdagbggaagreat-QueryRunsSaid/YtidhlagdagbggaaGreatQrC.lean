/- A part of the proof of statements of this seat: lemmas, no statement of their own. -/
import Derived.Test.YtidhlagdagbggaaGreatYzQh
set_option linter.unusedVariables false
set_option linter.unusedSimpArgs false
set_option maxRecDepth 100000
/- The document's labels: letters, words, checks, choices. -/
namespace Go.Q.Yz
theorem word_no {l : Tx} {c : UInt8} (h : wordU l = true) (hc : letterU c = false) : c ∉ l := fun hm => by
  unfold wordU at h
  rw [Bool.and_eq_true] at h
  have := List.all_eq_true.1 h.1 c hm
  rw [hc] at this; cases this
theorem cut_at {a b : Tx} {c : UInt8} (h : c ∉ a) : cutU (a ++ c :: b) c = (a, b, true) := by
  have hp : ∀ x ∈ a, (x != c) = true := fun x hx => by simp; exact fun e => h (e ▸ hx)
  unfold cutU
  rw [if_pos (by simp), List.takeWhile_append_of_pos hp, List.dropWhile_append_of_pos hp]
  simp
theorem cut_none {a : Tx} {c : UInt8} (h : c ∉ a) : cutU a c = (a, [], false) := by unfold cutU; rw [if_neg h]
theorem less_total : ∀ a b : Tx, (Op.bytesLess a b || a == b) = !(Op.bytesLess b a)
  | [], [] => rfl
  | [], _ :: _ => rfl
  | _ :: _, [] => rfl
  | x :: a, y :: b => by
    have ih := less_total a b
    rw [Op.bytesLess, Op.bytesLess]
    by_cases h1 : x < y
    · have h2 : ¬ y < x := by rw [UInt8.lt_iff_toNat_lt] at *; omega
      have h3 : ¬ y = x := fun e => by subst e; exact h2 h1
      simp [h1, h2, h3]
    · by_cases h2 : y < x
      · have h3 : ¬ x = y := fun e => by subst e; exact h1 h2
        simp [h1, h2, h3]
      · have h3 : x = y := by
          apply UInt8.toNat_inj.1
          rw [UInt8.lt_iff_toNat_lt] at *; omega
        subst h3
        have e : (x :: a == x :: b) = (a == b) := by simp [List.cons_beq_cons]
        rw [e]
        simpa using ih
theorem rletter_ok {c : UInt8} {k : Bool → Heap → Prop} {h : Heap} (H : k (letterU c) h) : ref15_letter (c.toNat : Int) k h := by
  unfold ref15_letter
  have e : ∀ n : Nat, (hn : n < 256) → (((c.toNat : Int) == (n : Int)) = (c == UInt8.ofNat n)) := fun n hn => by
    have h1 : (UInt8.ofNat n).toNat = n := by simp [UInt8.toNat_ofNat]; omega
    by_cases hc : c = UInt8.ofNat n
    · subst hc; rw [h1]; simp
    · rw [show (c == UInt8.ofNat n) = false from by simpa using hc]
      simp only [beq_eq_false_iff_ne, ne_eq]
      intro he
      exact hc (UInt8.toNat_inj.1 (by rw [h1]; omega))
  have e1 := e 95 (by omega)
  have e2 := e 45 (by omega)
  have e3 := e 46 (by omega)
  have e4 := e 47 (by omega)
  have d1 : (decide ((c.toNat : Int) ≥ 97) && decide ((c.toNat : Int) ≤ 122)) = (decide (97 ≤ c.toNat) && decide (c.toNat ≤ 122)) := by congr 1 <;> exact decide_eq_decide.2 (by omega)
  have d2 : (decide ((c.toNat : Int) ≥ 65) && decide ((c.toNat : Int) ≤ 90)) = (decide (65 ≤ c.toNat) && decide (c.toNat ≤ 90)) := by congr 1 <;> exact decide_eq_decide.2 (by omega)
  have d3 : (decide ((c.toNat : Int) ≥ 48) && decide ((c.toNat : Int) ≤ 57)) = (decide (48 ≤ c.toNat) && decide (c.toNat ≤ 57)) := by congr 1 <;> exact decide_eq_decide.2 (by omega)
  have x1 : ((c.toNat : Int) == 95) = (c == 95) := e1
  have x2 : ((c.toNat : Int) == 45) = (c == 45) := e2
  have x3 : ((c.toNat : Int) == 46) = (c == 46) := e3
  have x4 : ((c.toNat : Int) == 47) = (c == 47) := e4
  rw [d1, d2, d3, x1, x2, x3, x4]
  exact H
theorem RWord_ok {l : Tx} {k : Bool → Heap → Prop} {h : Heap} (H : k (wordU l) h) : ref15_Word (ofL l) k h := by
  unfold ref15_Word
  rw [size_ofL]
  by_cases hb : l.length < 1 ∨ l.length > 24
  · rw [if_pos (by simp only [Bool.or_eq_true, decide_eq_true_eq]; omega)]
    have : wordU l = false := by
      unfold wordU
      rw [show (decide (0 < l.length) && decide (l.length ≤ 24)) = false from by
        simp only [Bool.and_eq_false_iff, decide_eq_false_iff_not]; omega]
      rw [Bool.and_false]
    rw [this] at H; exact H
  rw [if_neg (by simp only [Bool.or_eq_true, decide_eq_true_eq]; omega)]
  have sz : (decide (0 < l.length) && decide (l.length ≤ 24)) = true := by simp only [Bool.and_eq_true, decide_eq_true_eq]; omega
  refine ⟨fun i h' => 0 ≤ i ∧ i ≤ l.length ∧ (l.take i.toNat).all letterU = true ∧ h' = h, fun i _ => (l.length - i).toNat, ⟨by omega, by omega, by simp, rfl⟩, ?_⟩
  rintro i h' ⟨i0, i1, ha, e⟩
  subst e
  unfold ref15_Word_l1b
  rw [size_ofL]
  by_cases hi : i < l.length
  · rw [if_pos (by rw [decide_eq_true_eq]; exact hi)]
    have hx : l[i.toNat]? = some (l[i.toNat]'(by omega)) := by simp
    generalize l[i.toNat]'(by omega) = c at *
    refine ⟨_, i0, strAt_ofL hx, rletter_ok ?_⟩
    cases hc : letterU c with
    | true =>
      rw [if_neg (by simp), wrapI64 (by omega) (by omega)]
      refine ⟨_, rfl, ⟨by omega, by omega, ?_, rfl⟩, by dsimp only; omega⟩
      rw [show (i + 1).toNat = i.toNat + 1 from by omega, List.take_add_one, hx]
      simp [ha, hc]
    | false =>
      rw [if_pos (by simp)]
      have : wordU l = false := by
        have : l.all letterU = false := by
          cases hh : l.all letterU with
          | false => rfl
          | true => have := List.all_eq_true.1 hh c (List.mem_of_getElem? hx); rw [hc] at this; cases this
        unfold wordU; rw [this]; rfl
      rw [this] at H; exact H
  · rw [if_neg (by rw [decide_eq_true_eq]; exact hi)]
    rw [List.take_of_length_le (by omega)] at ha
    unfold wordU at H
    rw [ha, sz] at H
    exact H
theorem RCheck_ok {name : Tx} {s : Slc} {ls : List LU} {k : Bool → Heap → Prop} {h : Heap} (L : LsAt S_api_Label.cs 2 h s (ls.map lst))
    (H : ∀ h', Ext h.size h h' → k (checkU name ls) h') : ref15_Check ⟨ofL name, s⟩ k h := by
  have sl : s.len = ls.length := by have := L.l; simpa using this
  unfold ref15_Check
  refine ⟨_, _, rfl, rfl, ?_⟩
  have P := Blk.push h (S_api_Series.cs ⟨ofL name, s⟩) 62
  have W := Ext.push h (.cells (S_api_Series.cs ⟨ofL name, s⟩).toArray 62) (Nat.le_refl _)
  generalize h.push (.cells (S_api_Series.cs ⟨ofL name, s⟩).toArray 62) = h2 at *
  have L2 := L.ext W
  have cs : cellH h2 ((⟨h.size, 0, none⟩ : Addr).add 1) = some (Slc.v s) := by rw [add_mk, P.cell]; rfl
  have F := H h2 W
  unfold checkU at F
  refine ⟨ofL name, by rw [P.cell]; rfl, RWord_ok ?_⟩
  cases hw : wordU name with
  | false =>
    rw [hw, if_neg (by simp)] at F
    rw [if_pos (by simp)]
    unfold ref15_Check_g1
    rw [if_pos rfl]; exact F
  | true =>
  rw [hw, if_pos rfl] at F
  rw [if_neg (by simp)]
  refine ⟨s, cs, ?_⟩
  unfold ref15_Check_g1
  by_cases h8 : ls.length > 8
  · rw [if_pos h8] at F
    rw [if_pos (by rw [decide_eq_true_eq]; omega)]; exact F
  rw [if_neg h8] at F
  rw [if_neg (by rw [decide_eq_true_eq]; omega)]
  refine ⟨fun i h' => 0 ≤ i ∧ i ≤ ls.length ∧ chkL (prevU ls i.toNat) (ls.drop i.toNat) = chkL none ls ∧ h' = h2, fun i _ => (ls.length - i).toNat, ⟨by omega, by omega, rfl, rfl⟩, ?_⟩
  rintro i h' ⟨i0, i1, hc, e⟩
  subst e
  unfold ref15_Check_l2b
  refine ⟨s, cs, ?_⟩
  by_cases hi : i < ls.length
  · rw [if_pos (by rw [decide_eq_true_eq]; omega)]
    have hx : ls[i.toNat]? = some (ls[i.toNat]'(by omega)) := by simp
    have hd : ls.drop i.toNat = (ls[i.toNat]'(by omega)) :: ls.drop (i.toNat + 1) := List.drop_eq_getElem_cons (by omega)
    generalize ls[i.toNat]'(by omega) = x at *
    rw [hd, chkL_cons] at hc
    obtain ⟨a, ha, C⟩ := L2.at' i.toNat (lst x) (by rw [List.getElem?_map, hx]; rfl)
    have C0 := C 0 (.string (ofL x.1)) rfl
    rw [show (a.add (i.toNat * 2)).add 0 = a.add (i.toNat * 2) from by simp [Addr.add]] at C0
    have j3 : ∀ b : Bool, (b = true → chkL none ls = false) → (b = false → chkL (some x.1) (ls.drop (i.toNat + 1)) = chkL none ls) → ref15_Check_j3 ⟨h.size, 0, none⟩ i b k (fun q h'' => (0 ≤ q ∧ q ≤ (ls.length : Int) ∧ chkL (prevU ls q.toNat) (ls.drop q.toNat) = chkL none ls ∧ h'' = h') ∧ ((ls.length : Int) - q).toNat < ((ls.length : Int) - i).toNat) h' := fun b b1 b2 => by
      unfold ref15_Check_j3
      cases b with
      | true =>
        rw [if_pos rfl]
        rw [b1 rfl] at F; exact F
      | false =>
        rw [if_neg (by simp), wrapI64 (by omega) (by omega)]
        refine ⟨_, rfl, ⟨by omega, by omega, ?_, rfl⟩, by omega⟩
        rw [show (i + 1).toNat = i.toNat + 1 from by omega]
        have : prevU ls (i.toNat + 1) = some x.1 := by unfold prevU; rw [if_neg (by omega), show i.toNat + 1 - 1 = i.toNat from by omega, hx]; rfl
        rw [this]; exact b2 rfl
    refine ⟨s, cs, a, ha, i0, by omega, ofL x.1, C0, RWord_ok ?_⟩
    cases hw1 : wordU x.1 with
    | false =>
      rw [hw1, if_neg (by simp)] at hc
      rw [if_pos (by simp), if_pos rfl]
      exact j3 true (fun _ => hc.symm) (fun h => by cases h)
    | true =>
      rw [hw1, if_pos rfl] at hc
      rw [if_neg (by simp)]
      refine ⟨s, cs, a, ha, i0, by omega, ofL x.2, C 1 _ rfl, RWord_ok ?_⟩
      cases hw2 : wordU x.2 with
      | false =>
        rw [hw2, if_neg (by simp)] at hc
        rw [if_pos (by simp)]
        exact j3 true (fun _ => hc.symm) (fun h => by cases h)
      | true =>
        rw [hw2, if_pos rfl] at hc
        rw [if_neg (by simp)]
        by_cases hi0 : i > 0
        · rw [if_pos (by simpa using hi0)]
          rw [wrapI64 (x := i - 1) (by omega) (by omega)]
          have hy : ls[i.toNat - 1]? = some (ls[i.toNat - 1]'(by omega)) := by simp
          generalize ls[i.toNat - 1]'(by omega) = y at *
          have pv : prevU ls i.toNat = some y.1 := by unfold prevU; rw [if_neg (by omega), hy]; rfl
          rw [pv] at hc
          obtain ⟨a2, ha2, C2⟩ := L2.at' (i.toNat - 1) (lst y) (by rw [List.getElem?_map, hy]; rfl)
          have c0 := C2 0 (.string (ofL y.1)) rfl
          rw [show (a2.add ((i.toNat - 1) * 2)).add 0 = a2.add ((i.toNat - 1) * 2) from by simp [Addr.add]] at c0
          refine ⟨s, cs, a, ha, by omega, by omega, ofL x.1, C0, s, cs, a2, ha2, by omega, by omega, ofL y.1, by rw [show (i - 1).toNat = i.toNat - 1 from by omega]; exact c0, ?_⟩
          rw [ofL_toList, ofL_toList, less_total]
          have hc2 : (if Op.bytesLess y.1 x.1 = true then chkL (some x.1) (ls.drop (i.toNat + 1)) else false) = chkL none ls := hc
          refine j3 _ (fun hb => ?_) fun hb => ?_
          · rw [Bool.not_eq_true'] at hb
            rw [hb, if_neg (by simp)] at hc2; exact hc2.symm
          · rw [Bool.not_eq_false'] at hb
            rw [hb, if_pos rfl] at hc2; exact hc2
        · rw [if_neg (by simpa using hi0)]
          have pv : prevU ls i.toNat = none := by unfold prevU; rw [if_pos (by omega)]
          rw [pv] at hc
          exact j3 false (fun h => by cases h) fun _ => hc
  · rw [if_neg (by rw [decide_eq_true_eq]; omega)]
    have hd : ls.drop i.toNat = [] := List.drop_of_length_le (by omega)
    rw [hd] at hc
    rw [← hc] at F
    exact F
section
variable {s sq : Slc} {ls : List LU} {qs : List QU}
theorem RChooses_ok {qn sn : Tx} {k : Bool → Heap → Prop} {h : Heap} (Lq : LsAt S_api_Question.cs 3 h sq (qs.map qst)) (L : LsAt S_api_Label.cs 2 h s (ls.map lst)) (hq : qs.length ≤ 1000000) (hm : ls.length ≤ 1000000) (H : ∀ h', Ext h.size h h' → k (chooseU qn qs sn ls) h') : ref15_Chooses ⟨ofL qn, sq⟩ ⟨ofL sn, s⟩ k h := by
  have ql : sq.len = qs.length := by have := Lq.l; simpa using this
  have sl : s.len = ls.length := by have := L.l; simpa using this
  unfold ref15_Chooses
  refine ⟨_, _, rfl, rfl, ?_⟩
  have P := Blk.push h (S_api_Selector.cs ⟨ofL qn, sq⟩) 53
  have W := Ext.push h (.cells (S_api_Selector.cs ⟨ofL qn, sq⟩).toArray 53) (Nat.le_refl _)
  have pl := P.lt
  generalize h.push (.cells (S_api_Selector.cs ⟨ofL qn, sq⟩).toArray 53) = h2 at *
  have z2 := W.size
  refine ⟨_, _, rfl, rfl, ?_⟩
  have Q := Blk.push h2 (S_api_Series.cs ⟨ofL sn, s⟩) 62
  have W3 := Ext.push h2 (.cells (S_api_Series.cs ⟨ofL sn, s⟩).toArray 62) (Nat.le_refl _)
  generalize h2.push (.cells (S_api_Series.cs ⟨ofL sn, s⟩).toArray 62) = h3 at *
  have P3 := P.ext W3 pl
  have L3 := (L.ext W).ext W3
  have Lq3 := (Lq.ext W).ext W3
  have X3 : Ext h.size h h3 := W.trans (W3.mono z2)
  have z3 := X3.size
  have ql3 := Q.lt
  have pl3 := P3.lt
  have H' : ∀ h', Ext h3.size h3 h' → k (chooseU qn qs sn ls) h' := fun h' X => H h' (X3.trans (X.mono z3))
  unfold chooseU at H'
  have g1 : ∀ b, b = decide (qn ≠ [] ∧ qn ≠ sn) → ref15_Chooses_g1 ⟨h.size, 0, none⟩ ⟨h2.size, 0, none⟩ b k h3 := fun b hb => by
    unfold ref15_Chooses_g1
    by_cases hc : qn ≠ [] ∧ qn ≠ sn
    · rw [hb, if_pos (by simpa using hc)]
      have := H' h3 (Ext.refl _ _)
      rw [if_pos hc] at this; exact this
    rw [hb, if_neg (by simpa using hc)]
    simp only [if_neg hc] at H'
    refine ⟨fun i h' => 0 ≤ i ∧ i ≤ qs.length ∧ ((qs.take i.toNat).any fun x => !answerU ls x) = false ∧ Ext h3.size h3 h', fun i _ => (qs.length - i).toNat, ⟨by omega, by omega, by simp, Ext.refl _ _⟩, ?_⟩
    rintro i h4 ⟨i0, i1, ha, X4⟩
    have z4 := X4.size
    have P4 := P3.ext X4 pl3
    have Q4 := Q.ext X4 ql3
    have cq : ∀ {h'}, Blk h' h.size (S_api_Selector.cs ⟨ofL qn, sq⟩) 53 → cellH h' ((⟨h.size, 0, none⟩ : Addr).add 1) = some (Slc.v sq) := fun K => by rw [add_mk, K.cell]; rfl
    have cs : ∀ {h'}, Blk h' h2.size (S_api_Series.cs ⟨ofL sn, s⟩) 62 → cellH h' ((⟨h2.size, 0, none⟩ : Addr).add 1) = some (Slc.v s) := fun K => by rw [add_mk, K.cell]; rfl
    unfold ref15_Chooses_l2b
    refine ⟨sq, cq P4, ?_⟩
    by_cases hi : i < qs.length
    · rw [if_pos (by rw [decide_eq_true_eq]; omega)]
      have hx : qs[i.toNat]? = some (qs[i.toNat]'(by omega)) := by simp
      generalize qs[i.toNat]'(by omega) = x at *
      obtain ⟨ad, hd, C⟩ := (Lq3.ext X4).at' i.toNat (qst x) (by rw [List.getElem?_map, hx]; rfl)
      refine ⟨sq, cq P4, ad, hd, i0, by omega, qst x, C, _, _, rfl, rfl, ?_⟩
      have T := Blk.push h4 (S_api_Question.cs ⟨ByteArray.empty, 0, ByteArray.empty⟩) 86
      have T2 := T.sets_all (vs := qcs x) rfl
      have W5 := (Ext.push h4 (.cells (S_api_Question.cs ⟨ByteArray.empty, 0, ByteArray.empty⟩).toArray 86) (Nat.le_refl _)).trans (Ext.sets _ (a := ⟨h4.size, 0, none⟩) 0 (qcs x) (Nat.le_refl _))
      refine ⟨_, WrsAt.of_blk T (by rw [scs3_len]; omega), rfl, ?_⟩
      rw [show S_api_Question.cs (qst x) = qcs x from rfl]
      generalize setsH (h4.push (.cells (S_api_Question.cs ⟨ByteArray.empty, 0, ByteArray.empty⟩).toArray 86)) ⟨h4.size, 0, none⟩ 0 (qcs x) = h5 at *
      have z5 := W5.size
      have tl := T2.lt
      have Q5 := Q4.ext W5 (by omega)
      have L5 := (L3.ext X4).ext W5
      have X35 : Ext h3.size h3 h5 := X4.trans (W5.mono z4)
      have hs := any_snoc (p := fun x : QU => !answerU ls x) hx
      refine ⟨fun q h' => 0 ≤ q.2.2 ∧ q.2.2 ≤ ls.length ∧ q.1 = hasU (ls.take q.2.2.toNat) x.1 x.2.2 ∧ q.2.1 = begU (ls.take q.2.2.toNat) x.1 x.2.2 ∧ Ext h5.size h5 h', fun q _ => (ls.length - q.2.2).toNat, ⟨by dsimp only; omega, by dsimp only; omega, by simp [hasU], by simp [begU], Ext.refl _ _⟩, ?_⟩
      rintro sm bg j h6 ⟨j0, j1, hsm, hbg, X6⟩
      dsimp only at j0 j1 hsm hbg
      have z6 := X6.size
      have Q6 := Q5.ext X6 (by omega)
      have T6 := T2.ext X6 tl
      have X36 : Ext h3.size h3 h6 := X35.trans (X6.mono X35.size)
      unfold ref15_Chooses_l3b
      refine ⟨s, cs Q6, ?_⟩
      have ct : ∀ {h'} (i : Nat), Blk h' h4.size (qcs x) 86 → cellH h' ((⟨h4.size, 0, none⟩ : Addr).add i) = (qcs x)[i]? := fun i K => by rw [add_mk, Nat.zero_add, K.cell]
      by_cases hj : j < ls.length
      · rw [if_pos (by rw [decide_eq_true_eq]; omega)]
        have hy : ls[j.toNat]? = some (ls[j.toNat]'(by omega)) := by simp
        generalize ls[j.toNat]'(by omega) = y at *
        obtain ⟨a2, hd2, C2⟩ := (L5.ext X6).at' j.toNat (lst y) (by rw [List.getElem?_map, hy]; rfl)
        refine ⟨s, cs Q6, a2, hd2, j0, by omega, lst y, C2, _, _, rfl, rfl, ?_⟩
        have V := Blk.push h6 (S_api_Label.cs ⟨ByteArray.empty, ByteArray.empty⟩) 103
        have V2 := V.sets_all (vs := S_api_Label.cs (lst y)) rfl
        have W7 := (Ext.push h6 (.cells (S_api_Label.cs ⟨ByteArray.empty, ByteArray.empty⟩).toArray 103) (Nat.le_refl _)).trans (Ext.sets _ (a := ⟨h6.size, 0, none⟩) 0 (S_api_Label.cs (lst y)) (Nat.le_refl _))
        refine ⟨_, WrsAt.of_blk V (by rw [labcs_len]; omega), rfl, ?_⟩
        generalize setsH (h6.push (.cells (S_api_Label.cs ⟨ByteArray.empty, ByteArray.empty⟩).toArray 103)) ⟨h6.size, 0, none⟩ 0 (S_api_Label.cs (lst y)) = h7 at *
        have z7 := W7.size
        have T7 := T6.ext W7 (by omega)
        have X57 : Ext h5.size h5 h7 := X6.trans (W7.mono z6)
        have s1 := any_snoc (p := fun l : LU => decide (l.1 = x.1) && decide (l.2 = x.2.2)) hy
        have s2 := any_snoc (p := fun l : LU => decide (l.1 = x.1) && prefU l.2 x.2.2) hy
        have step : ∀ (sm' bg' : Bool), sm' = (sm || (decide (y.1 = x.1) && decide (y.2 = x.2.2))) → bg' = (bg || (decide (y.1 = x.1) && prefU y.2 x.2.2)) → ref15_Chooses_j4 ⟨h.size, 0, none⟩ ⟨h2.size, 0, none⟩ i ⟨h4.size, 0, none⟩ j sm' bg' k (fun s h' => (0 ≤ s ∧ s ≤ (qs.length : Int) ∧ ((qs.take s.toNat).any fun x => !answerU ls x) = false ∧ Ext h3.size h3 h') ∧ ((qs.length : Int) - s).toNat < ((qs.length : Int) - i).toNat) (fun s h' => (0 ≤ s.2.2 ∧ s.2.2 ≤ (ls.length : Int) ∧ s.1 = hasU (ls.take s.2.2.toNat) x.1 x.2.2 ∧ s.2.1 = begU (ls.take s.2.2.toNat) x.1 x.2.2 ∧ Ext h5.size h5 h') ∧ ((ls.length : Int) - s.2.2).toNat < ((ls.length : Int) - j).toNat) h7 := fun sm' bg' e1 e2 => by
          unfold ref15_Chooses_j4
          rw [wrapI64 (by omega) (by omega)]
          refine ⟨_, rfl, ⟨by dsimp only; omega, by dsimp only; omega, ?_, ?_, X57⟩, by dsimp only; omega⟩
          · dsimp only
            rw [show (j + 1).toNat = j.toNat + 1 from by omega, e1, hsm]; unfold hasU; rw [s1]
          · dsimp only
            rw [show (j + 1).toNat = j.toNat + 1 from by omega, e2, hbg]; unfold begU; rw [s2]
        refine ⟨ofL y.1, by rw [V2.cell]; rfl, ofL x.1, by rw [T7.cell]; rfl, ?_⟩
        rw [bq]
        by_cases hn : y.1 = x.1
        · rw [if_neg (by simp [hn])]
          have g5 : ∀ sm', sm' = (sm || decide (y.2 = x.2.2)) → ref15_Chooses_g5 ⟨h.size, 0, none⟩ ⟨h2.size, 0, none⟩ i ⟨h4.size, 0, none⟩ bg j ⟨h6.size, 0, none⟩ sm' k (fun s h' => (0 ≤ s ∧ s ≤ (qs.length : Int) ∧ ((qs.take s.toNat).any fun x => !answerU ls x) = false ∧ Ext h3.size h3 h') ∧ ((qs.length : Int) - s).toNat < ((qs.length : Int) - i).toNat) (fun s h' => (0 ≤ s.2.2 ∧ s.2.2 ≤ (ls.length : Int) ∧ s.1 = hasU (ls.take s.2.2.toNat) x.1 x.2.2 ∧ s.2.1 = begU (ls.take s.2.2.toNat) x.1 x.2.2 ∧ Ext h5.size h5 h') ∧ ((ls.length : Int) - s.2.2).toNat < ((ls.length : Int) - j).toNat) h7 := fun sm' e1 => by
            have e1' : sm' = (sm || (decide (y.1 = x.1) && decide (y.2 = x.2.2))) := by rw [e1]; simp [hn]
            unfold ref15_Chooses_g5
            cases hb : bg with
            | true =>
              rw [if_pos rfl]
              unfold ref15_Chooses_g6
              exact step _ _ e1' (by rw [hb]; rfl)
            | false =>
              rw [if_neg (by simp)]
              have c1 : cellH h7 ((⟨h6.size, 0, none⟩ : Addr).add 1) = some (.string (ofL y.2)) := by rw [add_mk, V2.cell]; rfl
              have c2 : cellH h7 ((⟨h4.size, 0, none⟩ : Addr).add 2) = some (.string (ofL x.2.2)) := by rw [ct 2 T7]; rfl
              refine ⟨_, c1, _, c2, ?_⟩
              rw [size_ofL, size_ofL]
              by_cases hlen : x.2.2.length ≤ y.2.length
              · rw [if_pos (by rw [decide_eq_true_eq]; omega)]
                refine ⟨_, c1, _, c2, _, by omega, by omega, by rw [size_ofL, size_ofL]; omega, rfl, _, c2, ?_⟩
                rw [size_ofL, extract_ofL, bq]
                unfold ref15_Chooses_g7 ref15_Chooses_g6
                refine step _ _ e1' ?_
                rw [hb, hn]
                simp only [decide_true, Bool.true_and, Bool.false_or, prefU]
                rw [show decide (x.2.2.length ≤ y.2.length) = true from by simpa using hlen, Bool.true_and, show (0 : Int).toNat = 0 from rfl, List.drop_zero, Nat.sub_zero, show (x.2.2.length : Int).toNat = x.2.2.length from rfl]
              · rw [if_neg (by rw [decide_eq_true_eq]; omega)]
                unfold ref15_Chooses_g7 ref15_Chooses_g6
                refine step _ _ e1' ?_
                rw [hb]
                simp only [prefU]
                rw [show decide (x.2.2.length ≤ y.2.length) = false from by simpa using hlen]; simp
          cases hb : sm with
          | true => rw [if_pos rfl]; exact g5 _ (by rw [hb]; rfl)
          | false =>
            rw [if_neg (by simp)]
            refine ⟨ofL y.2, by rw [add_mk, V2.cell]; rfl, ofL x.2.2, by rw [ct 2 T7]; rfl, ?_⟩
            rw [bq]
            exact g5 _ (by rw [hb]; rfl)
        · rw [if_pos (by simp [hn])]
          exact step _ _ (by simp [hn]) (by simp [hn])
      · rw [if_neg (by rw [decide_eq_true_eq]; omega)]
        rw [List.take_of_length_le (by omega)] at hsm hbg
        have c1 : cellH h6 ((⟨h4.size, 0, none⟩ : Addr).add 1) = some (.int .i64 x.2.1) := by rw [ct 1 T6]; rfl
        have fin : ∀ b : Bool, b = !answerU ls x → ref15_Chooses_g11 ⟨h.size, 0, none⟩ ⟨h2.size, 0, none⟩ i b k (fun s h' => (0 ≤ s ∧ s ≤ (qs.length : Int) ∧ ((qs.take s.toNat).any fun x => !answerU ls x) = false ∧ Ext h3.size h3 h') ∧ ((qs.length : Int) - s).toNat < ((qs.length : Int) - i).toNat) (fun s h' => (0 ≤ s.2.2 ∧ s.2.2 ≤ (ls.length : Int) ∧ s.1 = hasU (ls.take s.2.2.toNat) x.1 x.2.2 ∧ s.2.1 = begU (ls.take s.2.2.toNat) x.1 x.2.2 ∧ Ext h5.size h5 h') ∧ ((ls.length : Int) - s.2.2).toNat < ((ls.length : Int) - j).toNat) h6 := fun b hb => by
          unfold ref15_Chooses_g11
          cases hc : b with
          | true =>
            rw [if_pos rfl]
            have : (qs.any fun x => !answerU ls x) = true := any_take (i := i.toNat + 1) (by rw [hs, ← hb, hc]; simp)
            have F := H' h6 X36
            rw [this] at F; exact F
          | false =>
            rw [if_neg (by simp), wrapI64 (by omega) (by omega)]
            refine ⟨_, rfl, ⟨by omega, by omega, ?_, X36⟩, by omega⟩
            rw [show (i + 1).toNat = i.toNat + 1 from by omega, hs, ha, ← hb, hc]; rfl
        unfold answerU at fin
        rw [← hsm, ← hbg] at fin
        refine ⟨_, c1, ?_⟩
        have tr : ref15_Chooses_g8 ⟨h.size, 0, none⟩ ⟨h2.size, 0, none⟩ i ⟨h4.size, 0, none⟩ bg true k (fun s h' => (0 ≤ s ∧ s ≤ (qs.length : Int) ∧ ((qs.take s.toNat).any fun x => !answerU ls x) = false ∧ Ext h3.size h3 h') ∧ ((qs.length : Int) - s).toNat < ((qs.length : Int) - i).toNat) (fun s h' => (0 ≤ s.2.2 ∧ s.2.2 ≤ (ls.length : Int) ∧ s.1 = hasU (ls.take s.2.2.toNat) x.1 x.2.2 ∧ s.2.1 = begU (ls.take s.2.2.toNat) x.1 x.2.2 ∧ Ext h5.size h5 h') ∧ ((ls.length : Int) - s.2.2).toNat < ((ls.length : Int) - j).toNat) h6 ∨ (if x.2.1 = 0 then sm else if x.2.1 = 1 then !sm else if x.2.1 = 2 then bg else false) = true := by
          cases hh : (if x.2.1 = 0 then sm else if x.2.1 = 1 then !sm else if x.2.1 = 2 then bg else false) with
          | true => exact .inr rfl
          | false =>
            left
            unfold ref15_Chooses_g8; rw [if_pos rfl]
            unfold ref15_Chooses_g9; rw [if_pos rfl]
            unfold ref15_Chooses_g10; rw [if_pos rfl]
            exact fin true (by rw [hh]; rfl)
        by_cases k0 : x.2.1 = 0
        · cases hb : sm with
          | false =>
            rw [if_pos (by simp [k0])]
            rcases tr with tr | tr
            · rw [hb] at *; exact tr
            · rw [if_pos k0, hb] at tr; cases tr
          | true =>
            rw [if_neg (by simp)]
            refine ⟨_, c1, ?_⟩
            rw [show (x.2.1 == 1 && true) = false from by simp [k0]]
            unfold ref15_Chooses_g8; rw [if_neg (by simp)]
            refine ⟨_, c1, ?_⟩
            rw [show (x.2.1 == 2 && !bg) = false from by simp [k0]]
            unfold ref15_Chooses_g9; rw [if_neg (by simp)]
            refine ⟨_, c1, ?_⟩
            rw [show decide (x.2.1 < 0) = false from by simp [k0]]
            unfold ref15_Chooses_g10; rw [if_neg (by simp)]
            refine ⟨_, c1, ?_⟩
            exact fin _ (by rw [hb, if_pos k0]; simp [k0])
        rw [if_neg (by simp [k0])]
        refine ⟨_, c1, ?_⟩
        by_cases k1 : x.2.1 = 1
        · cases hb : sm with
          | true =>
            rw [show (x.2.1 == 1 && true) = true from by simp [k1]]
            rcases tr with tr | tr
            · exact tr
            · rw [if_neg k0, if_pos k1, hb] at tr; cases tr
          | false =>
            rw [show (x.2.1 == 1 && false) = false from by simp]
            unfold ref15_Chooses_g8; rw [if_neg (by simp)]
            refine ⟨_, c1, ?_⟩
            rw [show (x.2.1 == 2 && !bg) = false from by simp [k1]]
            unfold ref15_Chooses_g9; rw [if_neg (by simp)]
            refine ⟨_, c1, ?_⟩
            rw [show decide (x.2.1 < 0) = false from by simp [k1]]
            unfold ref15_Chooses_g10; rw [if_neg (by simp)]
            refine ⟨_, c1, ?_⟩
            exact fin _ (by rw [hb, if_neg k0, if_pos k1]; simp [k1])
        rw [show (x.2.1 == 1 && sm) = false from by simp [k1]]
        unfold ref15_Chooses_g8; rw [if_neg (by simp)]
        refine ⟨_, c1, ?_⟩
        by_cases k2 : x.2.1 = 2
        · rw [show (x.2.1 == 2 && !bg) = !bg from by simp [k2]]
          cases hb : bg with
          | false =>
            unfold ref15_Chooses_g9; rw [if_pos (by simp)]
            unfold ref15_Chooses_g10; rw [if_pos rfl]
            exact fin _ (by rw [hb, if_neg k0, if_neg k1, if_pos k2]; rfl)
          | true =>
            unfold ref15_Chooses_g9; rw [if_neg (by simp)]
            refine ⟨_, c1, ?_⟩
            rw [show decide (x.2.1 < 0) = false from by simp [k2]]
            unfold ref15_Chooses_g10; rw [if_neg (by simp)]
            refine ⟨_, c1, ?_⟩
            exact fin _ (by rw [hb, if_neg k0, if_neg k1, if_pos k2]; simp [k2])
        · rw [show (x.2.1 == 2 && !bg) = false from by simp [k2]]
          unfold ref15_Chooses_g9; rw [if_neg (by simp)]
          refine ⟨_, c1, ?_⟩
          unfold ref15_Chooses_g10
          by_cases kn : x.2.1 < 0
          · rw [if_pos (by simpa using kn)]
            exact fin _ (by rw [if_neg k0, if_neg k1, if_neg k2]; rfl)
          · rw [if_neg (by simpa using kn)]
            refine ⟨_, c1, ?_⟩
            exact fin _ (by rw [if_neg k0, if_neg k1, if_neg k2]; simp; omega)
    · rw [if_neg (by rw [decide_eq_true_eq]; omega)]
      rw [List.take_of_length_le (by omega)] at ha
      have F := H' h4 X4
      rw [ha] at F; exact F
  have hne : ((ofL qn).toList == (⟨#[]⟩ : ByteArray).toList) = decide (qn = []) := bq qn []
  refine ⟨ofL qn, by rw [P3.cell]; rfl, ?_⟩
  rw [hne]
  by_cases hn : qn = []
  · rw [if_neg (by simp [hn])]
    exact g1 _ (by simp [hn])
  · rw [if_pos (by simp [hn])]
    refine ⟨ofL qn, by rw [P3.cell]; rfl, ofL sn, by rw [Q.cell]; rfl, ?_⟩
    rw [bq]
    exact g1 _ (by simp [hn])
end
end Go.Q.Yz
set_option linter.unusedVariables false
set_option linter.unusedSimpArgs false
set_option maxRecDepth 100000
/- Selectors by words: the same as by cuts. -/
namespace Go.Q.Yz
abbrev WS := Tx × Tx
def nl (c : UInt8) : Bool := !letterU c
def wordsF : Nat → Tx → List WS
  | _, [] => []
  | 0, _ => []
  | n + 1, c :: l => ((c :: l).takeWhile letterU, ((c :: l).dropWhile letterU).takeWhile nl) :: wordsF n (((c :: l).dropWhile letterU).dropWhile nl)
def wordsU (l : Tx) : List WS := wordsF l.length l
def after (l : Tx) : Tx := (l.dropWhile letterU).dropWhile nl
theorem dw_len {p : UInt8 → Bool} : ∀ l : Tx, (l.dropWhile p).length ≤ l.length
  | [] => by simp
  | c :: l => by rw [List.dropWhile_cons]; split
                 · have := dw_len (p := p) l; simp only [List.length_cons]; omega
                 · exact Nat.le_refl _
theorem after_len (c : UInt8) (l : Tx) : (after (c :: l)).length ≤ l.length := by
  unfold after
  by_cases hc : letterU c = true
  · rw [List.dropWhile_cons, if_pos hc]
    exact Nat.le_trans (dw_len _) (dw_len _)
  · rw [List.dropWhile_cons, if_neg hc, List.dropWhile_cons, if_pos (by simpa [nl] using hc)]
    exact dw_len _
theorem wordsF_enough : ∀ (n m : Nat) (l : Tx), l.length ≤ n → l.length ≤ m → wordsF n l = wordsF m l
  | n, m, [], _, _ => by cases n <;> cases m <;> rfl
  | 0, m, c :: l, h, _ => by simp at h
  | n + 1, 0, c :: l, _, h => by simp at h
  | n + 1, m + 1, c :: l, h1, h2 => by
    simp only [List.length_cons] at h1 h2
    have := after_len c l
    unfold after at this
    simp only [wordsF]
    rw [wordsF_enough n m _ (by omega) (by omega)]
theorem wordsU_nil : wordsU [] = [] := rfl
theorem wordsU_cons (c : UInt8) (l : Tx) : wordsU (c :: l) = ((c :: l).takeWhile letterU, ((c :: l).dropWhile letterU).takeWhile nl) :: wordsU (after (c :: l)) := by
  have := after_len c l
  unfold after at this
  show wordsF (l.length + 1) (c :: l) = _
  simp only [wordsF]
  unfold wordsU after
  rw [wordsF_enough l.length _ _ this (Nat.le_refl _)]
theorem wordsU_ne {l : Tx} (h : l ≠ []) : wordsU l = (l.takeWhile letterU, (l.dropWhile letterU).takeWhile nl) :: wordsU (after l) := by
  cases l with
  | nil => exact absurd rfl h
  | cons c l => exact wordsU_cons c l
def joinW (P : List WS) : Tx := P.flatMap fun w => w.1 ++ w.2
theorem words_join : ∀ (n : Nat) (l : Tx), l.length ≤ n → joinW (wordsU l) = l
  | _, [], _ => rfl
  | 0, c :: l, h => by simp at h
  | n + 1, c :: l, h => by
    simp only [List.length_cons] at h
    rw [wordsU_cons]
    unfold joinW
    rw [List.flatMap_cons]
    have ih := words_join n (after (c :: l)) (Nat.le_trans (after_len c l) (by omega))
    unfold joinW at ih
    rw [ih]
    unfold after
    rw [List.append_assoc, List.takeWhile_append_dropWhile, List.takeWhile_append_dropWhile]
theorem wjoin (l : Tx) : joinW (wordsU l) = l := words_join l.length l (Nat.le_refl _)
/-- a word, what stands behind it, and a rest that doesn't go on with that -/
theorem words_at {a s t : Tx} (ha : ∀ c ∈ a, letterU c = true) (hs : ∀ c ∈ s, nl c = true) (sn : s ≠ []) (ht : t = [] ∨ ∃ c r, t = c :: r ∧ nl c = false) : wordsU (a ++ (s ++ t)) = (a, s) :: wordsU t := by
  have ne : a ++ (s ++ t) ≠ [] := by
    intro e
    have := List.append_eq_nil_iff.1 (List.append_eq_nil_iff.1 e).2
    exact sn this.1
  obtain ⟨d, s', es⟩ : ∃ d s', s = d :: s' := by cases s with
    | nil => exact absurd rfl sn
    | cons d s' => exact ⟨d, s', rfl⟩
  have ld : letterU d = false := by have := hs d (by rw [es]; simp); simpa [nl] using this
  have e1 : (s ++ t).takeWhile letterU = [] := by rw [es, List.cons_append, List.takeWhile_cons, if_neg (by simp [ld])]
  have e2 : (s ++ t).dropWhile letterU = s ++ t := by rw [es, List.cons_append, List.dropWhile_cons, if_neg (by simp [ld])]
  have e3 : t.takeWhile nl = [] ∧ t.dropWhile nl = t := by
    rcases ht with rfl | ⟨c, r, rfl, hc⟩
    · exact ⟨rfl, rfl⟩
    · rw [List.takeWhile_cons, List.dropWhile_cons, if_neg (by simp [hc]), if_neg (by simp [hc])]; exact ⟨rfl, rfl⟩
  rw [wordsU_ne ne]
  unfold after
  rw [List.takeWhile_append_of_pos ha, List.dropWhile_append_of_pos ha, e1, e2, List.append_nil, List.takeWhile_append_of_pos hs, List.dropWhile_append_of_pos hs, e3.1, e3.2, List.append_nil]
/-! questions -/
def sgn (s : Tx) : Option Int := if s = [61] then some 0 else if s = [33, 61] then some 1 else if s = [94, 61] then some 2 else none
theorem sgn_cases {s : Tx} {k : Int} (h : sgn s = some k) : (s = [61] ∧ k = 0) ∨ (s = [33, 61] ∧ k = 1) ∨ (s = [94, 61] ∧ k = 2) := by
  unfold sgn at h
  split at h
  · cases h; exact .inl ⟨by assumption, rfl⟩
  · split at h
    · cases h; exact .inr (.inl ⟨by assumption, rfl⟩)
    · split at h
      · cases h; exact .inr (.inr ⟨by assumption, rfl⟩)
      · cases h
theorem word_all {a : Tx} (h : wordU a = true) : ∀ c ∈ a, letterU c = true := by
  unfold wordU at h
  rw [Bool.and_eq_true] at h
  exact fun c hc => List.all_eq_true.1 h.1 c hc
theorem word_nil : wordU [] = false := by decide
theorem sgn_nl {s : Tx} {k : Int} (h : sgn s = some k) : (∀ c ∈ s, nl c = true) ∧ s ≠ [] ∧ (44 : UInt8) ∉ s := by
  rcases sgn_cases h with ⟨rfl, _⟩ | ⟨rfl, _⟩ | ⟨rfl, _⟩ <;> exact ⟨by decide, by decide, by decide⟩
theorem q_of {a s b : Tx} {k : Int} (ha : wordU a = true) (hs : sgn s = some k) (hb : wordU b = true) : questionU (a ++ (s ++ b)) = ((a, k, b), true) := by
  have hp := word_all ha
  obtain ⟨n1, n2, _⟩ := sgn_nl hs
  obtain ⟨d, s', es⟩ : ∃ d s', s = d :: s' := by cases s with
    | nil => exact absurd rfl n2
    | cons d s' => exact ⟨d, s', rfl⟩
  have ld : letterU d = false := by have := n1 d (by rw [es]; simp); simpa [nl] using this
  have e1 : (a ++ (s ++ b)).takeWhile letterU = a := by rw [List.takeWhile_append_of_pos hp, es, List.cons_append, List.takeWhile_cons, if_neg (by simp [ld]), List.append_nil]
  have e2 : (a ++ (s ++ b)).dropWhile letterU = s ++ b := by rw [List.dropWhile_append_of_pos hp, es, List.cons_append, List.dropWhile_cons, if_neg (by simp [ld])]
  unfold questionU
  rw [e1, e2]
  rcases sgn_cases hs with ⟨rfl, rfl⟩ | ⟨rfl, rfl⟩ | ⟨rfl, rfl⟩ <;> simp [sg, qgo, prefU, ha, hb]
theorem q_inv {l : Tx} (h : (questionU l).2 = true) : ∃ a s k b, l = a ++ (s ++ b) ∧ sgn s = some k ∧ wordU a = true ∧ wordU b = true ∧ (questionU l).1 = (a, k, b) := by
  have el : l.takeWhile letterU ++ l.dropWhile letterU = l := List.takeWhile_append_dropWhile
  unfold questionU at h ⊢
  obtain ⟨n, en⟩ : ∃ n, n = l.takeWhile letterU := ⟨_, rfl⟩
  obtain ⟨r, er⟩ : ∃ r, r = l.dropWhile letterU := ⟨_, rfl⟩
  rw [← en, ← er] at el h ⊢
  have pf : ∀ p : Tx, prefU r p = true → r = p ++ r.drop p.length := fun p hp => by
    unfold prefU at hp
    simp only [Bool.and_eq_true, decide_eq_true_eq] at hp
    conv => lhs; rw [← List.take_append_drop p.length r, hp.2]
  unfold sg qgo qgo qgo qgo at h ⊢
  split at h
  · rename_i hp
    rw [if_pos hp]
    dsimp only at h
    rw [Bool.and_eq_true] at h
    exact ⟨n, _, 0, _, by rw [← pf _ hp]; exact el.symm, by decide, h.1, h.2, rfl⟩
  · rename_i hp0
    rw [if_neg hp0]
    split at h
    · rename_i hp
      rw [if_pos hp]
      dsimp only at h
      rw [Bool.and_eq_true] at h
      exact ⟨n, _, 1, _, by rw [← pf _ hp]; exact el.symm, by decide, h.1, h.2, rfl⟩
    · rename_i hp1
      rw [if_neg hp1]
      split at h
      · rename_i hp
        rw [if_pos hp]
        dsimp only at h
        rw [Bool.and_eq_true] at h
        exact ⟨n, _, 2, _, by rw [← pf _ hp]; exact el.symm, by decide, h.1, h.2, rfl⟩
      · cases h
/-! the questions of a row of words -/
def chkP : List WS → Option (List QU)
  | (a, s) :: (b, e) :: r => match sgn s with
    | none => none
    | some k => if e = (if r.isEmpty = true then [125] else [44]) ∧ wordU a = true ∧ wordU b = true then (if r.isEmpty = true then some [(a, k, b)] else (chkP r).map ((a, k, b) :: ·)) else none
  | _ => none
theorem chkP_spec {a s b e : Tx} {r : List WS} {ys : List QU} (h : chkP ((a, s) :: (b, e) :: r) = some ys) : ∃ k, sgn s = some k ∧ wordU a = true ∧ wordU b = true ∧ ((r = [] ∧ e = [125]) ∨ (r ≠ [] ∧ e = [44] ∧ ∃ zs, chkP r = some zs)) := by
  unfold chkP at h
  cases hs : sgn s with
  | none => rw [hs] at h; cases h
  | some k =>
    rw [hs] at h
    dsimp only at h
    by_cases hc : e = (if r.isEmpty = true then [125] else [44]) ∧ wordU a = true ∧ wordU b = true
    · rw [if_pos hc] at h
      obtain ⟨h1, h2, h3⟩ := hc
      refine ⟨k, rfl, h2, h3, ?_⟩
      cases r with
      | nil => exact .inl ⟨rfl, by simpa using h1⟩
      | cons w r =>
        right
        refine ⟨by simp, by simpa using h1, ?_⟩
        rw [if_neg (by simp)] at h
        cases hr : chkP (w :: r) with
        | none => rw [hr] at h; cases h
        | some zs => exact ⟨zs, rfl⟩
    · rw [if_neg hc] at h; cases h
theorem chkP_even : ∀ {P : List WS} {ys : List QU}, chkP P = some ys → P.length % 2 = 0 ∧ (joinW P).getLast? = some 125
  | [], _, h => by cases h
  | [_], _, h => by cases h
  | (a, s) :: (b, e) :: r, ys, h => by
    obtain ⟨k, _, _, _, h5⟩ := chkP_spec h
    rcases h5 with ⟨rfl, rfl⟩ | ⟨rn, rfl, zs, hz⟩
    · refine ⟨by simp, ?_⟩
      unfold joinW
      simp [List.getLast?_append]
    · obtain ⟨i1, i2⟩ := chkP_even hz
      refine ⟨by simp only [List.length_cons]; omega, ?_⟩
      have e : joinW ((a, s) :: (b, [44]) :: r) = (a ++ s ++ (b ++ [44])) ++ joinW r := by unfold joinW; simp
      rw [e, List.getLast?_append, i2]; rfl
theorem chkP_empty {s : Tx} {P : List WS} : chkP (([], s) :: P) = none := by
  cases hh : chkP (([], s) :: P) with
  | none => rfl
  | some ys =>
    cases P with
    | nil => cases hh
    | cons w r =>
      obtain ⟨k, _, h, _⟩ := chkP_spec (b := w.1) (e := w.2) hh
      rw [word_nil] at h; cases h
theorem starts (z : Tx) : (z = [] ∨ ∃ c r, z = c :: r ∧ nl c = false) ∨ (∃ c r, z = c :: r ∧ nl c = true) := by
  cases z with
  | nil => exact .inl (.inl rfl)
  | cons c r =>
    cases hc : nl c with
    | false => exact .inl (.inr ⟨c, r, rfl, hc⟩)
    | true => exact .inr ⟨c, r, rfl, hc⟩
theorem words_nl {c : UInt8} {r : Tx} (hc : nl c = true) : ∃ s P, wordsU (c :: r) = ([], s) :: P := by
  have : letterU c = false := by simpa [nl] using hc
  exact ⟨_, _, by rw [wordsU_cons, List.takeWhile_cons, if_neg (by simp [this])]⟩
theorem no44 {a s b : Tx} {k : Int} (ha : wordU a = true) (hs : sgn s = some k) (hb : wordU b = true) : (44 : UInt8) ∉ a ++ (s ++ b) := by
  intro h
  rw [List.mem_append, List.mem_append] at h
  rcases h with h | h | h
  · exact word_no ha (by decide) h
  · exact (sgn_nl hs).2.2 h
  · exact word_no hb (by decide) h
theorem sel_words : ∀ (f : Nat) (r : Tx) (qs : List QU), qs.length ≤ 8 → r.length < f →
    selGo f r qs = if (wordsU (r ++ [125])).length ≤ 2 * (8 - qs.length) then (chkP (wordsU (r ++ [125]))).map (qs ++ ·) else none
  | 0, r, qs, _, h => by omega
  | f + 1, r, qs, h8, hf => by
    have ne : r ++ [125] ≠ [] := by simp
    have pos : 0 < (wordsU (r ++ [125])).length := by rw [wordsU_ne ne]; simp
    have last : (r ++ [125]).getLast? = some 125 := by simp
    unfold selGo
    by_cases e8 : qs.length = 8
    · rw [if_pos (.inr e8), if_neg (by omega)]
    by_cases fit : (questionU (cutU r 44).1).2 = true
    · rw [if_neg (by rw [fit]; simp [e8])]
      obtain ⟨a, s, k, b, el, hs, ha, hb, ex⟩ := q_inv fit
      have la := word_all ha
      have lb := word_all hb
      obtain ⟨sn1, sn2, sn3⟩ := sgn_nl hs
      have startb : ∃ c t, b = c :: t ∧ letterU c = true := by
        cases b with
        | nil => rw [word_nil] at hb; cases hb
        | cons c t => exact ⟨c, t, rfl, lb c List.mem_cons_self⟩
      obtain ⟨bc, bt, ebb, lbc⟩ := startb
      rw [ex]
      by_cases hm : (44 : UInt8) ∈ r
      · -- there are more
        have sp := tw_split 44 hm
        have ec : cutU r 44 = (r.takeWhile (fun x => x != 44), (r.dropWhile (fun x => x != 44)).drop 1, true) := by unfold cutU; rw [if_pos hm]
        obtain ⟨rest, er⟩ : ∃ x, x = (r.dropWhile (fun x => x != 44)).drop 1 := ⟨_, rfl⟩
        rw [ec] at el
        dsimp only at el
        rw [el, ← er] at sp
        have rl : rest.length < r.length := by rw [sp]; simp; omega
        rw [ec, if_pos rfl, ← er]
        have ih := sel_words f rest (qs ++ [(a, k, b)]) (by simp; omega) (by omega)
        rw [ih]
        have etot : r ++ [125] = a ++ (s ++ (b ++ ([44] ++ (rest ++ [125])))) := by rw [sp]; simp
        have w1 : ∀ t, wordsU (a ++ (s ++ (b ++ t))) = (a, s) :: wordsU (b ++ t) := fun t => words_at la sn1 sn2 (.inr ⟨bc, bt ++ t, by rw [ebb]; rfl, by simp [nl, lbc]⟩)
        rw [etot, w1]
        rcases starts (rest ++ [125]) with st | ⟨c, t, ez, hc⟩
        · -- goes on with a letter
          have w2 := words_at (a := b) (s := [44]) (t := rest ++ [125]) lb (by decide) (by decide) st
          rw [w2]
          have qne : wordsU (rest ++ [125]) ≠ [] := by rw [wordsU_ne (by simp)]; simp
          have echk : chkP ((a, s) :: (b, [44]) :: wordsU (rest ++ [125])) = (chkP (wordsU (rest ++ [125]))).map ((a, k, b) :: ·) := by
            conv => lhs; unfold chkP
            rw [hs]
            dsimp only
            have ie : (wordsU (rest ++ [125])).isEmpty = false := by simpa using qne
            rw [ie]
            simp [ha, hb]
          rw [echk]
          simp only [List.length_cons, List.length_append, List.length_nil]
          by_cases hl : (wordsU (rest ++ [125])).length ≤ 2 * (8 - (qs.length + (0 + 1)))
          · rw [if_pos hl, if_pos (by omega), Option.map_map]
            congr 1
            funext ys
            simp
          · rw [if_neg hl, if_neg (by omega)]
        · -- doesn't
          obtain ⟨s', P', ew⟩ := words_nl (r := t) hc
          rw [ez, ew, chkP_empty]
          have lhs : (if (([], s') :: P').length ≤ 2 * (8 - (qs ++ [(a, k, b)]).length) then Option.map (fun x => qs ++ [(a, k, b)] ++ x) none else none) = (none : Option (List QU)) := by split <;> rfl
          rw [lhs]
          have w2 : wordsU (b ++ ([44] ++ (c :: t))) = (b, 44 :: (c :: t).takeWhile nl) :: wordsU ((c :: t).dropWhile nl) := by
            have e : b ++ ([44] ++ (c :: t)) = b ++ ((44 :: (c :: t).takeWhile nl) ++ (c :: t).dropWhile nl) := by
              show b ++ (44 :: (c :: t)) = b ++ (44 :: ((c :: t).takeWhile nl ++ (c :: t).dropWhile nl))
              rw [List.takeWhile_append_dropWhile]
            rw [e]
            refine words_at lb (fun x hx => ?_) (by simp) ?_
            · rcases List.mem_cons.1 hx with rfl | hx
              · decide
              · exact List.all_eq_true.1 List.all_takeWhile x hx
            · cases hd : (c :: t).dropWhile nl with
              | nil => exact .inl rfl
              | cons d u =>
                refine .inr ⟨d, u, rfl, ?_⟩
                have : ∀ {l : Tx} {d u}, l.dropWhile nl = d :: u → nl d = false := fun {l} => by
                  induction l with
                  | nil => intro d u h; cases h
                  | cons x l ih =>
                    intro d u h
                    rw [List.dropWhile_cons] at h
                    split at h
                    · exact ih h
                    · rename_i hx; cases h; simpa using hx
                exact this hd
          rw [w2]
          have n : chkP ((a, s) :: (b, 44 :: (c :: t).takeWhile nl) :: wordsU ((c :: t).dropWhile nl)) = none := by
            cases hh : chkP ((a, s) :: (b, 44 :: (c :: t).takeWhile nl) :: wordsU ((c :: t).dropWhile nl)) with
            | none => rfl
            | some ys =>
              obtain ⟨_, _, _, _, h5⟩ := chkP_spec hh
              rw [List.takeWhile_cons, if_pos hc] at h5
              rcases h5 with ⟨_, h⟩ | ⟨_, h, _⟩
              · cases h
              · cases h
          rw [n]
          split <;> rfl
      · -- the last one
        have ec : cutU r 44 = (r, [], false) := cut_none hm
        rw [ec] at el
        dsimp only at el
        rw [ec, if_neg (by simp)]
        have etot : r ++ [125] = a ++ (s ++ (b ++ ([125] ++ []))) := by rw [el]; simp
        rw [etot, words_at la sn1 sn2 (.inr ⟨bc, bt ++ ([125] ++ []), by rw [ebb]; rfl, by simp [nl, lbc]⟩), words_at lb (by decide) (by decide) (.inl rfl), wordsU_nil]
        rw [if_pos (by simp; omega)]
        have : chkP [(a, s), (b, [125])] = some [(a, k, b)] := by unfold chkP; rw [hs]; simp [ha, hb]
        rw [this]; rfl
    · rw [if_pos (.inl (by simpa using fit))]
      have : chkP (wordsU (r ++ [125])) = none := by
        cases hh : chkP (wordsU (r ++ [125])) with
        | none => rfl
        | some ys =>
          exfalso
          have ej := wjoin (r ++ [125])
          match hP : wordsU (r ++ [125]), hh with
          | (a, s) :: (b, e) :: R, hh =>
            obtain ⟨k, hs, ha, hb, h5⟩ := chkP_spec hh
            rw [hP] at ej
            rcases h5 with ⟨rfl, rfl⟩ | ⟨rn, rfl, zs, hz⟩
            · have er : r = a ++ (s ++ b) := by
                have : (a ++ (s ++ b)) ++ [125] = r ++ [125] := by rw [← ej]; unfold joinW; simp
                exact (List.append_cancel_right this).symm
              apply fit
              rw [er, cut_none (no44 ha hs hb)]
              dsimp only
              rw [q_of ha hs hb]
            · have er : (a ++ (s ++ b)) ++ (44 :: joinW R) = r ++ [125] := by rw [← ej]; unfold joinW; simp
              obtain ⟨i1, i2⟩ := chkP_even hz
              have jl := last_split i2
              have er2 : r = (a ++ (s ++ b)) ++ (44 :: (joinW R).dropLast) := by
                rw [jl] at er
                have : ((a ++ (s ++ b)) ++ (44 :: (joinW R).dropLast)) ++ [125] = r ++ [125] := by rw [← er]; simp
                exact (List.append_cancel_right this).symm
              apply fit
              rw [er2, cut_at (no44 ha hs hb)]
              dsimp only
              rw [q_of ha hs hb]
      rw [this]
      split <;> rfl
/-- by words -/
def selR (l : Tx) : Option (Tx × List QU) := match wordsU l with
  | [] => some ([], [])
  | (w0, s0) :: P => if w0 ≠ [] ∧ wordU w0 = false then none else if P.isEmpty = true then (if s0 = [] then some (w0, []) else none)
    else if s0 ≠ [123] ∨ P.length % 2 = 1 ∨ P.length > 16 then none else (chkP P).map fun qs => (w0, qs)
theorem sel_eq (l : Tx) : selR l = selU l := by
  by_cases hn : l = []
  · subst hn; decide
  have ew := wordsU_ne hn
  unfold selR selU
  rw [ew]
  dsimp only
  by_cases hm : (123 : UInt8) ∈ l
  · have sp := tw_split 123 hm
    have ec : cutU l 123 = (l.takeWhile (fun x => x != 123), (l.dropWhile (fun x => x != 123)).drop 1, true) := by unfold cutU; rw [if_pos hm]
    obtain ⟨nm, enm⟩ : ∃ x, x = l.takeWhile (fun x => x != 123) := ⟨_, rfl⟩
    obtain ⟨rest, er⟩ : ∃ x, x = (l.dropWhile (fun x => x != 123)).drop 1 := ⟨_, rfl⟩
    rw [ec]
    dsimp only
    rw [← enm, ← er] at sp ⊢
    by_cases al : nm.all letterU = true
    · have la : ∀ c ∈ nm, letterU c = true := fun c hc => List.all_eq_true.1 al c hc
      have e1 : l.takeWhile letterU = nm := by rw [sp, List.takeWhile_append_of_pos la, List.takeWhile_cons, if_neg (by decide), List.append_nil]
      have e2 : l.dropWhile letterU = 123 :: rest := by rw [sp, List.dropWhile_append_of_pos la, List.dropWhile_cons, if_neg (by decide)]
      have e3 : (l.dropWhile letterU).takeWhile nl = 123 :: rest.takeWhile nl := by rw [e2, List.takeWhile_cons, if_pos (by decide)]
      have e4 : after l = rest.dropWhile nl := by unfold after; rw [e2, List.dropWhile_cons, if_pos (by decide)]
      rw [e1, e3, e4]
      by_cases hw : nm ≠ [] ∧ wordU nm = false
      · rw [if_pos hw, if_pos hw]
      rw [if_neg hw, if_neg hw, if_neg (by decide : ¬ (true = false))]
      rw [if_neg (by simp : ¬ ((123 : UInt8) :: rest.takeWhile nl = []))]
      rcases starts rest with (rfl | ⟨c, t, rfl, hc⟩) | ⟨c, t, rfl, hc⟩
      · rfl
      · have t1 : (c :: t).takeWhile nl = [] := by rw [List.takeWhile_cons, if_neg (by simp [hc])]
        have t2 : (c :: t).dropWhile nl = c :: t := by rw [List.dropWhile_cons, if_neg (by simp [hc])]
        rw [t1, t2]
        have pe : (wordsU (c :: t)).isEmpty = false := by rw [wordsU_cons]; rfl
        rw [pe, if_neg (by simp)]
        have lhs : (if [123] ≠ [(123 : UInt8)] ∨ (wordsU (c :: t)).length % 2 = 1 ∨ (wordsU (c :: t)).length > 16 then none else (chkP (wordsU (c :: t))).map fun qs => (nm, qs)) = if (wordsU (c :: t)).length ≤ 16 then (chkP (wordsU (c :: t))).map (fun qs => (nm, qs)) else none := by
          by_cases h16 : (wordsU (c :: t)).length ≤ 16
          · rw [if_pos h16]
            by_cases h2 : (wordsU (c :: t)).length % 2 = 1
            · rw [if_pos (.inr (.inl h2))]
              cases hh : chkP (wordsU (c :: t)) with
              | none => rfl
              | some ys => have := (chkP_even hh).1; omega
            · rw [if_neg (by simp; omega)]
          · rw [if_pos (.inr (.inr (by omega))), if_neg h16]
        rw [lhs]
        unfold sufU
        by_cases hl : (c :: t).getLast? = some 125
        · rw [if_pos hl]
          dsimp only
          rw [if_neg (by decide : ¬ (true = false))]
          have sp2 := last_split hl
          have := sel_words ((c :: t).dropLast.length + 1) (c :: t).dropLast [] (by simp) (by omega)
          rw [this, ← sp2]
          simp only [List.length_nil, Nat.sub_zero, List.nil_append]
          by_cases h16 : (wordsU (c :: t)).length ≤ 16
          · rw [if_pos h16, if_pos (by omega)]
            cases chkP (wordsU (c :: t)) <;> rfl
          · rw [if_neg h16, if_neg (by omega)]; rfl
        · rw [if_neg hl]
          dsimp only
          rw [if_pos rfl]
          split
          · cases hh : chkP (wordsU (c :: t)) with
            | none => rfl
            | some ys => have := (chkP_even hh).2; rw [wjoin] at this; exact absurd this hl
          · rfl
      · -- a rest that begins with no letter
        have s0 : (123 : UInt8) :: (c :: t).takeWhile nl ≠ [123] := by rw [List.takeWhile_cons, if_pos hc]; simp
        have lhs : (if (wordsU ((c :: t).dropWhile nl)).isEmpty = true then none else if (123 : UInt8) :: (c :: t).takeWhile nl ≠ [123] ∨ (wordsU ((c :: t).dropWhile nl)).length % 2 = 1 ∨ (wordsU ((c :: t).dropWhile nl)).length > 16 then none else (chkP (wordsU ((c :: t).dropWhile nl))).map fun qs => (nm, qs)) = none := by
          split
          · rfl
          · rw [if_pos (.inl s0)]
        rw [lhs]
        unfold sufU
        by_cases hl : (c :: t).getLast? = some 125
        · rw [if_pos hl]
          dsimp only
          rw [if_neg (by decide : ¬ (true = false))]
          have sp2 := last_split hl
          have := sel_words ((c :: t).dropLast.length + 1) (c :: t).dropLast [] (by simp) (by omega)
          rw [this, ← sp2]
          obtain ⟨s', P', ew⟩ := words_nl (r := t) hc
          rw [ew, chkP_empty]
          split <;> rfl
        · rw [if_neg hl]
          dsimp only
          rw [if_pos rfl]
    · -- a name that is no word
      have nn : nm ≠ [] := by intro e; rw [e] at al; exact al rfl
      have wn : wordU nm = false := by unfold wordU; rw [Bool.eq_false_iff.2 al, Bool.false_and]
      rw [if_pos (⟨nn, wn⟩ : nm ≠ [] ∧ wordU nm = false)]
      -- the first byte that is no letter stands in the name
      have key : ∀ {nm : Tx}, nm.all letterU = false → (∀ x ∈ nm, x ≠ 123) → ∀ t, ∃ d u, (nm ++ t).dropWhile letterU = d :: u ∧ d ≠ 123 ∧ nl d = true := fun {nm} => by
        induction nm with
        | nil => intro h; cases h
        | cons x r ih =>
          intro h hx t
          by_cases hl : letterU x = true
          · obtain ⟨d, u, e, h1, h2⟩ := ih (by simpa [hl] using h) (fun y hy => hx y (List.mem_cons_of_mem _ hy)) t
            exact ⟨d, u, by rw [List.cons_append, List.dropWhile_cons, if_pos hl]; exact e, h1, h2⟩
          · exact ⟨x, r ++ t, by rw [List.cons_append, List.dropWhile_cons, if_neg hl], hx x List.mem_cons_self, by simpa [nl] using hl⟩
      have no : ∀ x ∈ nm, x ≠ 123 := fun x hx => by
        rw [enm] at hx
        have := List.all_eq_true.1 (List.all_takeWhile (p := fun x : UInt8 => x != 123) (l := l)) x hx
        simpa using this
      obtain ⟨d, u, ed, d1, d2⟩ := key (Bool.eq_false_iff.2 al) no (123 :: rest)
      rw [← sp] at ed
      rw [ed, List.takeWhile_cons, if_pos d2]
      split
      · rfl
      · split
        · rw [if_neg (by simp)]
        · rw [if_pos (.inl (by simp; intro e; exact absurd e d1))]
  · have ec : cutU l 123 = (l, [], false) := cut_none hm
    rw [ec]
    dsimp only
    by_cases al : l.all letterU = true
    · have la : ∀ c ∈ l, letterU c = true := fun c hc => List.all_eq_true.1 al c hc
      have e1 : l.takeWhile letterU = l := by have := List.takeWhile_append_of_pos (l₂ := []) la; simpa using this
      have e2 : l.dropWhile letterU = [] := by have := List.dropWhile_append_of_pos (l₂ := []) la; simpa using this
      have e4 : after l = [] := by unfold after; rw [e2]; rfl
      rw [e1, e2, e4]
      by_cases hw : l ≠ [] ∧ wordU l = false
      · rw [if_pos hw, if_pos hw]
      · rw [if_neg hw, if_neg hw, if_pos rfl]; rfl
    · have wn : wordU l = false := by unfold wordU; rw [Bool.eq_false_iff.2 al, Bool.false_and]
      rw [if_pos (⟨hn, wn⟩ : l ≠ [] ∧ wordU l = false)]
      have key : ∀ {nm : Tx}, nm.all letterU = false → (123 : UInt8) ∉ nm → ∃ d u, nm.dropWhile letterU = d :: u ∧ d ≠ 123 ∧ nl d = true := fun {nm} => by
        induction nm with
        | nil => intro h; cases h
        | cons x r ih =>
          intro h hx
          by_cases hl : letterU x = true
          · obtain ⟨d, u, e, h1, h2⟩ := ih (by simpa [hl] using h) (fun hy => hx (List.mem_cons_of_mem _ hy))
            exact ⟨d, u, by rw [List.dropWhile_cons, if_pos hl]; exact e, h1, h2⟩
          · exact ⟨x, r, by rw [List.dropWhile_cons, if_neg hl], fun e => hx (by rw [e]; exact List.mem_cons_self), by simpa [nl] using hl⟩
      obtain ⟨d, u, ed, d1, d2⟩ := key (Bool.eq_false_iff.2 al) hm
      rw [ed, List.takeWhile_cons, if_pos d2]
      split
      · rfl
      · split
        · rw [if_neg (by simp)]
        · rw [if_pos (.inl (by simp; intro e; exact absurd e d1))]
end Go.Q.Yz
set_option linter.unusedVariables false
set_option linter.unusedSimpArgs false
set_option maxRecDepth 100000
/- The document's selectors and series, walked. -/
namespace Go.Q.Yz
open Go.Q.Rw
abbrev sv (l : List Tx) : List Value := l.map fun t => Value.string (ofL t)
theorem str_one (t : ByteArray) : ∀ v ∈ [Value.string t], v.oneCell' = true := fun v hv => by simp at hv; subst hv; rfl
theorem drop_at {l : Tx} {i k : Nat} {c : UInt8} (hk : i ≤ k) (hc : l[k]? = some c) : (l.drop i)[k - i]? = some c := by
  rw [List.getElem?_drop, show i + (k - i) = k from by omega]; exact hc
theorem take_snoc {l : Tx} {i k : Nat} {c : UInt8} (hk : i ≤ k) (hc : l[k]? = some c) : (l.drop i).take (k + 1 - i) = (l.drop i).take (k - i) ++ [c] := by
  have := drop_at hk hc
  obtain ⟨h1, h2⟩ := List.getElem?_eq_some_iff.1 this
  rw [show k + 1 - i = (k - i) + 1 from by omega, List.take_succ_eq_append_getElem h1, h2]
theorem ex_ofL {l : Tx} {i k : Nat} : (ofL l).extract i k = ofL ((l.drop i).take (k - i)) := extract_ofL l i k
theorem Words_ok {l : Tx} {k : Slc × Slc → Heap → Prop} {h : Heap} (hl : l.length ≤ 100000000)
    (H : ∀ sw ss h', Row h.size h' 9 1 sw (sv ((wordsU l).map (·.1))) → sw.len = (wordsU l).length → Row h.size h' 9 1 ss (sv ((wordsU l).map (·.2))) → ss.len = (wordsU l).length → Ext h.size h h' → k (sw, ss) h') : ref15_words (ofL l) k h := by
  unfold ref15_words ref15_words_l1
  refine ⟨fun q h' => ∃ (i : Nat) (W : List WS), q.2.2 = (i : Int) ∧ i ≤ l.length ∧ Ext h.size h h' ∧ wordsU l = W ++ wordsU (l.drop i) ∧ Row h.size h' 9 1 q.1 (sv (W.map (·.1))) ∧ q.1.len = W.length ∧ Row h.size h' 9 1 q.2.1 (sv (W.map (·.2))) ∧ q.2.1.len = W.length ∧ (∀ g, q.1.blk = some g → q.2.1.blk ≠ some g) ∧ W.length ≤ i,
    fun q _ => l.length - q.2.2.toNat, ⟨0, [], rfl, by omega, Ext.refl _ _, by simp, Row.nil _ _ _ _, rfl, Row.nil _ _ _ _, rfl, (fun g hg => by cases hg), by simp⟩, ?_⟩
  rintro t4 t5 t6 h1 ⟨i, W, ei, il, X1, eW, R4, l4, R5, l5, dj, wl⟩
  dsimp only at ei R4 l4 R5 l5 dj
  subst ei
  have z1 := X1.size
  unfold ref15_words_l1b
  rw [size_ofL]
  by_cases hi : i < l.length
  rotate_left
  · rw [if_neg (by simp; omega)]
    rw [List.drop_of_length_le (by omega), wordsU_nil, List.append_nil] at eW
    exact H _ _ h1 (by rw [eW]; exact R4) (by rw [eW]; exact l4) (by rw [eW]; exact R5) (by rw [eW]; exact l5) X1
  rw [if_pos (by simp; omega)]
  have dne : l.drop i ≠ [] := by intro e; have := congrArg List.length e; rw [List.length_drop, List.length_nil] at this; omega
  have ew := wordsU_ne dne
  unfold ref15_words_l2
  refine ⟨fun t h' => h' = h1 ∧ ∃ k : Nat, t = (k : Int) ∧ i ≤ k ∧ k ≤ l.length ∧ ((l.drop i).take (k - i)).all letterU = true, fun t _ => l.length - t.toNat, ⟨rfl, i, rfl, Nat.le_refl _, il, by simp⟩, ?_⟩
  rintro t7 h2 ⟨rfl, k, rfl, ik, kl, al⟩
  unfold ref15_words_l2b
  rw [size_ofL]
  have g3f : ∀ (K : Slc × Slc → Heap → Prop), (k = l.length ∨ ∃ c, l[k]? = some c ∧ letterU c = false) → ref15_words_g3 (ofL l) t4 t5 (i : Int) (k : Int) false K (fun q h' => (∃ (i : Nat) (W : List WS), q.2.2 = (i : Int) ∧ i ≤ l.length ∧ Ext h.size h h' ∧ wordsU l = W ++ wordsU (l.drop i) ∧ Row h.size h' 9 1 q.1 (sv (W.map (·.1))) ∧ q.1.len = W.length ∧ Row h.size h' 9 1 q.2.1 (sv (W.map (·.2))) ∧ q.2.1.len = W.length ∧ (∀ g, q.1.blk = some g → q.2.1.blk ≠ some g) ∧ W.length ≤ i) ∧ l.length - q.2.2.toNat < l.length - ((i : Nat) : Int).toNat) (fun s h' => (h' = h2 ∧ ∃ k : Nat, s = (k : Int) ∧ i ≤ k ∧ k ≤ l.length ∧ ((l.drop i).take (k - i)).all letterU = true) ∧ l.length - s.toNat < l.length - ((k : Nat) : Int).toNat) h2 := fun K stop => by
    have dl : (l.drop i).length = l.length - i := List.length_drop
    obtain ⟨tw, dw⟩ := tw_take (p := letterU) (l := l.drop i) (i := k - i) al (by
      rcases stop with e | ⟨c, hc, lc⟩
      · left; omega
      · exact .inr ⟨c, drop_at ik hc, lc⟩)
    have dk : (l.drop i).drop (k - i) = l.drop k := by rw [List.drop_drop, show i + (k - i) = k from by omega]
    rw [dk] at dw
    unfold ref15_words_g3
    rw [if_neg (by simp), size_ofL]
    refine ⟨_, by omega, by omega, by omega, rfl, ?_⟩
    rw [Int.toNat_natCast, Int.toNat_natCast, ex_ofL, ← tw]
    refine bx0 fun h4 B3 X4 => ?_
    have z4 := X4.size
    refine app2 (R4.ext X4 fun g hg => (R4.bd hg).2) (R5.ext X4 fun g hg => (R5.bd hg).2) dj (by omega) rfl rfl (str_one _) (by omega) (by unfold maxLen; omega) fun s5 h6 R6 l6 R56 dj6 X6 => ?_
    have z6 := X6.size
    have X06 := X1.trans ((X4.mono z1).trans X6)
    unfold ref15_words_l4
    refine ⟨fun t h' => h' = h6 ∧ ∃ j : Nat, t = (j : Int) ∧ k ≤ j ∧ j ≤ l.length ∧ ((l.drop k).take (j - k)).all nl = true, fun t _ => l.length - t.toNat, ⟨rfl, k, rfl, Nat.le_refl _, kl, by simp⟩, ?_⟩
    rintro t7 h7 ⟨rfl, j, rfl, kj, jl, al2⟩
    unfold ref15_words_l4b
    rw [size_ofL]
    have g5f : ∀ (K : Slc × Slc → Heap → Prop) (N2 : Int → Heap → Prop), (j = l.length ∨ ∃ c, l[j]? = some c ∧ nl c = false) → ref15_words_g5 (ofL l) s5 t5 (k : Int) (j : Int) false K (fun q h' => (∃ (i : Nat) (W : List WS), q.2.2 = (i : Int) ∧ i ≤ l.length ∧ Ext h.size h h' ∧ wordsU l = W ++ wordsU (l.drop i) ∧ Row h.size h' 9 1 q.1 (sv (W.map (·.1))) ∧ q.1.len = W.length ∧ Row h.size h' 9 1 q.2.1 (sv (W.map (·.2))) ∧ q.2.1.len = W.length ∧ (∀ g, q.1.blk = some g → q.2.1.blk ≠ some g) ∧ W.length ≤ i) ∧ l.length - q.2.2.toNat < l.length - ((i : Nat) : Int).toNat) N2 (fun s h' => (h' = h7 ∧ ∃ j : Nat, s = (j : Int) ∧ k ≤ j ∧ j ≤ l.length ∧ ((l.drop k).take (j - k)).all nl = true) ∧ l.length - s.toNat < l.length - ((j : Nat) : Int).toNat) h7 := fun K N2 stop2 => by
      have dl2 : (l.drop k).length = l.length - k := List.length_drop
      obtain ⟨tw2, dw2⟩ := tw_take (p := nl) (l := l.drop k) (i := j - k) al2 (by
        rcases stop2 with e | ⟨c, hc, lc⟩
        · left; omega
        · exact .inr ⟨c, drop_at kj hc, lc⟩)
      have dj2 : (l.drop k).drop (j - k) = l.drop j := by rw [List.drop_drop, show k + (j - k) = j from by omega]
      rw [dj2] at dw2
      have aft : after (l.drop i) = l.drop j := by unfold after; rw [dw, dw2]
      have jgt : i < j := by
        obtain ⟨c, r, ec⟩ : ∃ c r, l.drop i = c :: r := by cases hd : l.drop i with
          | nil => exact absurd hd dne
          | cons c r => exact ⟨c, r, rfl⟩
        have h1 := after_len c r
        rw [← ec, aft] at h1
        have h2 := congrArg List.length ec
        rw [List.length_drop] at h1 h2
        rw [List.length_cons] at h2
        omega
      unfold ref15_words_g5
      rw [if_neg (by simp), size_ofL]
      refine ⟨_, by omega, by omega, by omega, rfl, ?_⟩
      rw [Int.toNat_natCast, Int.toNat_natCast, ex_ofL, ← tw2]
      refine bx0 fun h8 B8 X8 => ?_
      have z8 := X8.size
      refine app2 (R56.ext X8 fun g hg => (R56.bd hg).2) (R6.ext X8 fun g hg => (R6.bd hg).2) (fun g hg ht => dj6 g ht hg) (by omega) rfl rfl (str_one _) (by omega) (by unfold maxLen; omega) fun s9 h9 R9 l9 R69 dj9 X9 => ?_
      refine ⟨⟨j, W ++ [((l.drop i).takeWhile letterU, ((l.drop i).dropWhile letterU).takeWhile nl)], rfl, jl, X06.trans ((X8.mono (by omega)).trans X9), ?_, ?_, ?_, ?_, ?_, fun g hg ht => dj9 g ht hg, ?_⟩, ?_⟩
      · rw [eW, ew, aft]; simp
      · simp only [List.map_append, sv]
        exact R69
      · rw [l6, l4]; simp
      · simp only [List.map_append, sv]
        rw [dw]; exact R9
      · rw [l9, l5]; simp
      · simp only [List.length_append, List.length_cons, List.length_nil]; omega
      · dsimp only; omega
    by_cases hj : j < l.length
    · rw [if_pos (by simp; omega)]
      have hx : l[j]? = some (l[j]'hj) := List.getElem?_eq_getElem hj
      generalize l[j]'hj = c at hx
      refine ⟨_, by omega, strAt_ofL (by rw [Int.toNat_natCast]; exact hx), rletter_ok ?_⟩
      cases hc : letterU c with
      | true => exact g5f _ _ (.inr ⟨c, hx, by simp [nl, hc]⟩)
      | false =>
        show ref15_words_g5 _ _ _ _ _ true _ _ _ _ _
        unfold ref15_words_g5
        rw [if_pos rfl, wrapI64 (by omega) (by omega)]
        refine ⟨_, rfl, ⟨rfl, j + 1, by omega, by omega, by omega, ?_⟩, by dsimp only; omega⟩
        rw [take_snoc kj hx, List.all_append, al2]
        simp [nl, hc]
    · rw [if_neg (by simp; omega)]
      exact g5f _ _ (.inl (by omega))
  by_cases hk : k < l.length
  · rw [if_pos (by simp; omega)]
    have hx : l[k]? = some (l[k]'hk) := List.getElem?_eq_getElem hk
    generalize l[k]'hk = c at hx
    refine ⟨_, by omega, strAt_ofL (by rw [Int.toNat_natCast]; exact hx), rletter_ok ?_⟩
    cases hc : letterU c with
    | false => exact g3f _ (.inr ⟨c, hx, hc⟩)
    | true =>
      unfold ref15_words_g3
      rw [if_pos rfl, wrapI64 (by omega) (by omega)]
      refine ⟨_, rfl, ⟨rfl, k + 1, by omega, by omega, by omega, ?_⟩, by dsimp only; omega⟩
      rw [take_snoc ik hx, List.all_append, al]
      simp [hc]
  · rw [if_neg (by simp; omega)]
    exact g3f _ (.inl (by omega))
end Go.Q.Yz
set_option linter.unusedVariables false
set_option linter.unusedSimpArgs false
set_option maxRecDepth 100000
/- The document's selectors and series, walked. -/
namespace Go.Q.Yz
open Go.Q.Rw
theorem sv_at {B : Nat} {h : Heap} {s : Slc} {xs : List Tx} (R : Row B h 9 1 s (sv xs)) {i : Int} {t : Tx} (i0 : 0 ≤ i) (hx : xs[i.toNat]? = some t) : ∃ a, s.a = some a ∧ cellH h (a.add (i.toNat * 1)) = some (.string (ofL t)) := by
  obtain ⟨a, ha, hc⟩ := slc_get R.slc (i := i.toNat) (v := Value.string (ofL t)) (by rw [List.getElem?_map, hx]; rfl)
  exact ⟨a, ha, by rw [Nat.mul_one]; exact hc⟩
theorem ofL_beq (t : Tx) (p : ByteArray) (q : Tx) (e : p = ofL q) : ((ofL t).toList == p.toList) = decide (t = q) := by rw [e]; exact bq t q
def sgI (s : Tx) : Int := match sgn s with | none => -1 | some k => k
theorem qrow_one (x : QU) : ∀ v ∈ qcs x, v.oneCell' = true := fun v hv => by
  simp [qcs, S_api_Question.cs, qst] at hv; rcases hv with rfl | rfl | rfl <;> rfl
theorem RSelector_ok {l : Tx} {k : S_api_Selector × Bool → Heap → Prop} {h : Heap} (hl : l.length ≤ 100000000)
    (H0 : ∀ h', selU l = none → Ext h.size h h' → k (zSel, false) h')
    (H1 : ∀ name qs s h', selU l = some (name, qs) → Row h.size h' 86 3 s (qs.flatMap qcs) → s.len = qs.length → Ext h.size h h' → k (⟨ofL name, s⟩, true) h') : ref15_Selector (ofL l) k h := by
  have esel := sel_eq l
  unfold ref15_Selector
  refine bx0 fun h2 B1 X1 => bx rfl (Nat.le_refl _) fun h5 B3 X5 => ?_
  have z1 := X1.size
  have z5 := X5.size
  have l1 := B1.lt
  have l3 := B3.lt
  have C1 := B1.ext X5 l1
  have X05 := X1.trans (X5.mono z1)
  refine Words_ok hl fun sw ss h7 Rw7 wl Rs7 sl X7 => ?_
  have z7 := X7.size
  have D1 := C1.ext X7 (by omega)
  have D3 := B3.ext X7 l3
  have X07 := X05.trans (X7.mono (by omega))
  -- how it ends
  have bad : ∀ h', Blk h' h.size (S_api_Selector.cs zSel) 53 → Blk h' h2.size (S_api_Selector.cs zSel) 53 → Ext h.size h h' → selU l = none → ∃ v18 : S_api_Selector, CellsAt h' ⟨h2.size, 0, none⟩ (S_api_Selector.cs v18) ∧ (∃ h19 : Heap, WrsAt h' (⟨h.size, 0, none⟩ : Addr) 2 ∧ h19 = setsH h' ⟨h.size, 0, none⟩ 0 (S_api_Selector.cs v18) ∧ (∃ v20 : S_api_Selector, CellsAt h19 ⟨h.size, 0, none⟩ (S_api_Selector.cs v20) ∧ k (v20, false) h19)) := fun h' P Q X e =>
    ⟨_, CellsAt.of_blk Q, bset P rfl (Nat.le_refl _) fun h'' F U => ⟨_, CellsAt.of_blk F, H0 h'' e (X.trans (U.ext (Nat.le_refl _) X.size))⟩⟩
  dsimp only
  rw [wl]
  unfold selR at esel
  cases hP : wordsU l with
  | nil =>
    rw [hP] at esel wl
    dsimp only at esel
    rw [if_pos (by simp)]
    have ln : l = [] := by
      cases l with
      | nil => rfl
      | cons c r => rw [wordsU_cons] at hP; cases hP
    refine ⟨_, CellsAt.of_blk D3, bset D1 rfl (Nat.le_refl _) fun h' F U => ⟨_, CellsAt.of_blk F, ?_⟩⟩
    have := H1 [] [] ⟨none, 0, 0⟩ h' esel.symm (Row.nil _ _ _ _) rfl (X07.trans (U.ext (Nat.le_refl _) (by omega)))
    rw [ofL_beq l ⟨#[]⟩ [] rfl, ln]
    exact this
  | cons ws P =>
    obtain ⟨w0, s0⟩ := ws
    rw [hP] at esel wl sl Rw7 Rs7
    dsimp only at esel
    replace Rw7 : Row h5.size h7 9 1 sw (sv (w0 :: P.map (·.1))) := Rw7
    replace Rs7 : Row h5.size h7 9 1 ss (sv (s0 :: P.map (·.2))) := Rs7
    rw [if_neg (by simp; omega)]
    have lw : sw.len = P.length + 1 := wl
    have ls' : ss.len = P.length + 1 := sl
    obtain ⟨a, ha, hc⟩ := sv_at Rw7 (i := 0) (Int.le_refl _) rfl
    refine ⟨a, ha, Int.le_refl _, by omega, ofL w0, hc, bx rfl (Nat.le_refl _) fun h15 B13 X15 => ?_⟩
    have z15 := X15.size
    have Rw15 := Rw7.ext X15 fun g hg => (Rw7.bd hg).2
    have Rs15 := Rs7.ext X15 fun g hg => (Rs7.bd hg).2
    have E1 := D1.ext X15 (by omega)
    have E3 := D3.ext X15 D3.lt
    have X015 := X07.trans (X15.mono (by omega))
    have l13 := B13.lt
    obtain ⟨a2, ha2, hc2⟩ := sv_at Rw15 (i := 0) (Int.le_refl _) rfl
    refine ⟨a2, ha2, Int.le_refl _, by omega, ofL w0, hc2, ?_⟩
    rw [ofL_beq w0 ⟨#[]⟩ [] rfl]
    -- a selector there
    have good : ∀ h' s qs, Blk h' h.size (S_api_Selector.cs zSel) 53 → Blk h' h7.size (S_api_Selector.cs ⟨ofL w0, s⟩) 53 → Row h15.size h' 86 3 s (qs.flatMap qcs) → s.len = qs.length → Ext h.size h h' → selU l = some (w0, qs) → ∃ v24 : S_api_Selector, CellsAt h' ⟨h7.size, 0, none⟩ (S_api_Selector.cs v24) ∧ (∃ h25 : Heap, WrsAt h' (⟨h.size, 0, none⟩ : Addr) 2 ∧ h25 = setsH h' ⟨h.size, 0, none⟩ 0 (S_api_Selector.cs v24) ∧ (∃ v26 : S_api_Selector, CellsAt h25 ⟨h.size, 0, none⟩ (S_api_Selector.cs v26) ∧ k (v26, true) h25)) := fun h' s qs P Q R rl X e =>
      ⟨_, CellsAt.of_blk Q, bset P rfl (Nat.le_refl _) fun h'' F U => ⟨_, CellsAt.of_blk F, H1 w0 qs s h'' e ((R.keep fun g hg => U.block g (R.bd hg).2 (by have := (R.bd hg).1; omega)).mono (by omega)) rl (X.trans (U.ext (Nat.le_refl _) X.size))⟩⟩
    have g2 : ∀ b, (b = true → selU l = none) → (b = false → (if P.isEmpty = true then some (w0, []) else if s0 ≠ [123] ∨ P.length % 2 = 1 ∨ P.length > 16 then none else (chkP P).map fun qs => (w0, qs)) = selU l) → ref15_Selector_g2 ⟨h.size, 0, none⟩ ⟨h2.size, 0, none⟩ sw ss ⟨h7.size, 0, none⟩ b k h15 := fun b b1 b2 => by
      unfold ref15_Selector_g2
      cases b with
      | true =>
        rw [if_pos rfl]
        exact bad h15 E1 E3 X015 (b1 rfl)
      | false =>
        have e2 := b2 rfl
        rw [if_neg (by simp), lw]
        cases P with
        | nil =>
          rw [if_pos (by simp)]
          rw [if_pos (by decide)] at e2
          exact good h15 ⟨none, 0, 0⟩ [] E1 B13 (Row.nil _ _ _ _) rfl X015 e2.symm
        | cons pw P' =>
          rw [if_neg (by simp; omega)]
          rw [if_neg (by simp)] at e2
          obtain ⟨P, eP⟩ : ∃ P, P = pw :: P' := ⟨_, rfl⟩
          rw [← eP] at e2 Rw15 Rs15 ls' lw ⊢
          have pne : P ≠ [] := by rw [eP]; simp
          obtain ⟨a3, ha3, hc3⟩ := sv_at Rs15 (i := 0) (Int.le_refl _) rfl
          refine ⟨a3, ha3, Int.le_refl _, by omega, ofL s0, hc3, ?_⟩
          rw [ofL_beq s0 ⟨#[123]⟩ [123] rfl]
          have tm : Int.tmod ((P.length + 1 : Nat) : Int) 2 = ((P.length + 1) % 2 : Nat) := by rw [Int.tmod_eq_emod_of_nonneg (by omega)]; omega
          by_cases hb : s0 ≠ [123] ∨ P.length % 2 = 1 ∨ P.length > 16
          · rw [if_pos hb] at e2
            rw [if_pos (by
              rw [tm]
              simp only [Bool.or_eq_true, Bool.not_eq_true', decide_eq_false_iff_not, beq_iff_eq, decide_eq_true_eq]
              rcases hb with h | h | h
              · exact .inl (.inl h)
              · exact .inl (.inr (by omega))
              · exact .inr (by omega))]
            exact bad h15 E1 E3 X015 e2.symm
          · rw [if_neg hb] at e2
            rw [if_neg (by
              rw [tm]
              simp only [Bool.or_eq_true, Bool.not_eq_true', decide_eq_false_iff_not, beq_iff_eq, decide_eq_true_eq]
              intro hh
              apply hb
              rcases hh with (h | h) | h
              · exact .inl h
              · exact .inr (.inl (by omega))
              · exact .inr (.inr (by omega)))]
            have pev : P.length % 2 = 0 ∧ P.length ≤ 16 := by omega
            unfold ref15_Selector_l3
            refine ⟨fun i h' => ∃ (m : Nat) (qs : List QU) (s : Slc), i = (2 * m + 1 : Nat) ∧ 2 * m ≤ P.length ∧ Blk h' h.size (S_api_Selector.cs zSel) 53 ∧ Blk h' h2.size (S_api_Selector.cs zSel) 53 ∧ Blk h' h7.size (S_api_Selector.cs ⟨ofL w0, s⟩) 53 ∧ Row h15.size h' 86 3 s (qs.flatMap qcs) ∧ s.len = qs.length ∧ qs.length = m ∧ Row h5.size h' 9 1 sw (sv (w0 :: P.map (·.1))) ∧ Row h5.size h' 9 1 ss (sv (s0 :: P.map (·.2))) ∧ Ext h.size h h' ∧ h15.size ≤ h'.size ∧ ((P.drop (2 * m) ≠ [] ∧ chkP P = (chkP (P.drop (2 * m))).map (qs ++ ·)) ∨ (P.drop (2 * m) = [] ∧ chkP P = some qs)),
              fun i _ => (P.length + 1) - i.toNat, ⟨0, [], ⟨none, 0, 0⟩, rfl, by omega, E1, E3, B13, Row.nil _ _ _ _, rfl, rfl, Rw15, Rs15, X015, Nat.le_refl _, .inl ⟨by simpa using pne, by simp⟩⟩, ?_⟩
            rintro i h16 ⟨m, qs, s, ei, m2, F1, F2, F7, Rq, ql, qm, Rw16, Rs16, X016, z16, C⟩
            subst ei
            unfold ref15_Selector_l3b
            rw [lw]
            by_cases hm : 2 * m < P.length
            rotate_left
            · rw [if_neg (by simp; omega)]
              have dn : P.drop (2 * m) = [] := List.drop_of_length_le (by omega)
              have ec : chkP P = some qs := (C.resolve_left fun h => h.1 dn).2
              rw [ec] at e2
              exact good h16 s qs F1 F7 Rq ql X016 e2.symm
            rw [if_pos (by simp; omega)]
            refine ⟨_, rfl, ?_⟩
            obtain ⟨⟨pa, ps⟩, hA⟩ : ∃ x, P[2 * m]? = some x := ⟨_, List.getElem?_eq_getElem hm⟩
            obtain ⟨⟨pb, pe⟩, hB⟩ : ∃ x, P[2 * m + 1]? = some x := ⟨_, List.getElem?_eq_getElem (by omega)⟩
            have dA : P.drop (2 * m) = (pa, ps) :: (pb, pe) :: P.drop (2 * (m + 1)) := by
              obtain ⟨h1, h2⟩ := List.getElem?_eq_some_iff.1 hA
              obtain ⟨h3, h4⟩ := List.getElem?_eq_some_iff.1 hB
              rw [List.drop_eq_getElem_cons h1, h2, List.drop_eq_getElem_cons h3, h4]; rfl
            have ec : chkP P = (chkP ((pa, ps) :: (pb, pe) :: P.drop (2 * (m + 1)))).map (qs ++ ·) := by
              rcases C with ⟨_, c⟩ | ⟨c, _⟩
              · rw [dA] at c; exact c
              · rw [dA] at c; cases c
            -- words and what stands between
            have ia : ((2 * m + 1 : Nat) : Int).toNat = 2 * m + 1 := by omega
            have ib : IntKind.i64.wrap (((2 * m + 1 : Nat) : Int) + 1) = ((2 * m + 2 : Nat) : Int) := by rw [wrapI64 (by omega) (by omega)]; omega
            have ic : IntKind.i64.wrap (((2 * m + 1 : Nat) : Int) + 2) = ((2 * (m + 1) + 1 : Nat) : Int) := by rw [wrapI64 (by omega) (by omega)]; omega
            have wa : (w0 :: P.map (·.1))[2 * m + 1]? = some pa := by rw [List.getElem?_cons_succ, List.getElem?_map, hA]; rfl
            have wb : (w0 :: P.map (·.1))[2 * m + 2]? = some pb := by rw [List.getElem?_cons_succ, List.getElem?_map, hB]; rfl
            have sa : (s0 :: P.map (·.2))[2 * m + 1]? = some ps := by rw [List.getElem?_cons_succ, List.getElem?_map, hA]; rfl
            have sb : (s0 :: P.map (·.2))[2 * m + 2]? = some pe := by rw [List.getElem?_cons_succ, List.getElem?_map, hB]; rfl
            unfold ref15_Selector_l4
            refine ⟨fun q h' => ∃ n : Nat, q.2 = (n : Int) ∧ n ≤ 3 ∧ Ext h16.size h16 h' ∧ q.1 = (if ps = [61] ∧ 0 < n then 0 else if ps = [33, 61] ∧ 1 < n then 1 else if ps = [94, 61] ∧ 2 < n then 2 else -1), fun q _ => 3 - q.2.toNat, ⟨0, rfl, by omega, Ext.refl _ _, by simp⟩, ?_⟩
            rintro sg9 t10 h17 ⟨n, en, n3, X17, es9⟩
            dsimp only at en es9
            subst en
            have z17 := X17.size
            have Rw17 := Rw16.ext X17 fun g hg => (Rw16.bd hg).2
            have Rs17 := Rs16.ext X17 fun g hg => (Rs16.bd hg).2
            have Rq17 := Rq.ext X17 fun g hg => (Rq.bd hg).2
            have G1 := F1.ext X17 F1.lt
            have G2 := F2.ext X17 F2.lt
            have G7 := F7.ext X17 F7.lt
            have X017 := X016.trans (X17.mono X016.size)
            unfold ref15_Selector_l4b
            by_cases hn : n < 3
            · rw [if_pos (by simp; omega)]
              obtain ⟨a4, ha4, hc4⟩ := sv_at Rs17 (i := ((2 * m + 1 : Nat) : Int)) (by omega) (by rw [ia]; exact sa)
              refine ⟨a4, ha4, by omega, by rw [ls']; omega, ofL ps, hc4, bx0 fun h18 B36 X18 => ⟨(cellH_of (X18.block _ (cellH_lt hc4))).trans hc4, ?_⟩⟩
              have z18 := X18.size
              obtain ⟨sgn', hsg, ecmp, estep⟩ : ∃ x : Tx, ([.string (⟨#[61]⟩ : ByteArray), .string (⟨#[33, 61]⟩ : ByteArray), .string (⟨#[94, 61]⟩ : ByteArray)] : List Value)[n]? = some (.string (ofL x)) ∧ (ps = x → (n : Int) = (if ps = [61] ∧ 0 < n + 1 then 0 else if ps = [33, 61] ∧ 1 < n + 1 then 1 else if ps = [94, 61] ∧ 2 < n + 1 then 2 else -1)) ∧ (ps ≠ x → sg9 = (if ps = [61] ∧ 0 < n + 1 then 0 else if ps = [33, 61] ∧ 1 < n + 1 then 1 else if ps = [94, 61] ∧ 2 < n + 1 then 2 else -1)) := by
                have : n = 0 ∨ n = 1 ∨ n = 2 := by omega
                rcases this with rfl | rfl | rfl
                · exact ⟨[61], rfl, fun e => by rw [e]; rfl, fun e => by rw [es9]; simp [e]⟩
                · exact ⟨[33, 61], rfl, fun e => by rw [e]; rfl, fun e => by rw [es9]; simp [e]⟩
                · exact ⟨[94, 61], rfl, fun e => by rw [e]; rfl, fun e => by rw [es9]; simp [e]⟩
              refine ⟨_, rfl, by omega, by show (n : Int) < 3; omega, ofL sgn', B36.cl (by rw [Nat.mul_one, Int.toNat_natCast]; exact hsg), ?_⟩
              rw [bq]
              have j5 : ∀ (N3 : Int → Heap → Prop) (v : Int), v = (if ps = [61] ∧ 0 < n + 1 then 0 else if ps = [33, 61] ∧ 1 < n + 1 then 1 else if ps = [94, 61] ∧ 2 < n + 1 then 2 else -1) → ref15_Selector_j5 ⟨h.size, 0, none⟩ ⟨h2.size, 0, none⟩ sw ss ⟨h7.size, 0, none⟩ ((2 * m + 1 : Nat) : Int) (n : Int) v k N3 (fun q h' => (∃ n : Nat, q.2 = (n : Int) ∧ n ≤ 3 ∧ Ext h16.size h16 h' ∧ q.1 = (if ps = [61] ∧ 0 < n then 0 else if ps = [33, 61] ∧ 1 < n then 1 else if ps = [94, 61] ∧ 2 < n then 2 else -1)) ∧ 3 - q.2.toNat < 3 - ((n : Nat) : Int).toNat) h18 := fun N3 v hv => by
                unfold ref15_Selector_j5
                refine ⟨_, rfl, ?_⟩
                rw [wrapI64 (by omega) (by omega)]
                exact ⟨⟨n + 1, by dsimp only; omega, by omega, X17.trans (X18.mono z17), hv⟩, by dsimp only; omega⟩
              by_cases he : ps = sgn'
              · rw [if_pos (by simpa using he)]
                exact j5 _ _ (ecmp he)
              · rw [if_neg (by simpa using he)]
                exact j5 _ _ (estep he)
            · rw [if_neg (by simp; omega)]
              have n3' : n = 3 := by omega
              subst n3'
              have e9 : sg9 = sgI ps := by
                rw [es9]; unfold sgI sgn
                by_cases h0 : ps = [61]
                · simp [h0]
                · by_cases h1 : ps = [33, 61]
                  · simp [h1]
                  · by_cases h2 : ps = [94, 61]
                    · simp [h2]
                    · simp [h0, h1, h2]
              have fail : selU l = none → ∀ h', Ext h17.size h17 h' → ref15_Selector_g9 ⟨h.size, 0, none⟩ ⟨h2.size, 0, none⟩ sw ss ⟨h7.size, 0, none⟩ ((2 * m + 1 : Nat) : Int) sg9 true k (fun i h' => (∃ (m : Nat) (qs : List QU) (s : Slc), i = (2 * m + 1 : Nat) ∧ 2 * m ≤ P.length ∧ Blk h' h.size (S_api_Selector.cs zSel) 53 ∧ Blk h' h2.size (S_api_Selector.cs zSel) 53 ∧ Blk h' h7.size (S_api_Selector.cs ⟨ofL w0, s⟩) 53 ∧ Row h15.size h' 86 3 s (qs.flatMap qcs) ∧ s.len = qs.length ∧ qs.length = m ∧ Row h5.size h' 9 1 sw (sv (w0 :: P.map (·.1))) ∧ Row h5.size h' 9 1 ss (sv (s0 :: P.map (·.2))) ∧ Ext h.size h h' ∧ h15.size ≤ h'.size ∧ ((P.drop (2 * m) ≠ [] ∧ chkP P = (chkP (P.drop (2 * m))).map (qs ++ ·)) ∨ (P.drop (2 * m) = [] ∧ chkP P = some qs))) ∧ (P.length + 1) - i.toNat < (P.length + 1) - ((2 * m + 1 : Nat) : Int).toNat) (fun q h' => (∃ n : Nat, q.2 = (n : Int) ∧ n ≤ 3 ∧ Ext h16.size h16 h' ∧ q.1 = (if ps = [61] ∧ 0 < n then 0 else if ps = [33, 61] ∧ 1 < n then 1 else if ps = [94, 61] ∧ 2 < n then 2 else -1)) ∧ 3 - q.2.toNat < 3 - ((3 : Nat) : Int).toNat) h' := fun e h' X' => by
                unfold ref15_Selector_g9
                rw [if_pos rfl]
                exact bad h' (G1.ext X' G1.lt) (G2.ext X' G2.lt) (X017.trans (X'.mono X017.size)) e
              have none' : chkP P = none → selU l = none := fun e => by rw [← e2, e]; rfl
              have j6 : ∀ (et : Tx) (p : ByteArray), p = ofL et → et = (if (P.drop (2 * (m + 1))).isEmpty = true then [125] else [44]) → ref15_Selector_j6 ⟨h.size, 0, none⟩ ⟨h2.size, 0, none⟩ sw ss ⟨h7.size, 0, none⟩ ((2 * m + 1 : Nat) : Int) sg9 p k (fun i h' => (∃ (m : Nat) (qs : List QU) (s : Slc), i = (2 * m + 1 : Nat) ∧ 2 * m ≤ P.length ∧ Blk h' h.size (S_api_Selector.cs zSel) 53 ∧ Blk h' h2.size (S_api_Selector.cs zSel) 53 ∧ Blk h' h7.size (S_api_Selector.cs ⟨ofL w0, s⟩) 53 ∧ Row h15.size h' 86 3 s (qs.flatMap qcs) ∧ s.len = qs.length ∧ qs.length = m ∧ Row h5.size h' 9 1 sw (sv (w0 :: P.map (·.1))) ∧ Row h5.size h' 9 1 ss (sv (s0 :: P.map (·.2))) ∧ Ext h.size h h' ∧ h15.size ≤ h'.size ∧ ((P.drop (2 * m) ≠ [] ∧ chkP P = (chkP (P.drop (2 * m))).map (qs ++ ·)) ∨ (P.drop (2 * m) = [] ∧ chkP P = some qs))) ∧ (P.length + 1) - i.toNat < (P.length + 1) - ((2 * m + 1 : Nat) : Int).toNat) (fun q h' => (∃ n : Nat, q.2 = (n : Int) ∧ n ≤ 3 ∧ Ext h16.size h16 h' ∧ q.1 = (if ps = [61] ∧ 0 < n then 0 else if ps = [33, 61] ∧ 1 < n then 1 else if ps = [94, 61] ∧ 2 < n then 2 else -1)) ∧ 3 - q.2.toNat < 3 - ((3 : Nat) : Int).toNat) h17 := fun et p ep eet => by
                unfold ref15_Selector_j6
                cases hs : sgn ps with
                | none =>
                  have e9' : sg9 = -1 := by rw [e9]; unfold sgI; rw [hs]
                  have ch : chkP P = none := by rw [ec]; unfold chkP; rw [hs]; rfl
                  rw [e9', if_pos (by decide)]
                  unfold ref15_Selector_g7 ref15_Selector_g8
                  rw [if_pos rfl, if_pos rfl]
                  rw [← e9']
                  exact fail (none' ch) h17 (Ext.refl _ _)
                | some kk =>
                  have e9' : sg9 = kk := by rw [e9]; unfold sgI; rw [hs]
                  have k0 : 0 ≤ kk := by rcases sgn_cases hs with ⟨_, e⟩ | ⟨_, e⟩ | ⟨_, e⟩ <;> omega
                  rw [if_neg (by rw [decide_eq_true_eq]; omega)]
                  obtain ⟨a5, ha5, hc5⟩ := sv_at Rs17 (i := ((2 * m + 2 : Nat) : Int)) (by omega) (by rw [Int.toNat_natCast]; exact sb)
                  rw [ib]
                  refine ⟨a5, ha5, by omega, by rw [ls']; omega, ofL pe, hc5, ?_⟩
                  rw [ofL_beq pe p et ep]
                  have ch : ¬ (pe = et ∧ wordU pa = true ∧ wordU pb = true) → chkP P = none := fun hh => by
                    rw [ec]; unfold chkP; rw [hs]; dsimp only
                    rw [if_neg (by rw [← eet]; exact hh)]; rfl
                  unfold ref15_Selector_g7
                  by_cases hpe : pe = et
                  rotate_left
                  · rw [if_pos (by simp [hpe])]
                    unfold ref15_Selector_g8
                    rw [if_pos rfl]
                    exact fail (none' (ch fun h => hpe h.1)) h17 (Ext.refl _ _)
                  rw [if_neg (by simp [hpe])]
                  obtain ⟨a6, ha6, hc6⟩ := sv_at Rw17 (i := ((2 * m + 1 : Nat) : Int)) (by omega) (by rw [ia]; exact wa)
                  refine ⟨a6, ha6, by omega, by rw [lw]; omega, ofL pa, hc6, RWord_ok ?_⟩
                  unfold ref15_Selector_g8
                  cases hwa : wordU pa with
                  | false =>
                    rw [if_pos (by simp)]
                    exact fail (none' (ch fun h => by rw [hwa] at h; cases h.2.1)) h17 (Ext.refl _ _)
                  | true =>
                  rw [if_neg (by simp), ib]
                  obtain ⟨a7, ha7, hc7⟩ := sv_at Rw17 (i := ((2 * m + 2 : Nat) : Int)) (by omega) (by rw [Int.toNat_natCast]; exact wb)
                  refine ⟨a7, ha7, by omega, by rw [lw]; omega, ofL pb, hc7, RWord_ok ?_⟩
                  cases hwb : wordU pb with
                  | false => exact fail (none' (ch fun h => by rw [hwb] at h; cases h.2.2)) h17 (Ext.refl _ _)
                  | true =>
                  unfold ref15_Selector_g9
                  rw [if_neg (by simp), ib, ic]
                  have cell1 : cellH h17 ((⟨h7.size, 0, none⟩ : Addr).add 1) = some (Slc.v s) := G7.cl rfl
                  refine ⟨s, cell1, a6, ha6, by omega, by rw [lw]; omega, ofL pa, hc6, a7, ha7, by omega, by rw [lw]; omega, ofL pb, hc7, bx0 fun h50 B49 X50 => ⟨(G7.ext X50 G7.lt).cl rfl, ?_⟩⟩
                  have z50 := X50.size
                  refine app1 (Rq17.ext X50 fun g hg => (Rq17.bd hg).2) (by omega) rfl rfl (qrow_one (pa, sg9, pb)) (by omega) (by unfold maxLen; omega) fun s52 h53 R53 l53 X53 => ?_
                  have z53 := X53.size
                  have K7 : Blk h53 h7.size (S_api_Selector.cs ⟨ofL w0, s⟩) 53 := (G7.ext X50 G7.lt).ext X53 (by omega)
                  refine bset1 K7 (by show 1 < 2; decide) fun h54 B54 U54 => ?_
                  have z54 := U54.size
                  have X1754 : Ext h7.size h17 h54 := (X50.mono (by omega)).trans ((X53.mono (by omega)).trans (U54.ext (Nat.le_refl _) (by omega)))
                  have keepR : ∀ {sx : Slc} {xs : List Tx}, Row h5.size h17 9 1 sx (sv xs) → (∀ g, sx.blk = some g → g < h7.size) → Row h5.size h54 9 1 sx (sv xs) := fun {sx xs} R hg7 => R.keep fun g hg => X1754.block g (hg7 g hg)
                  refine ⟨_, rfl, ⟨m + 1, qs ++ [(pa, sg9, pb)], s52, rfl, by omega, U54.blk ((G1.ext X50 G1.lt).ext X53 (by omega)) (by omega), U54.blk ((G2.ext X50 G2.lt).ext X53 (by omega)) (by omega), B54, ?_, by rw [l53]; simp [ql], by simp [qm], keepR Rw17 (fun g hg => (Rw7.bd hg).2), keepR Rs17 (fun g hg => (Rs7.bd hg).2), X017.trans (X1754.mono (by omega)), by omega, ?_⟩, by omega⟩
                  · rw [List.flatMap_append]
                    have : Row h15.size h54 86 3 s52 (qs.flatMap qcs ++ qcs (pa, sg9, pb)) := R53.keep fun g hg => U54.block g (R53.bd hg).2 (by have := (R53.bd hg).1; omega)
                    simpa using this
                  · have cs : chkP ((pa, ps) :: (pb, pe) :: P.drop (2 * (m + 1))) = if (P.drop (2 * (m + 1))).isEmpty = true then some [(pa, kk, pb)] else (chkP (P.drop (2 * (m + 1)))).map ((pa, kk, pb) :: ·) := by
                      conv => lhs; unfold chkP
                      rw [hs]; dsimp only
                      rw [if_pos ⟨by rw [hpe, eet], hwa, hwb⟩]
                    rw [cs] at ec
                    rw [e9']
                    cases hd : P.drop (2 * (m + 1)) with
                    | nil =>
                      rw [hd] at ec
                      exact .inr ⟨rfl, by rw [ec]; rfl⟩
                    | cons x y =>
                      rw [hd] at ec
                      refine .inl ⟨by simp, ?_⟩
                      rw [ec, if_neg (by simp), Option.map_map]
                      congr 1
                      funext z
                      simp
              have dl : (P.drop (2 * (m + 1))).length = P.length - 2 * (m + 1) := List.length_drop
              rw [ic, lw]
              by_cases hend : 2 * (m + 1) ≥ P.length
              · rw [if_pos (by rw [decide_eq_true_eq]; omega)]
                exact j6 [125] _ rfl (by rw [if_pos (by rw [List.isEmpty_iff]; exact List.length_eq_zero_iff.1 (by omega))])
              · rw [if_neg (by rw [decide_eq_true_eq]; omega)]
                exact j6 [44] _ rfl (by rw [if_neg (by rw [List.isEmpty_iff]; intro e; rw [e] at dl; simp at dl; omega)])
    have g1 : ∀ b, b = decide (w0 ≠ [] ∧ wordU w0 = false) → ref15_Selector_g1 ⟨h.size, 0, none⟩ ⟨h2.size, 0, none⟩ sw ss ⟨h7.size, 0, none⟩ b k h15 := fun b hb => by
      unfold ref15_Selector_g1
      by_cases hw : w0 ≠ [] ∧ wordU w0 = false
      · rw [hb, if_pos (by simpa using hw)]
        exact bad h15 E1 E3 X015 (by rw [← esel, if_pos hw])
      · rw [hb, if_neg (by simpa using hw)]
        rw [if_neg hw] at esel
        rw [lw]
        cases P with
        | nil =>
          rw [if_pos (by simp)]
          rw [if_pos (by decide)] at esel
          obtain ⟨a3, ha3, hc3⟩ := sv_at Rs15 (i := 0) (Int.le_refl _) rfl
          refine ⟨a3, ha3, Int.le_refl _, by omega, ofL s0, hc3, ?_⟩
          rw [ofL_beq s0 ⟨#[]⟩ [] rfl]
          refine g2 _ (fun e => ?_) (fun e => ?_)
          · rw [← esel, if_neg (by simpa using e)]
          · rw [if_pos (by decide), ← esel, if_pos (by simpa using e)]
        | cons pw P' =>
          rw [if_neg (by simp; omega)]
          rw [if_neg (by simp)] at esel
          exact g2 false (fun e => by cases e) fun _ => by rw [if_neg (by simp)]; exact esel
    by_cases hw : w0 = []
    · rw [if_neg (by simp [hw])]
      exact g1 false (by simp [hw])
    · rw [if_pos (by simp [hw])]
      refine ⟨a2, ha2, Int.le_refl _, by omega, ofL w0, hc2, RWord_ok ?_⟩
      exact g1 _ (by cases wordU w0 <;> simp [hw])
end Go.Q.Yz
set_option linter.unusedVariables false
set_option linter.unusedSimpArgs false
set_option maxRecDepth 100000
/- The document's series and merged pieces, walked. -/
namespace Go.Q.Yz
open Go.Q.Rw
def lab (x : QU) : LU := (x.1, x.2.2)
theorem lrow_one (x : LU) : ∀ v ∈ lcs x, v.oneCell' = true := fun v hv => by
  simp [lcs, S_api_Label.cs, lst] at hv; rcases hv with rfl | rfl <;> rfl
theorem any_all : ∀ qs : List QU, (qs.any fun x => x.2.1 != 0) = !(qs.all fun x => decide (x.2.1 = 0))
  | [] => rfl
  | x :: r => by
    simp only [List.any_cons, List.all_cons, Bool.not_and, any_all r]
    by_cases e : x.2.1 = 0 <;> simp [e]
theorem RParse_ok {l : Tx} {k : S_api_Series × Bool → Heap → Prop} {h : Heap} (hl : l.length ≤ 100000000)
    (H0 : ∀ h', parseU l = none → Ext h.size h h' → k (zSer, false) h')
    (H1 : ∀ name ls s h', parseU l = some (name, ls) → Row h.size h' 103 2 s (ls.flatMap lcs) → s.len = ls.length → Ext h.size h h' → k (⟨ofL name, s⟩, true) h') : ref15_Parse (ofL l) k h := by
  unfold ref15_Parse
  refine bx0 fun h2 B1 X1 => ?_
  have z1 := X1.size
  have l1 := B1.lt
  have body : ∀ (okS : Bool) (name : Tx) (qs : List QU) (s : Slc) (h4 : Heap), Row h2.size h4 86 3 s (qs.flatMap qcs) → s.len = qs.length → qs.length ≤ 8 → Ext h2.size h2 h4 → (parseU l = if (okS && (qs.all fun x => decide (x.2.1 = 0)) && checkU name (qs.map lab)) = true then some (name, qs.map lab) else none) →
      ∃ (b5 : Nat) (h6 : Heap), b5 = h4.size ∧ h6 = h4.push (.cells (S_api_Selector.cs (⟨ByteArray.empty, (⟨none, 0, 0⟩ : Slc)⟩ : S_api_Selector)).toArray 53) ∧ (∃ h7 : Heap, WrsAt h6 (⟨b5, 0, none⟩ : Addr) 2 ∧ h7 = setsH h6 (⟨b5, 0, none⟩ : Addr) 0 (S_api_Selector.cs ⟨ofL name, s⟩) ∧ (∃ v8 : ByteArray, cellH h7 (⟨b5, 0, none⟩ : Addr) = some (.string v8) ∧ (∃ (b9 : Nat) (h10 : Heap), b9 = h7.size ∧ h10 = h7.push (.cells (S_api_Series.cs (⟨ByteArray.empty, (⟨none, 0, 0⟩ : Slc)⟩ : S_api_Series)).toArray 62) ∧ (∃ h11 : Heap, WrsAt h10 (⟨b9, 0, none⟩ : Addr) 2 ∧ h11 = setsH h10 (⟨b9, 0, none⟩ : Addr) 0 (S_api_Series.cs (⟨v8, (⟨none, 0, 0⟩ : Slc)⟩ : S_api_Series)) ∧ (ref15_Parse_l1 (⟨h.size, 0, none⟩ : Addr) (⟨b5, 0, none⟩ : Addr) (⟨b9, 0, none⟩ : Addr) okS 0 k h11))))) := fun okS name qs s h4 Rq ql q8 X4 ep => by
    have z4 := X4.size
    have C1 := B1.ext X4 l1
    refine bx rfl (Nat.le_refl _) fun h7 B5 X7 => ⟨ofL name, B5.cl0 rfl, bx rfl (Nat.le_refl _) fun h11 B9 X11 => ?_⟩
    have z7 := X7.size
    have z11 := X11.size
    have l5 := B5.lt
    have l9 := B9.lt
    have X411 : Ext h4.size h4 h11 := X7.trans (X11.mono z7)
    unfold ref15_Parse_l1
    refine ⟨fun q h' => ∃ (i : Nat) (ls : Slc), q.2 = (i : Int) ∧ i ≤ qs.length ∧ q.1 = (okS && (qs.take i).all fun x => decide (x.2.1 = 0)) ∧ Ext h4.size h4 h' ∧ Blk h' h4.size (S_api_Selector.cs ⟨ofL name, s⟩) 53 ∧ Blk h' h7.size (S_api_Series.cs ⟨ofL name, ls⟩) 62 ∧ Row h11.size h' 103 2 ls (((qs.take i).map lab).flatMap lcs) ∧ ls.len = i ∧ h11.size ≤ h'.size, fun q _ => qs.length - q.2.toNat,
      ⟨0, ⟨none, 0, 0⟩, rfl, by omega, by simp, X411, B5.ext X11 l5, B9, Row.nil _ _ _ _, rfl, Nat.le_refl _⟩, ?_⟩
    rintro ok ii h12 ⟨i, ls, ei, il, eo, X12, D5, D9, Rl, ll, z12⟩
    dsimp only at ei eo
    subst ei; subst eo
    have zz := X12.size
    have X012 : Ext h.size h h12 := X1.trans ((X4.mono z1).trans (X12.mono (by omega)))
    have Rq12 := Rq.ext X12 fun g hg => (Rq.bd hg).2
    have E1 := C1.ext X12 C1.lt
    unfold ref15_Parse_l1b
    refine ⟨s, D5.cl rfl, ?_⟩
    rw [ql]
    by_cases hi : i < qs.length
    · rw [if_pos (by simp; omega)]
      obtain ⟨x, hx⟩ : ∃ x, qs[i]? = some x := ⟨_, List.getElem?_eq_getElem hi⟩
      have Lq : LsAt S_api_Question.cs 3 h12 s (qs.map qst) := lsOf scs3_len (by decide) Rq12 ql
      obtain ⟨a, ha, hc⟩ := Lq.at' i (qst x) (by rw [List.getElem?_map, hx]; rfl)
      have tk : qs.take (i + 1) = qs.take i ++ [x] := by
        obtain ⟨h1, h2⟩ := List.getElem?_eq_some_iff.1 hx
        rw [List.take_succ_eq_append_getElem h1, h2]
      have lt : ((i : Nat) : Int) < (s.len : Int) := by rw [ql]; omega
      have g2 : ∀ b, b = (okS && (qs.take (i + 1)).all fun x => decide (x.2.1 = 0)) → ref15_Parse_g2 ⟨h.size, 0, none⟩ ⟨h4.size, 0, none⟩ ⟨h7.size, 0, none⟩ (i : Int) b k (fun q h' => (∃ (i : Nat) (ls : Slc), q.2 = (i : Int) ∧ i ≤ qs.length ∧ q.1 = (okS && (qs.take i).all fun x => decide (x.2.1 = 0)) ∧ Ext h4.size h4 h' ∧ Blk h' h4.size (S_api_Selector.cs ⟨ofL name, s⟩) 53 ∧ Blk h' h7.size (S_api_Series.cs ⟨ofL name, ls⟩) 62 ∧ Row h11.size h' 103 2 ls (((qs.take i).map lab).flatMap lcs) ∧ ls.len = i ∧ h11.size ≤ h'.size) ∧ qs.length - q.2.toNat < qs.length - ((i : Nat) : Int).toNat) h12 := fun b hb => by
        unfold ref15_Parse_g2
        refine ⟨ls, D9.cl rfl, s, D5.cl rfl, a, ha, by omega, lt, ofL x.1, by rw [Int.toNat_natCast]; exact cls0 hc rfl, s, D5.cl rfl, a, ha, by omega, lt, ofL x.2.2, by rw [Int.toNat_natCast]; exact hc 2 _ rfl, bx0 fun h21 B20 X21 => ⟨(D9.ext X21 D9.lt).cl rfl, ?_⟩⟩
        have z21 := X21.size
        refine app1 (Rl.ext X21 fun g hg => (Rl.bd hg).2) (by omega) rfl rfl (lrow_one (lab x)) (by omega) (by unfold maxLen; omega) fun s23 h24 R24 l24 X24 => ?_
        have z24 := X24.size
        have K9 : Blk h24 h7.size (S_api_Series.cs ⟨ofL name, ls⟩) 62 := (D9.ext X21 D9.lt).ext X24 (by omega)
        refine bset1 K9 (by show 1 < 2; decide) fun h25 F9 U => ?_
        have z25 := U.size
        refine ⟨_, rfl, ⟨i + 1, s23, by dsimp only; rw [wrapI64 (by omega) (by omega)]; omega, by omega, hb, X12.trans ((X21.mono zz).trans ((X24.mono (by omega)).trans (U.ext (by omega) (by omega)))), U.blk ((D5.ext X21 D5.lt).ext X24 (by omega)) (by omega), F9, ?_, by rw [l24, ll], by omega⟩, by dsimp only; rw [wrapI64 (by omega) (by omega)]; omega⟩
        rw [tk, List.map_append, List.flatMap_append]
        have this : Row h11.size h25 103 2 s23 (((qs.take i).map lab).flatMap lcs ++ lcs (lab x)) := R24.keep (h' := h25) fun g hg => U.block g (R24.bd hg).2 (by have := (R24.bd hg).1; omega)
        simpa using this
      cases ho : (okS && (qs.take i).all fun x => decide (x.2.1 = 0)) with
      | true =>
        rw [if_pos rfl]
        refine ⟨s, D5.cl rfl, a, ha, by omega, lt, x.2.1, by rw [Int.toNat_natCast]; exact hc 1 _ rfl, g2 _ ?_⟩
        rw [tk, List.all_append, ← Bool.and_assoc, ho]
        simp
        by_cases e : x.2.1 = 0 <;> simp [e]
      | false =>
        rw [if_neg (by simp)]
        refine g2 _ ?_
        rw [tk, List.all_append, ← Bool.and_assoc, ho]; rfl
    · rw [if_neg (by simp; omega)]
      rw [List.take_of_length_le (by omega)] at Rl ⊢
      have g3t : parseU l = none → ∀ h', Ext h12.size h12 h' → ref15_Parse_g3 ⟨h.size, 0, none⟩ ⟨h7.size, 0, none⟩ true k (fun q h' => (∃ (i : Nat) (ls : Slc), q.2 = (i : Int) ∧ i ≤ qs.length ∧ q.1 = (okS && (qs.take i).all fun x => decide (x.2.1 = 0)) ∧ Ext h4.size h4 h' ∧ Blk h' h4.size (S_api_Selector.cs ⟨ofL name, s⟩) 53 ∧ Blk h' h7.size (S_api_Series.cs ⟨ofL name, ls⟩) 62 ∧ Row h11.size h' 103 2 ls (((qs.take i).map lab).flatMap lcs) ∧ ls.len = i ∧ h11.size ≤ h'.size) ∧ qs.length - q.2.toNat < qs.length - ((i : Nat) : Int).toNat) h' := fun e h' X' => by
        unfold ref15_Parse_g3
        rw [if_pos rfl]
        refine bset (E1.ext X' E1.lt) rfl (Nat.le_refl _) fun h'' F U => ⟨_, CellsAt.of_blk F, H0 h'' e (X012.trans ((X'.mono X012.size).trans (U.ext (Nat.le_refl _) (by have := X'.size; have := X012.size; omega))))⟩
      cases ho : (okS && qs.all fun x => decide (x.2.1 = 0)) with
      | false =>
        rw [if_pos (by simp)]
        rw [ho] at ep
        exact g3t ep h12 (Ext.refl _ _)
      | true =>
        rw [if_neg (by simp)]
        rw [ho, Bool.true_and] at ep
        have Ll : LsAt S_api_Label.cs 2 h12 ls ((qs.map lab).map lst) := by
          refine lsOf labcs_len (by decide) (f := lst) (B := h11.size) (E := 103) (xs := qs.map lab) ?_ (by rw [ll]; simp; omega)
          exact Rl
        refine ⟨⟨ofL name, ls⟩, CellsAt.of_blk D9, RCheck_ok Ll fun h13 X13 => ?_⟩
        have z13 := X13.size
        cases hc : checkU name (qs.map lab) with
        | false =>
          rw [hc] at ep
          exact g3t ep h13 X13
        | true =>
          rw [hc, if_pos rfl] at ep
          unfold ref15_Parse_g3
          rw [if_neg (by simp)]
          refine ⟨⟨ofL name, ls⟩, (CellsAt.of_blk D9).ext X13, bset (E1.ext X13 E1.lt) rfl (Nat.le_refl _) fun h'' F U => ⟨_, CellsAt.of_blk F, ?_⟩⟩
          have X013 : Ext h.size h h13 := X012.trans (X13.mono X012.size)
          have := X013.size
          refine H1 name (qs.map lab) ls h'' ep ?_ (by rw [ll]; simp; omega) (X013.trans (U.ext (Nat.le_refl _) (by omega)))
          have R13 := Rl.ext X13 fun g hg => (Rl.bd hg).2
          exact (R13.keep fun g hg => U.block g (R13.bd hg).2 (by have := (R13.bd hg).1; omega)).mono (by omega)
  refine RSelector_ok hl (fun h4 e X4 => ?_) (fun name qs s h4 e R rl X4 => ?_)
  · have := body false [] [] ⟨none, 0, 0⟩ h4 (Row.nil _ _ _ _) rfl (by simp) X4 (by unfold parseU; rw [e]; rfl)
    exact this
  · have q8 := (sel_len e).2.2
    refine body true name qs s h4 R rl q8 X4 ?_
    unfold parseU
    rw [e]
    dsimp only
    rw [any_all qs]
    have em : (qs.map fun x => (x.1, x.2.2)) = qs.map lab := rfl
    rw [em]
    cases (qs.all fun x => decide (x.2.1 = 0)) <;> cases checkU name (qs.map lab) <;> rfl
/-! merged pieces -/
def placeLt (a p : Pc) : Bool := Op.bytesLess a.f_Series.toList p.f_Series.toList || ((a.f_Series.toList == p.f_Series.toList) && decide (a.f_T < p.f_T))
def insR (out : List Pc) (p : Pc) : List Pc :=
  let n := (out.takeWhile fun a => placeLt a p).length
  match out[n]? with
  | some q => if plc q = plc p then (if ordP p q > 0 then out.set n p else out) else out.take n ++ p :: out.drop n
  | none => out.take n ++ p :: out.drop n
def mrgR (l : List Pc) : List Pc := l.foldl (fun out p => if okP p = true then insR out p else out) []
theorem placeLt_iff (a p : Pc) : placeLt a p = true ↔ ltP a p := by
  unfold placeLt ltP
  rw [cS_eq, Go.Proofs.bytesLess_eq]
  simp only [Bool.or_eq_true, Bool.and_eq_true, decide_eq_true_eq, beq_iff_eq]
  constructor
  · rintro (h | ⟨h1, h2⟩)
    · left; rw [if_pos h]; decide
    · exact .inr ⟨ba_ext h1, h2⟩
  · rintro (h | ⟨h1, h2⟩)
    · left
      split at h
      · assumption
      · split at h <;> omega
    · exact .inr ⟨by rw [h1], h2⟩
theorem ltP_tr {a b c : Pc} (h1 : ltP a b) (h2 : ltP b c) : ltP a c := by
  have t := good_S.tr a.f_Series b.f_Series c.f_Series
  have t2 := good_S.tr c.f_Series a.f_Series b.f_Series
  have t3 := good_S.tr b.f_Series c.f_Series a.f_Series
  have n1 := good_S.anti a.f_Series b.f_Series
  have n2 := good_S.anti b.f_Series c.f_Series
  have n3 := good_S.anti a.f_Series c.f_Series
  rcases h1 with h1 | ⟨e1, h1⟩ <;> rcases h2 with h2 | ⟨e2, h2⟩
  · left; omega
  · left; rw [← e2]; exact h1
  · left; rw [e1]; exact h2
  · exact .inr ⟨e1.trans e2, by omega⟩
theorem ltP_tri (a b : Pc) : ltP a b ∨ plc a = plc b ∨ ltP b a := by
  have n := good_S.anti a.f_Series b.f_Series
  by_cases e : cS a.f_Series b.f_Series = 0
  · have es := cS_zero e
    rcases Int.lt_trichotomy a.f_T b.f_T with h | h | h
    · exact .inl (.inr ⟨es, h⟩)
    · exact .inr (.inl (by unfold plc; rw [es, h]))
    · exact .inr (.inr (.inr ⟨es.symm, h⟩))
  · by_cases h : cS a.f_Series b.f_Series < 0
    · exact .inl (.inl h)
    · exact .inr (.inr (.inl (by omega)))
theorem plc_lt {a b c : Pc} (e : plc a = plc b) : (ltP a c ↔ ltP b c) ∧ (ltP c a ↔ ltP c b) := by
  unfold plc at e
  injection e with e1 e2
  unfold ltP
  rw [e1, e2]
  exact ⟨Iff.rfl, Iff.rfl⟩
theorem ltP_plc {a b : Pc} (h : ltP a b) : plc a ≠ plc b := fun e => ltP_irr b ((plc_lt e).1.1 h)
/-- of the pieces so far -/
theorem IsMrg.step {pre out : List Pc} (I : IsMrg pre out) (p : Pc) : IsMrg (pre ++ [p]) (if okP p = true then insR out p else out) := by
  have mem2 : ∀ {y}, y ∈ pre ++ [p] ↔ y ∈ pre ∨ y = p := fun {y} => by simp
  by_cases ok : okP p = true
  rotate_left
  · rw [if_neg ok]
    refine ⟨I.srt, fun z => ?_⟩
    rw [I.mem]
    constructor
    · rintro ⟨a, b, c⟩
      exact ⟨mem2.2 (.inl a), b, fun y hy o e => (mem2.1 hy).elim (fun h => c y h o e) fun h => absurd (h ▸ o) ok⟩
    · rintro ⟨a, b, c⟩
      exact ⟨(mem2.1 a).elim id fun h => absurd (h ▸ b) ok, b, fun y hy => c y (mem2.2 (.inl hy))⟩
  rw [if_pos ok]
  -- where it stands
  obtain ⟨n, en⟩ : ∃ n, n = (out.takeWhile fun a => placeLt a p).length := ⟨_, rfl⟩
  have sp : out.takeWhile (fun a => placeLt a p) = out.take n ∧ out.dropWhile (fun a => placeLt a p) = out.drop n := by
    have e := List.takeWhile_append_dropWhile (p := fun a => placeLt a p) (l := out)
    constructor
    · conv => rhs; rw [← e, en, List.take_left]
    · conv => rhs; rw [← e, en, List.drop_left]
  have lo : ∀ a ∈ out.take n, ltP a p := fun a ha => by
    rw [← sp.1] at ha
    exact (placeLt_iff a p).1 (List.all_eq_true.1 List.all_takeWhile a ha)
  have hd : ∀ q, out[n]? = some q → ¬ ltP q p := fun q hq hlt => by
    have : out.drop n = q :: out.drop (n + 1) := by
      obtain ⟨h1, h2⟩ := List.getElem?_eq_some_iff.1 hq
      rw [List.drop_eq_getElem_cons h1, h2]
    rw [← sp.2] at this
    have key : ∀ {l : List Pc} {q r}, l.dropWhile (fun a => placeLt a p) = q :: r → placeLt q p = false := fun {l} => by
      induction l with
      | nil => intro q r h; cases h
      | cons x l ih =>
        intro q r h
        rw [List.dropWhile_cons] at h
        split at h
        · exact ih h
        · rename_i hx; cases h; simpa using hx
    have := key this
    rw [(placeLt_iff q p).2 hlt] at this; cases this
  have splitO := List.take_append_drop n out
  have srt := I.srt
  rw [← splitO] at srt
  have sA := List.pairwise_append.1 srt
  unfold insR
  dsimp only
  rw [← en]
  -- pieces at its place
  have insert : (∀ y ∈ out, plc y ≠ plc p) → (∀ q, out[n]? = some q → ltP p q) → IsMrg (pre ++ [p]) (out.take n ++ p :: out.drop n) := fun np gt => by
    have hi : ∀ b ∈ out.drop n, ltP p b := fun b hb => by
      cases hdr : out.drop n with
      | nil => rw [hdr] at hb; cases hb
      | cons q r =>
        have hq : out[n]? = some q := by
          have := congrArg (·[0]?) hdr
          simpa [List.getElem?_drop] using this
        have g := gt q hq
        rw [hdr] at hb sA
        rcases List.mem_cons.1 hb with rfl | hb
        · exact g
        · exact ltP_tr g ((List.pairwise_cons.1 sA.2.1).1 b hb)
    refine ⟨?_, fun z => ?_⟩
    · rw [List.pairwise_append]
      refine ⟨sA.1, List.pairwise_cons.2 ⟨hi, sA.2.1⟩, fun a ha b hb => ?_⟩
      rcases List.mem_cons.1 hb with rfl | hb
      · exact lo a ha
      · exact sA.2.2 a ha b hb
    · have mo : z ∈ out.take n ++ p :: out.drop n ↔ z ∈ out ∨ z = p := by
        rw [List.mem_append, List.mem_cons]
        conv => rhs; rw [← splitO, List.mem_append]
        constructor
        · rintro (h | h | h)
          · exact .inl (.inl h)
          · exact .inr h
          · exact .inl (.inr h)
        · rintro ((h | h) | h)
          · exact .inl h
          · exact .inr (.inr h)
          · exact .inr (.inl h)
      rw [mo]
      have nop : ∀ y ∈ pre, okP y = true → plc y ≠ plc p := fun y hy oy e => by
        -- then something of that place was there
        have ex : ∀ (l : List Pc), (∃ y ∈ l, okP y = true ∧ plc y = plc p) → ∃ z ∈ l, okP z = true ∧ plc z = plc p ∧ ∀ y ∈ l, okP y = true → plc y = plc p → ordP y z ≤ 0 := fun l => by
          induction l with
          | nil => rintro ⟨y, hy, _⟩; cases hy
          | cons x l ih =>
            intro _
            by_cases hx : okP x = true ∧ plc x = plc p
            · by_cases hr : ∃ y ∈ l, okP y = true ∧ plc y = plc p
              · obtain ⟨z, z1, z2, z3, z4⟩ := ih hr
                by_cases hxz : ordP x z ≤ 0
                · exact ⟨z, List.mem_cons_of_mem _ z1, z2, z3, fun y hy o e => by
                    rcases List.mem_cons.1 hy with rfl | hy
                    · exact hxz
                    · exact z4 y hy o e⟩
                · refine ⟨x, List.mem_cons_self, hx.1, hx.2, fun y hy o e => ?_⟩
                  rcases List.mem_cons.1 hy with rfl | hy
                  · rw [ordP_self]; exact Int.le_refl _
                  · have := good_O.anti x z
                    exact good_O.tr y z x (z4 y hy o e) (by omega)
              · refine ⟨x, List.mem_cons_self, hx.1, hx.2, fun y hy o e => ?_⟩
                rcases List.mem_cons.1 hy with rfl | hy
                · rw [ordP_self]; exact Int.le_refl _
                · exact absurd ⟨y, hy, o, e⟩ hr
            · rename_i hh
              obtain ⟨y, hy, o, e⟩ := hh
              have hy2 : y ∈ l := (List.mem_cons.1 hy).resolve_left fun h => hx (h ▸ ⟨o, e⟩)
              obtain ⟨z, z1, z2, z3, z4⟩ := ih ⟨y, hy2, o, e⟩
              exact ⟨z, List.mem_cons_of_mem _ z1, z2, z3, fun y hy o e => by
                rcases List.mem_cons.1 hy with rfl | hy
                · exact absurd ⟨o, e⟩ hx
                · exact z4 y hy o e⟩
        obtain ⟨z, z1, z2, z3, z4⟩ := ex pre ⟨y, hy, oy, e⟩
        exact np z ((I.mem z).2 ⟨z1, z2, fun y hy o e => z4 y hy o (e.trans z3)⟩) z3
      constructor
      · rintro (h | rfl)
        · obtain ⟨a, b, c⟩ := (I.mem z).1 h
          exact ⟨mem2.2 (.inl a), b, fun y hy o e => (mem2.1 hy).elim (fun h => c y h o e) fun h2 => absurd (h2 ▸ e.symm) (np z h)⟩
        · exact ⟨mem2.2 (.inr rfl), ok, fun y hy o e => (mem2.1 hy).elim (fun h => absurd e (nop y h o)) fun h2 => by rw [h2, ordP_self]; exact Int.le_refl _⟩
      · rintro ⟨a, b, c⟩
        rcases mem2.1 a with a | rfl
        · exact .inl ((I.mem z).2 ⟨a, b, fun y hy => c y (mem2.2 (.inl hy))⟩)
        · exact .inr rfl
  have fromTri : ∀ q, out[n]? = some q → plc q ≠ plc p → ltP p q := fun q hq hne => (ltP_tri p q).resolve_right fun h => h.elim (fun e => hne e.symm) (hd q hq)
  have others : (∀ q, out[n]? = some q → plc q ≠ plc p) → ∀ y ∈ out, plc y ≠ plc p := fun hne y hy e => by
    rw [← splitO, List.mem_append] at hy
    rcases hy with hy | hy
    · exact ltP_plc (lo y hy) e
    · cases hdr : out.drop n with
      | nil => rw [hdr] at hy; cases hy
      | cons q r =>
        have hq : out[n]? = some q := by
          have := congrArg (·[0]?) hdr
          simpa [List.getElem?_drop] using this
        have g := fromTri q hq (hne q hq)
        rw [hdr] at hy sA
        rcases List.mem_cons.1 hy with rfl | hy
        · exact hne y hq e
        · exact ltP_plc (ltP_tr g ((List.pairwise_cons.1 sA.2.1).1 y hy)) e.symm
  cases hq : out[n]? with
  | none =>
    dsimp only
    exact insert (others fun q h => by rw [hq] at h; cases h) fun q h => by rw [hq] at h; cases h
  | some q =>
    dsimp only
    by_cases hp : plc q = plc p
    rotate_left
    · rw [if_neg hp]
      exact insert (others fun q' h => by rw [hq] at h; cases h; exact hp) fun q' h => by rw [hq] at h; cases h; exact fromTri q hq hp
    rw [if_pos hp]
    obtain ⟨nl', eq'⟩ := List.getElem?_eq_some_iff.1 hq
    have dn : out.drop n = q :: out.drop (n + 1) := by rw [List.drop_eq_getElem_cons nl', eq']
    have qo : q ∈ out := List.mem_of_getElem? hq
    obtain ⟨q1, q2, q3⟩ := (I.mem q).1 qo
    have hiq : ∀ b ∈ out.drop (n + 1), ltP q b := fun b hb => by
      rw [dn] at sA
      exact (List.pairwise_cons.1 sA.2.1).1 b hb
    by_cases ho : ordP p q > 0
    · rw [if_pos ho]
      have es : out.set n p = out.take n ++ p :: out.drop (n + 1) := by rw [List.set_eq_take_append_cons_drop, if_pos nl']
      rw [es]
      rw [dn] at sA
      refine ⟨?_, fun z => ?_⟩
      · rw [List.pairwise_append]
        refine ⟨sA.1, List.pairwise_cons.2 ⟨fun b hb => (plc_lt hp).1.1 (hiq b hb), (List.pairwise_cons.1 sA.2.1).2⟩, fun a ha b hb => ?_⟩
        rcases List.mem_cons.1 hb with rfl | hb
        · exact lo a ha
        · exact sA.2.2 a ha b (List.mem_cons_of_mem _ hb)
      · have mo : z ∈ out.take n ++ p :: out.drop (n + 1) ↔ (z ∈ out ∧ plc z ≠ plc p) ∨ z = p := by
          rw [List.mem_append, List.mem_cons]
          have so : z ∈ out ↔ z ∈ out.take n ∨ z = q ∨ z ∈ out.drop (n + 1) := by
            conv => lhs; rw [← splitO, dn, List.mem_append, List.mem_cons]
          constructor
          · rintro (h | h | h)
            · exact .inl ⟨so.2 (.inl h), ltP_plc (lo z h)⟩
            · exact .inr h
            · exact .inl ⟨so.2 (.inr (.inr h)), fun e => ltP_plc (hiq z h) (hp.trans e.symm)⟩
          · rintro (⟨h, hn⟩ | h)
            · rcases so.1 h with h | h | h
              · exact .inl h
              · exact absurd (h ▸ hp) hn
              · exact .inr (.inr h)
            · exact .inr (.inl h)
        rw [mo]
        constructor
        · rintro (⟨h, hn⟩ | rfl)
          · obtain ⟨a, b, c⟩ := (I.mem z).1 h
            exact ⟨mem2.2 (.inl a), b, fun y hy o e => (mem2.1 hy).elim (fun h => c y h o e) fun h2 => absurd (h2 ▸ e.symm) hn⟩
          · refine ⟨mem2.2 (.inr rfl), ok, fun y hy o e => (mem2.1 hy).elim (fun h => ?_) fun h2 => by rw [h2, ordP_self]; exact Int.le_refl _⟩
            have := q3 y h o (e.trans hp.symm)
            have an := good_O.anti z q
            exact good_O.tr y q z this (by omega)
        · rintro ⟨a, b, c⟩
          rcases mem2.1 a with a | rfl
          · by_cases e : plc z = plc p
            · exfalso
              have h1 := c p (mem2.2 (.inr rfl)) ok e.symm
              have h2 := q3 z a b (e.trans hp.symm)
              have h3 := good_O.tr p z q h1 h2
              omega
            · exact .inl ⟨(I.mem z).2 ⟨a, b, fun y hy => c y (mem2.2 (.inl hy))⟩, e⟩
          · exact .inr rfl
    · rw [if_neg ho]
      refine ⟨I.srt, fun z => ?_⟩
      rw [I.mem]
      constructor
      · rintro ⟨a, b, c⟩
        refine ⟨mem2.2 (.inl a), b, fun y hy o e => (mem2.1 hy).elim (fun h => c y h o e) fun h2 => ?_⟩
        subst h2
        have := c q q1 q2 (hp.trans e)
        exact good_O.tr y q z (by omega) this
      · rintro ⟨a, b, c⟩
        rcases mem2.1 a with a | rfl
        · exact ⟨a, b, fun y hy => c y (mem2.2 (.inl hy))⟩
        · -- it is the one that is there
          have h1 := c q (mem2.2 (.inl q1)) q2 hp
          have an := good_O.anti z q
          have o0 : ordP q z = 0 := by omega
          have ez : q = z := by
            unfold ordP at o0
            rw [orL_cons, orL_cons] at o0
            have ci0 : ∀ {a b : Int}, cI a b = 0 → a = b := fun {a b} h => by
              unfold cI at h
              split at h
              · omega
              · split at h <;> omega
            unfold or1 at o0
            by_cases i0 : idsP q.f_Id z.f_Id = 0
            · rw [if_neg (by omega)] at o0
              by_cases v0 : cI q.f_V z.f_V = 0
              · unfold idsP at i0
                rw [orL_cons, orL_cons] at i0
                unfold or1 at i0
                by_cases n0 : cI q.f_Id.f_N z.f_Id.f_N = 0
                · rw [if_neg (by omega)] at i0
                  by_cases d0 : cI q.f_Id.f_Node z.f_Id.f_Node = 0
                  · have p1 := ci0 v0
                    have p2 := ci0 n0
                    have p3 := ci0 d0
                    unfold plc at hp
                    injection hp with a1 a2
                    obtain ⟨zs, zt, zv, zn, zd⟩ := z
                    obtain ⟨vs, vt, vv, vn, vd⟩ := q
                    simp only at a1 a2 p1 p2 p3
                    subst a1; subst a2; subst p1; subst p2; subst p3; rfl
                  · rw [if_pos d0] at i0; exact absurd i0 d0
                · rw [if_pos n0] at i0; exact absurd i0 n0
              · rw [if_pos v0] at o0; exact absurd o0 v0
            · rw [if_pos i0] at o0; exact absurd o0 i0
          subst ez
          exact ⟨q1, b, fun y hy => c y (mem2.2 (.inl hy))⟩
theorem mrgR_is (l : List Pc) : IsMrg l (mrgR l) := by
  have key : ∀ (n : Nat), IsMrg (l.take n) (mrgR (l.take n)) := fun n => by
    induction n with
    | zero => exact ⟨by simp [mrgR], fun z => by simp [mrgR]⟩
    | succ n ih =>
      rcases Nat.lt_or_ge n l.length with hn | hn
      · rw [List.take_succ_eq_append_getElem hn]
        unfold mrgR at ih ⊢
        rw [List.foldl_append]
        exact ih.step _
      · rw [List.take_of_length_le hn] at ih
        rw [List.take_of_length_le (by omega)]; exact ih
  have := key l.length
  rwa [List.take_length] at this
end Go.Q.Yz
set_option linter.unusedVariables false
set_option linter.unusedSimpArgs false
set_option maxRecDepth 100000
/- The document's merged pieces, walked. -/
namespace Go.Q.Yz
open Go.Q.Rw
theorem Above_ok {x y : S_api_Id} {k : Bool → Heap → Prop} {h : Heap} (H : ∀ h', Ext h.size h h' → k (decide (idsP x y > 0)) h') : ref13_Above x y k h := by
  unfold ref13_Above ref13_Above_g1 ref13_Above_g2 ref13_Above_g1
  refine bx0 fun h2 B1 X1 => bx0 fun h4 B3 X3 => ?_
  have C1 := B1.ext X3 B1.lt
  have F := H h4 (X1.trans (X3.mono X1.size))
  unfold idsP at F
  rw [orL_cons, orL_cons] at F
  unfold or1 cI at F
  refine ⟨x.f_N, C1.cl0 rfl, y.f_N, B3.cl0 rfl, ?_⟩
  by_cases h1 : x.f_N > y.f_N
  · rw [if_pos (by simpa using h1)]
    rw [show decide (_ > (0 : Int)) = true from by simp; split <;> (try split) <;> omega] at F
    exact F
  · rw [if_neg (by simpa using h1)]
    refine ⟨x.f_N, C1.cl0 rfl, y.f_N, B3.cl0 rfl, ?_⟩
    by_cases h2 : x.f_N = y.f_N
    · rw [if_pos (by simpa using h2)]
      refine ⟨x.f_Node, C1.cl rfl, y.f_Node, B3.cl rfl, ?_⟩
      have e : decide ((if (if x.f_N < y.f_N then (-1 : Int) else if x.f_N > y.f_N then 1 else 0) ≠ 0 then (if x.f_N < y.f_N then (-1 : Int) else if x.f_N > y.f_N then 1 else 0) else if (if x.f_Node < y.f_Node then (-1 : Int) else if x.f_Node > y.f_Node then 1 else 0) ≠ 0 then (if x.f_Node < y.f_Node then (-1 : Int) else if x.f_Node > y.f_Node then 1 else 0) else orL []) > 0) = decide (x.f_Node > y.f_Node) := by
        rw [h2]
        simp only [Int.lt_irrefl, gt_iff_lt, if_false, ne_eq, not_true_eq_false]
        rw [decide_eq_decide]
        unfold orL
        split <;> (try split) <;> omega
      rw [e] at F; exact F
    · rw [if_neg (by simpa using h2)]
      have lt : x.f_N < y.f_N := by omega
      simp only [if_pos lt] at F
      exact F
theorem cI_zero {a b : Int} : cI a b = 0 ↔ a = b := by unfold cI; split <;> (try split) <;> omega
theorem ids_zero {x y : S_api_Id} : idsP x y = 0 ↔ x.f_N = y.f_N ∧ x.f_Node = y.f_Node := by
  unfold idsP
  rw [orL_cons, orL_cons]
  unfold or1
  by_cases h1 : cI x.f_N y.f_N = 0
  · rw [if_neg (by omega)]
    by_cases h2 : cI x.f_Node y.f_Node = 0
    · rw [if_neg (by omega)]
      exact ⟨fun _ => ⟨cI_zero.1 h1, cI_zero.1 h2⟩, fun _ => rfl⟩
    · rw [if_pos h2]
      exact ⟨fun h => absurd h h2, fun h => absurd (cI_zero.2 h.2) h2⟩
  · rw [if_pos h1]
    exact ⟨fun h => absurd h h1, fun h => absurd (cI_zero.2 h.1) h1⟩
theorem ord_pos {p q : Pc} : ordP p q > 0 ↔ idsP p.f_Id q.f_Id > 0 ∨ (idsP p.f_Id q.f_Id = 0 ∧ p.f_V > q.f_V) := by
  unfold ordP
  rw [orL_cons, orL_cons]
  unfold or1
  by_cases h : idsP p.f_Id q.f_Id = 0
  · rw [if_neg (by omega)]
    unfold cI orL
    split <;> (try split) <;> (try split) <;> omega
  · rw [if_pos h]; omega
theorem Check13_ok {p : Pc} {k : Bool → Heap → Prop} {h : Heap} (H : ∀ h', Ext h.size h h' → k (okP p) h') : ref13_Check p k h := by
  unfold ref13_Check ref13_Check_g1
  refine bx0 fun h2 B1 X1 => ⟨p.f_Series, B1.cl0 rfl, ?_⟩
  have F := H h2 X1
  unfold okP at F
  by_cases h1 : 1 ≤ p.f_Series.size
  · rw [if_pos (by simp; omega)]
    refine ⟨p.f_Series, B1.cl0 rfl, ?_⟩
    rw [show decide (1 ≤ p.f_Series.size) = true from by simpa using h1, Bool.true_and] at F
    rw [show decide ((p.f_Series.size : Int) ≤ 200) = decide (p.f_Series.size ≤ 200) from by rw [decide_eq_decide]; omega]
    exact F
  · rw [if_neg (by simp; omega)]
    rw [show decide (1 ≤ p.f_Series.size) = false from by rw [decide_eq_false_iff_not]; exact h1, Bool.false_and] at F
    exact F
theorem bs_beq {a b : ByteArray} : (a.toList == b.toList) = decide (a = b) := by
  rw [Bool.eq_iff_iff]
  simp only [beq_iff_eq, decide_eq_true_eq]
  exact ⟨ba_ext, fun h => by rw [h]⟩
theorem pcs_ones (xs : List Pc) : ∀ v ∈ xs.flatMap S_api_Piece.cs, v.oneCell' = true := fun v hv => by obtain ⟨x, _, hx⟩ := List.mem_flatMap.1 hv; exact pcs_one x v hx
theorem RMerge_ok {p0 : Slc} {l : List Pc} {k : Slc → Heap → Prop} {h : Heap} (L : Pcs h p0 l) (m : l.length ≤ 1000)
    (H : ∀ s h', Row h.size h' 46 5 s ((mrgR l).flatMap S_api_Piece.cs) → s.len = (mrgR l).length → Ext h.size h h' → k s h') : ref13_Merge p0 k h := by
  unfold ref13_Merge ref13_Merge_l1
  refine ⟨fun q h' => ∃ i : Nat, q.2 = (i : Int) ∧ i ≤ l.length ∧ Ext h.size h h' ∧ Row h.size h' 46 5 q.1 ((mrgR (l.take i)).flatMap S_api_Piece.cs) ∧ q.1.len = (mrgR (l.take i)).length, fun q _ => l.length - q.2.toNat, ⟨0, rfl, by omega, Ext.refl _ _, by simpa [mrgR] using Row.nil _ _ _ _, by simp [mrgR]⟩, ?_⟩
  rintro t3 ii h1 ⟨i, ei, il, X1, R, rl⟩
  dsimp only at ei R rl
  subst ei
  have z1 := X1.size
  unfold ref13_Merge_l1b
  rw [L.l]
  by_cases hi : i < l.length
  rotate_left
  · rw [if_neg (by simp; omega)]
    rw [List.take_of_length_le (by omega)] at R rl
    exact H t3 h1 R rl X1
  rw [if_pos (by simp; omega)]
  obtain ⟨a, p, ha, g0, g1, hp, hc⟩ := (L.ext X1).it (i := (i : Int)) (by omega) (by omega)
  rw [L.l] at g1
  rw [Int.toNat_natCast] at hp
  have tk : mrgR (l.take (i + 1)) = if okP p = true then insR (mrgR (l.take i)) p else mrgR (l.take i) := by
    obtain ⟨h1, h2⟩ := List.getElem?_eq_some_iff.1 hp
    rw [List.take_succ_eq_append_getElem h1, h2]; unfold mrgR; rw [List.foldl_append]; rfl
  have ol : (mrgR (l.take i)).length ≤ 1000 := by have := (mrgR_is (l.take i)).len; rw [List.length_take] at this; omega
  have ol1 : (mrgR (l.take (i + 1))).length ≤ 1000 := by have := (mrgR_is (l.take (i + 1))).len; rw [List.length_take] at this; omega
  obtain ⟨out, eo⟩ : ∃ out, out = mrgR (l.take i) := ⟨_, rfl⟩
  rw [← eo] at R rl tk ol
  refine ⟨a, ha, g0, g1, p, hc, bx rfl (Nat.le_refl _) fun h6 B4 X6 => ⟨p, CellsAt.of_blk B4, Check13_ok fun h9 X9 => ?_⟩⟩
  have z6 := X6.size
  have z9 := X9.size
  have C4 := B4.ext X9 B4.lt
  have X09 : Ext h.size h h9 := X1.trans ((X6.mono z1).trans (X9.mono (by omega)))
  have R9 := (R.ext X6 fun g hg => (R.bd hg).2).ext X9 fun g hg => by have := (R.bd hg).2; omega
  have j2 : ∀ s h', Ext h.size h h' → Row h.size h' 46 5 s ((mrgR (l.take (i + 1))).flatMap S_api_Piece.cs) → s.len = (mrgR (l.take (i + 1))).length → ref13_Merge_j2 p0 (i : Int) s k (fun q h' => (∃ i : Nat, q.2 = (i : Int) ∧ i ≤ l.length ∧ Ext h.size h h' ∧ Row h.size h' 46 5 q.1 ((mrgR (l.take i)).flatMap S_api_Piece.cs) ∧ q.1.len = (mrgR (l.take i)).length) ∧ l.length - q.2.toNat < l.length - ((i : Nat) : Int).toNat) h' := fun s h' X' R' l' => by
    unfold ref13_Merge_j2
    refine ⟨_, rfl, ?_⟩
    rw [wrapI64 (by omega) (by omega)]
    exact ⟨⟨i + 1, by dsimp only; omega, by omega, X', R', l'⟩, by dsimp only; omega⟩
  by_cases ok : okP p = true
  rotate_left
  · rw [if_pos (by simp [ok])]
    rw [if_neg ok] at tk
    exact j2 t3 h9 X09 (by rw [tk]; exact R9) (by rw [tk]; exact rl)
  rw [if_neg (by simp [ok])]
  rw [if_pos ok] at tk
  have L9 : Pcs h9 t3 out := ls_of_slc pcs5 R9.slc rl (by decide)
  unfold ref13_Merge_l3
  refine ⟨fun t h' => h' = h9 ∧ ∃ n : Nat, t = (n : Int) ∧ n ≤ out.length ∧ ∀ x ∈ out.take n, placeLt x p = true, fun t _ => out.length - t.toNat, ⟨rfl, 0, rfl, by omega, by simp⟩, ?_⟩
  rintro t6 h10 ⟨rfl, n, rfl, nl, al⟩
  -- it is found where it belongs
  have g4 : (∀ q, out[n]? = some q → placeLt q p = false) → ref13_Merge_g4 p0 t3 (i : Int) ⟨h1.size, 0, none⟩ (n : Int) false k (fun q h' => (∃ i : Nat, q.2 = (i : Int) ∧ i ≤ l.length ∧ Ext h.size h h' ∧ Row h.size h' 46 5 q.1 ((mrgR (l.take i)).flatMap S_api_Piece.cs) ∧ q.1.len = (mrgR (l.take i)).length) ∧ l.length - q.2.toNat < l.length - ((i : Nat) : Int).toNat) (fun t h' => (h' = h10 ∧ ∃ n : Nat, t = (n : Int) ∧ n ≤ out.length ∧ ∀ x ∈ out.take n, placeLt x p = true) ∧ out.length - t.toNat < out.length - ((n : Nat) : Int).toNat) h10 := fun stop => by
    have tw : out.takeWhile (fun a => placeLt a p) = out.take n := (tw_of (fun y hy => al y hy) fun y hy => stop y hy).1
    have en : (out.takeWhile fun a => placeLt a p).length = n := by rw [tw, List.length_take]; omega
    unfold insR at tk
    dsimp only at tk
    rw [en] at tk
    have j7 : ∀ s h', Ext h.size h h' → Row h.size h' 46 5 s ((mrgR (l.take (i + 1))).flatMap S_api_Piece.cs) → s.len = (mrgR (l.take (i + 1))).length → ref13_Merge_j7 p0 s (i : Int) k (fun q h' => (∃ i : Nat, q.2 = (i : Int) ∧ i ≤ l.length ∧ Ext h.size h h' ∧ Row h.size h' 46 5 q.1 ((mrgR (l.take i)).flatMap S_api_Piece.cs) ∧ q.1.len = (mrgR (l.take i)).length) ∧ l.length - q.2.toNat < l.length - ((i : Nat) : Int).toNat) (fun t h' => (h' = h10 ∧ ∃ n : Nat, t = (n : Int) ∧ n ≤ out.length ∧ ∀ x ∈ out.take n, placeLt x p = true) ∧ out.length - t.toNat < out.length - ((n : Nat) : Int).toNat) h' := fun s h' X' R' l' => by
      unfold ref13_Merge_j7; exact j2 s h' X' R' l'
    -- a new place
    have fresh : mrgR (l.take (i + 1)) = out.take n ++ p :: out.drop n → ref13_Merge_g6 p0 t3 (i : Int) ⟨h1.size, 0, none⟩ (n : Int) false k (fun q h' => (∃ i : Nat, q.2 = (i : Int) ∧ i ≤ l.length ∧ Ext h.size h h' ∧ Row h.size h' 46 5 q.1 ((mrgR (l.take i)).flatMap S_api_Piece.cs) ∧ q.1.len = (mrgR (l.take i)).length) ∧ l.length - q.2.toNat < l.length - ((i : Nat) : Int).toNat) (fun t h' => (h' = h10 ∧ ∃ n : Nat, t = (n : Int) ∧ n ≤ out.length ∧ ∀ x ∈ out.take n, placeLt x p = true) ∧ out.length - t.toNat < out.length - ((n : Nat) : Int).toNat) h10 := fun e => by
      unfold ref13_Merge_g6
      rw [if_neg (by simp)]
      have cp := R9.cap
      have s1 := L9.sub (a := (0 : Int).toNat) (b := n) (m := (t3.cap : Int).toNat) (by simp) (by omega) (by simp; omega)
      simp only [Int.toNat_zero, List.drop_zero] at s1
      refine ⟨_, Int.le_refl _, by omega, by omega, Int.le_refl _, rfl, _, LsAt.slcs pcs5 (by decide) (by rw [Int.toNat_natCast]; exact s1), ?_⟩
      have lsub : (subS t3 5 (0 : Int).toNat ((n : Nat) : Int).toNat (t3.cap : Int).toNat).len = n := by show ((n : Nat) : Int).toNat - _ = n; simp
      rw [lsub]
      refine app1 (Row.nil h10.size h10 46 5) (Nat.le_refl _) rfl (by rw [fm_len pcs5, List.length_take, Nat.min_eq_left (by omega)]) (pcs_ones _) (by show (0 + n) * 48 ≤ _; omega) (by show 0 + n ≤ _; unfold maxLen; omega) fun s26 h27 R26 l26 X27 => ?_
      have z27 := X27.size
      simp only [List.nil_append] at R26
      have l26' : s26.len = n := by rw [l26]; show 0 + n = n; omega
      refine ⟨p, (CellsAt.of_blk C4).ext X27, bx0 fun h31 B30 X31 => app1 (R26.ext X31 fun g hg => (R26.bd hg).2) (by have := X31.size; omega) rfl rfl (pcs_one p) (by omega) (by unfold maxLen; omega) fun s32 h33 R32 l32 X33 => ?_⟩
      have z31 := X31.size
      have z33 := X33.size
      have X1033 : Ext h10.size h10 h33 := X27.trans ((X31.mono (by omega)).trans X33)
      have s2 := (L9.ext X1033).sub (a := n) (b := (t3.len : Int).toNat) (m := (t3.cap : Int).toNat) (by omega) (by omega) (by omega)
      have e3 : (t3.len : Int).toNat = out.length := by omega
      have tl := List.take_length (l := out)
      rw [← e3] at tl
      rw [tl] at s2
      refine ⟨_, by omega, by omega, by omega, Int.le_refl _, rfl, _, LsAt.slcs pcs5 (by decide) (by rw [Int.toNat_natCast]; exact s2), ?_⟩
      have lsub2 : (subS t3 5 ((n : Nat) : Int).toNat (t3.len : Int).toNat (t3.cap : Int).toNat).len = out.length - n := by show (t3.len : Int).toNat - ((n : Nat) : Int).toNat = _; omega
      rw [lsub2]
      refine app1 R32 (by omega) rfl (by rw [fm_len pcs5, List.length_drop]) (pcs_ones _) (by omega) (by unfold maxLen; omega) fun s35 h36 R35 l35 X36 => ?_
      refine j2 s35 h36 (X09.trans ((X1033.trans X36).mono X09.size)) ?_ ?_
      · rw [e, List.flatMap_append, List.flatMap_cons]
        rw [List.append_assoc] at R35
        exact R35.mono (by have := X09.size; omega)
      · rw [e, l35, l32, l26', List.length_append, List.length_cons, List.length_take, List.length_drop]; omega
    unfold ref13_Merge_g4
    rw [if_neg (by simp), rl]
    by_cases hn : n < out.length
    rotate_left
    · rw [if_neg (by simp; omega)]
      unfold ref13_Merge_g5
      rw [if_neg (by simp)]
      rw [List.getElem?_eq_none (by omega)] at tk
      exact fresh tk
    rw [if_pos (by simp; omega)]
    obtain ⟨q, hq⟩ : ∃ q, out[n]? = some q := ⟨_, List.getElem?_eq_getElem hn⟩
    obtain ⟨b, hb, hcb⟩ := L9.at' n q hq
    rw [hq] at tk
    dsimp only at tk
    have ltn : ((n : Nat) : Int) < (t3.len : Int) := by rw [rl]; omega
    have ltn' : ((n : Nat) : Int) < (out.length : Int) := by omega
    have hcb' : CellsAt h10 (b.add (((n : Nat) : Int).toNat * 5)) (S_api_Piece.cs q) := by rw [Int.toNat_natCast]; exact hcb
    refine ⟨b, hb, by omega, ltn', q.f_Series, cls0 hcb' rfl, p.f_Series, C4.cl0 rfl, ?_⟩
    rw [bs_beq]
    unfold ref13_Merge_g5
    by_cases es : q.f_Series = p.f_Series
    rotate_left
    · rw [if_neg (by simpa using es)]
      rw [if_neg (fun e => es (congrArg S_piece_place.f_series e))] at tk
      exact fresh tk
    rw [if_pos (by simpa using es)]
    refine ⟨b, hb, by omega, ltn, q.f_T, hcb' 1 _ rfl, p.f_T, C4.cl rfl, ?_⟩
    by_cases et : q.f_T = p.f_T
    rotate_left
    · rw [show (q.f_T == p.f_T) = false from by simpa using et]
      rw [if_neg (fun e => et (congrArg S_piece_place.f_t e))] at tk
      exact fresh tk
    rw [show (q.f_T == p.f_T) = true from by simpa using et]
    rw [if_pos (show plc q = plc p from by unfold plc; rw [es, et])] at tk
    unfold ref13_Merge_g6
    rw [if_pos rfl]
    have ci : ∀ {b : Nat} {z : S_api_Piece} {g : Heap}, Blk g b (S_api_Piece.cs z) 46 → CellsAt g ((⟨b, 0, none⟩ : Addr).add 3) (S_api_Id.cs z.f_Id) := fun R => R.cls rfl
    have cq : ∀ {g : Heap}, CellsAt g (b.add (((n : Nat) : Int).toNat * 5)) (S_api_Piece.cs q) → CellsAt g ((b.add (((n : Nat) : Int).toNat * 5)).add 3) (S_api_Id.cs q.f_Id) := fun {g} C j v hj => by
      rw [add_add2]
      match j, hj with
      | 0, hj => exact C 3 v hj
      | 1, hj => exact C 4 v hj
      | j + 2, hj => simp [S_api_Id.cs] at hj
    refine ⟨p.f_Id, ci C4, b, hb, by omega, ltn, q.f_Id, cq hcb', Above_ok fun h18 X18 => ?_⟩
    have z18 := X18.size
    have D4 := C4.ext X18 C4.lt
    have R18 := R9.ext X18 fun g hg => (R9.bd hg).2
    have X018 := X09.trans (X18.mono X09.size)
    have j8 : ∀ v, v = decide (ordP p q > 0) → ref13_Merge_j8 p0 t3 (i : Int) ⟨h1.size, 0, none⟩ (n : Int) v k (fun q h' => (∃ i : Nat, q.2 = (i : Int) ∧ i ≤ l.length ∧ Ext h.size h h' ∧ Row h.size h' 46 5 q.1 ((mrgR (l.take i)).flatMap S_api_Piece.cs) ∧ q.1.len = (mrgR (l.take i)).length) ∧ l.length - q.2.toNat < l.length - ((i : Nat) : Int).toNat) (fun t h' => (h' = h10 ∧ ∃ n : Nat, t = (n : Int) ∧ n ≤ out.length ∧ ∀ x ∈ out.take n, placeLt x p = true) ∧ out.length - t.toNat < out.length - ((n : Nat) : Int).toNat) h18 := fun v hv => by
      unfold ref13_Merge_j8
      by_cases ho : ordP p q > 0
      · rw [if_pos (by rw [hv]; simpa using ho)]
        rw [if_pos ho] at tk
        obtain ⟨w1, w2, w3⟩ := row_setS pcs5 R18 rl hn p hb
        refine ⟨p, CellsAt.of_blk D4, b, hb, by omega, ltn, _, by rw [Int.toNat_natCast]; exact w1, rfl, ?_⟩
        refine j7 t3 _ (X018.trans (Ext.sets _ _ _ (by rw [show (b.add (((n : Nat) : Int).toNat * 5)).block = b.block from by unfold Addr.add; split <;> rfl]; exact w3))) ?_ ?_
        · rw [tk, Int.toNat_natCast]; exact w2
        · rw [tk, List.length_set]; exact rl
      · rw [if_neg (by rw [hv]; simpa using ho)]
        rw [if_neg ho] at tk
        exact j7 t3 h18 X018 (by rw [tk]; exact R18) (by rw [tk]; exact rl)
    by_cases hab : idsP p.f_Id q.f_Id > 0
    · rw [if_pos (by simpa using hab)]
      exact j8 true (by have := ord_pos.2 (.inl hab); simpa using this)
    · rw [if_neg (by simpa using hab)]
      refine ⟨p.f_Id, ci D4, b, hb, by omega, ltn, q.f_Id, cq (hcb'.ext X18), ?_⟩
      rw [if_pos rfl]
      by_cases hz : idsP p.f_Id q.f_Id = 0
      · obtain ⟨i1, i2⟩ := ids_zero.1 hz
        rw [if_pos (by simp [i1, i2])]
        refine ⟨p.f_V, D4.cl rfl, b, hb, by omega, ltn, q.f_V, (hcb'.ext X18) 2 _ rfl, j8 _ ?_⟩
        rw [decide_eq_decide, ord_pos]
        constructor
        · intro hv; exact .inr ⟨hz, hv⟩
        · rintro (hh | hh)
          · exact absurd hh hab
          · exact hh.2
      · rw [if_neg (by
          simp only [Bool.and_eq_true, beq_iff_eq]
          exact fun hh => hz (ids_zero.2 hh))]
        refine j8 false ?_
        symm
        rw [decide_eq_false_iff_not, ord_pos]
        rintro (hh | hh)
        · exact hab hh
        · exact hz hh.1
  unfold ref13_Merge_l3b
  rw [rl]
  by_cases hn : n < out.length
  rotate_left
  · rw [if_neg (by simp; omega)]
    exact g4 fun q hq => by rw [List.getElem?_eq_none (by omega)] at hq; cases hq
  rw [if_pos (by simp; omega)]
  obtain ⟨q, hq⟩ : ∃ q, out[n]? = some q := ⟨_, List.getElem?_eq_getElem hn⟩
  obtain ⟨b, hb, hcb⟩ := L9.at' n q hq
  have hcb' : CellsAt h10 (b.add (((n : Nat) : Int).toNat * 5)) (S_api_Piece.cs q) := by rw [Int.toNat_natCast]; exact hcb
  have ltn' : ((n : Nat) : Int) < (out.length : Int) := by omega
  have next : ∀ b, b = placeLt q p → ref13_Merge_g4 p0 t3 (i : Int) ⟨h1.size, 0, none⟩ (n : Int) b k (fun q h' => (∃ i : Nat, q.2 = (i : Int) ∧ i ≤ l.length ∧ Ext h.size h h' ∧ Row h.size h' 46 5 q.1 ((mrgR (l.take i)).flatMap S_api_Piece.cs) ∧ q.1.len = (mrgR (l.take i)).length) ∧ l.length - q.2.toNat < l.length - ((i : Nat) : Int).toNat) (fun t h' => (h' = h10 ∧ ∃ n : Nat, t = (n : Int) ∧ n ≤ out.length ∧ ∀ x ∈ out.take n, placeLt x p = true) ∧ out.length - t.toNat < out.length - ((n : Nat) : Int).toNat) h10 := fun b hb => by
    cases hpl : placeLt q p with
    | false => rw [hb, hpl]; exact g4 fun q' h => by rw [hq] at h; cases h; exact hpl
    | true =>
      rw [hb, hpl]
      unfold ref13_Merge_g4
      rw [if_pos rfl]
      refine ⟨_, rfl, ?_⟩
      rw [wrapI64 (by omega) (by omega)]
      refine ⟨⟨rfl, n + 1, by omega, by omega, ?_⟩, by omega⟩
      obtain ⟨h1, h2⟩ := List.getElem?_eq_some_iff.1 hq
      rw [List.take_succ_eq_append_getElem h1, h2]
      intro x hx
      rcases List.mem_append.1 hx with hx | hx
      · exact al x hx
      · simp only [List.mem_singleton] at hx; rw [hx]; exact hpl
  refine ⟨b, hb, by omega, ltn', q.f_Series, cls0 hcb' rfl, p.f_Series, C4.cl0 rfl, ?_⟩
  unfold placeLt at next
  unfold ref13_Merge_g9
  by_cases h1' : Op.bytesLess q.f_Series.toList p.f_Series.toList = true
  · rw [if_pos h1']
    exact next true (by rw [h1']; rfl)
  · rw [if_neg h1']
    have f1 : Op.bytesLess q.f_Series.toList p.f_Series.toList = false := by simpa using h1'
    refine ⟨b, hb, by omega, ltn', q.f_Series, cls0 hcb' rfl, p.f_Series, C4.cl0 rfl, ?_⟩
    unfold ref13_Merge_g10 ref13_Merge_g9
    by_cases h2' : (q.f_Series.toList == p.f_Series.toList) = true
    · rw [if_pos h2']
      refine ⟨b, hb, by omega, ltn', q.f_T, hcb' 1 _ rfl, p.f_T, C4.cl rfl, next _ ?_⟩
      rw [f1, h2']; simp
    · rw [if_neg h2']
      have f2 : (q.f_Series.toList == p.f_Series.toList) = false := by simpa using h2'
      exact next false (by rw [f1, f2]; rfl)
end Go.Q.Yz
