/- A part of the proof of statements of this seat: lemmas, no statement of their own. -/
import Derived.Test.YtcmbgfmbmbgbiaaYbLabG
set_option linter.unusedVariables false
set_option linter.unusedSimpArgs false
namespace Go.Q.Yb
/-! ### a series is written -/
theorem ofL_app (a b : Tx) : ofL a ++ ofL b = ofL (a ++ b) := by
  have : U (ofL a ++ ofL b) = a ++ b := by
    show (ofL a ++ ofL b).data.toList = _
    rw [ByteArray.data_append]
    simp [ofL]
  rw [← this, ofL_U]
def braU : List LU → Tx
  | [] => []
  | x :: r => 123 :: (partU x ++ tailU r ++ [125])
theorem text_bra (name : Tx) (ls : List LU) : textU name ls = name ++ braU ls := by
  cases ls with
  | nil => show name = name ++ []; rw [List.append_nil]
  | cons x r => rfl
def pstr (x : LU) : ByteArray := ofL (partU x)
theorem U_pstr (ls : List LU) : (ls.map pstr).map (·.data.toList) = ls.map partU := by
  rw [List.map_map]; exact List.map_congr_left fun x _ => U_ofL (partU x)
theorem join_parts (x : LU) (r : List LU) : joinB ((x :: r).map pstr) (ofL [44]) = ofL (partU x ++ tailU r) := by
  unfold joinB
  rw [U_pstr, List.map_cons, Lib.join_cons, show (ofL [44]).data.toList = [44] from rfl, tail_join]; rfl
def pcs (x : LU) : List Value := [.string (pstr x)]
theorem Braced_ok {s : Slc} {B : Nat} {ls : List LU} {k : ByteArray → Heap → Prop} {h : Heap} (R : Row B h 9 1 s (ls.flatMap pcs)) (sl : s.len = ls.length) (h8 : ls.length ≤ 8) (hw : ∀ x ∈ ls, wordU x.1 = true ∧ wordU x.2 = true)
    (H : ∀ h', Ext h.size h h' → k (ofL (braU ls)) h') : label_braced s k h := by
  unfold label_braced
  cases ls with
  | nil =>
    simp only [List.length_nil] at sl
    rw [if_pos (by rw [sl]; rfl)]
    exact H h (Ext.refl _ _)
  | cons x r =>
    simp only [List.length_cons] at sl h8
    rw [if_neg (by rw [sl]; simp; omega)]
    obtain ⟨g, zs, e, _, _, hc, _⟩ := R.opened (by omega)
    have tl := tail_le r fun y hy => hw y (List.mem_cons_of_mem _ hy)
    have pl := part_len (hw x (by simp)).1 (hw x (by simp)).2
    have L : LsAt (fun x => [Value.string x]) 1 h s ((x :: r).map pstr) := LsAt.of_slc (cs := fun x => [Value.string x]) (fun _ => rfl) (by rw [List.flatMap_map]; exact R.slc) (by rw [List.length_map, List.length_cons]; exact sl) Nat.one_pos
    refine ⟨(x :: r).map pstr, L, hc, by omega, by omega, fun a ha => by rw [e] at ha; cases ha; rfl, ?_, fun h' X => ?_⟩
    · rw [show (⟨#[44]⟩ : ByteArray) = ofL [44] from rfl, join_parts, size_ofL, List.length_append]; omega
    · dsimp only
      rw [show (⟨#[44]⟩ : ByteArray) = ofL [44] from rfl, join_parts, show (⟨#[123]⟩ : ByteArray) = ofL [123] from rfl, show (⟨#[125]⟩ : ByteArray) = ofL [125] from rfl, ofL_app, ofL_app, size_ofL, size_ofL, size_ofL, size_ofL]
      refine ⟨by simp; omega, by simp; omega, ?_⟩
      exact H h' X
theorem Text_ok {name : Tx} {s : Slc} {ls : List LU} {k : ByteArray → Heap → Prop} {h : Heap} (L : LsAt S_api_Label.cs 2 h s (ls.map lst)) (hc : checkU name ls = true)
    (H : ∀ h', Ext h.size h h' → k (ofL (textU name ls)) h') : label_Text ⟨ofL name, s⟩ k h := by
  obtain ⟨hn, h8, hw⟩ := chk_parts hc
  have sl : s.len = ls.length := by have := L.l; simpa using this
  unfold label_Text
  refine ⟨_, _, rfl, rfl, ?_⟩
  have P := Blk.push h (S_api_Series.cs ⟨ofL name, s⟩) 66
  have W := Ext.push h (.cells (S_api_Series.cs ⟨ofL name, s⟩).toArray 66) (Nat.le_refl _)
  have pl := P.lt
  generalize h.push (.cells (S_api_Series.cs ⟨ofL name, s⟩).toArray 66) = h2 at *
  have z2 := W.size
  refine ⟨s, by rw [add_mk, P.cell]; rfl, ?_⟩
  refine ⟨fun q h' => 0 ≤ q.2 ∧ q.2 ≤ ls.length ∧ Row h2.size h' 9 1 q.1 ((ls.take q.2.toNat).flatMap pcs) ∧ q.1.len = q.2.toNat ∧ Ext h2.size h2 h', fun q _ => (ls.length - q.2).toNat, ⟨by dsimp only; omega, by dsimp only; omega, by simpa using Row.nil _ _ _ _, rfl, Ext.refl _ _⟩, ?_⟩
  rintro t i h3 ⟨i0, i1, R, tl, X⟩
  dsimp only at i0 i1 R tl
  have z3 := X.size
  have P3 := P.ext X pl
  have L3 := (L.ext W).ext X
  unfold label_Text_l1b
  by_cases hi : i < ls.length
  · rw [if_pos (by rw [decide_eq_true_eq]; omega)]
    have hx : ls[i.toNat]? = some (ls[i.toNat]'(by omega)) := by simp
    generalize ls[i.toNat]'(by omega) = x at *
    obtain ⟨w1, w2⟩ := hw x (List.mem_of_getElem? hx)
    have l1 := word_len w1
    have l2 := word_len w2
    obtain ⟨a, ha, C⟩ := L3.at' i.toNat (lst x) (by rw [List.getElem?_map, hx]; rfl)
    refine ⟨a, ha, i0, by omega, lst x, C, _, _, rfl, rfl, ?_⟩
    have T := Blk.push h3 (S_api_Label.cs ⟨ByteArray.empty, ByteArray.empty⟩) 163
    have T2 := T.sets_all (vs := S_api_Label.cs (lst x)) rfl
    have W5 := (Ext.push h3 (.cells (S_api_Label.cs ⟨ByteArray.empty, ByteArray.empty⟩).toArray 163) (Nat.le_refl _)).trans (Ext.sets _ (a := ⟨h3.size, 0, none⟩) 0 (S_api_Label.cs (lst x)) (Nat.le_refl _))
    refine ⟨_, WrsAt.of_blk T (by rw [labcs_len]; omega), rfl, ?_⟩
    generalize setsH (h3.push (.cells (S_api_Label.cs ⟨ByteArray.empty, ByteArray.empty⟩).toArray 163)) ⟨h3.size, 0, none⟩ 0 (S_api_Label.cs (lst x)) = h5 at *
    have z5 := W5.size
    have R5 := R.ext W5 fun g hg => (R.bd hg).2
    have X5 : Ext h2.size h2 h5 := X.trans (W5.mono z3)
    refine ⟨ofL x.1, by rw [T2.cell]; rfl, ?_⟩
    rw [show (⟨#[61]⟩ : ByteArray) = ofL [61] from rfl, ofL_app, size_ofL, size_ofL, size_ofL]
    refine ⟨by simp; omega, ofL x.2, by rw [add_mk, T2.cell]; rfl, ?_⟩
    rw [ofL_app, size_ofL]
    refine ⟨by simp; omega, _, _, rfl, rfl, ?_⟩
    refine App.row (R5.pushed _) (by simp; omega) rfl rfl (oneC (by kernel_rfl)) (by omega) (by simp only [maxLen]; omega) fun s'' h8 R8 l8 z8 F8 _ => ?_
    simp at z8
    have F : ∀ g, g < h5.size → t.blk ≠ some g → h8[g]? = h5[g]? := fun g hg hs => by rw [F8 g (by simp; omega) hs, Array.getElem?_push, if_neg (by omega)]
    rw [wrapI64 (by omega) (by omega)]
    refine ⟨⟨by dsimp only; omega, by dsimp only; omega, ?_, by dsimp only; rw [l8]; omega, X5.trans ⟨by omega, fun g hg => F g (by omega) fun e => by have := (R5.bd e).1; omega⟩⟩, by dsimp only; omega⟩
    dsimp only
    rw [show (i + 1).toNat = i.toNat + 1 from by omega, List.take_add_one, hx, List.flatMap_append]
    have e : x.1 ++ [61] ++ x.2 = partU x := by unfold partU; rw [List.append_assoc]; rfl
    rw [e] at R8
    simpa [pcs, pstr] using R8
  · rw [if_neg (by rw [decide_eq_true_eq]; omega)]
    rw [List.take_of_length_le (by omega)] at R
    refine ⟨ofL name, by rw [P3.cell]; rfl, Braced_ok R (by omega) h8 hw fun h4 X4 => ?_⟩
    have P4 := P3.ext X4 P3.lt
    have tl := text_le hc
    rw [text_bra] at tl
    refine ⟨by rw [P4.cell]; rfl, ?_⟩
    rw [ofL_app, size_ofL, size_ofL]
    rw [List.length_append] at tl
    refine ⟨by omega, ?_⟩
    rw [← text_bra]
    exact H h4 (W.trans ((X.trans (X4.mono z3)).mono z2))
/-! ### the document's check -/
theorem rletter_ok {c : UInt8} {k : Bool → Heap → Prop} {h : Heap} (H : k (letterU c) h) : ref15_letter (c.toNat : Int) k h := by
  unfold ref15_letter
  have e : ∀ n : Nat, (hn : n < 256) → (((c.toNat : Int) == (n : Int)) = (c == UInt8.ofNat n)) := fun n hn => by
    have h1 : (UInt8.ofNat n).toNat = n := by simp [UInt8.toNat_ofNat]; omega
    by_cases hc : c = UInt8.ofNat n
    · subst hc; rw [h1]; simp
    · rw [show (c == UInt8.ofNat n) = false from by simpa using hc]
      simp only [beq_eq_false_iff_ne, ne_eq]
      intro he
      exact hc (UInt8.toNat_inj.1 (by rw [h1]; omega))
  have e1 := e 95 (by omega)
  have e2 := e 45 (by omega)
  have e3 := e 46 (by omega)
  have e4 := e 47 (by omega)
  have d1 : (decide ((c.toNat : Int) ≥ 97) && decide ((c.toNat : Int) ≤ 122)) = (decide (97 ≤ c.toNat) && decide (c.toNat ≤ 122)) := by congr 1 <;> exact decide_eq_decide.2 (by omega)
  have d2 : (decide ((c.toNat : Int) ≥ 65) && decide ((c.toNat : Int) ≤ 90)) = (decide (65 ≤ c.toNat) && decide (c.toNat ≤ 90)) := by congr 1 <;> exact decide_eq_decide.2 (by omega)
  have d3 : (decide ((c.toNat : Int) ≥ 48) && decide ((c.toNat : Int) ≤ 57)) = (decide (48 ≤ c.toNat) && decide (c.toNat ≤ 57)) := by congr 1 <;> exact decide_eq_decide.2 (by omega)
  have x1 : ((c.toNat : Int) == 95) = (c == 95) := e1
  have x2 : ((c.toNat : Int) == 45) = (c == 45) := e2
  have x3 : ((c.toNat : Int) == 46) = (c == 46) := e3
  have x4 : ((c.toNat : Int) == 47) = (c == 47) := e4
  rw [d1, d2, d3, x1, x2, x3, x4]
  exact H
theorem RWord_ok {l : Tx} {k : Bool → Heap → Prop} {h : Heap} (H : k (wordU l) h) : ref15_Word (ofL l) k h := by
  unfold ref15_Word
  rw [size_ofL]
  by_cases hb : l.length < 1 ∨ l.length > 24
  · rw [if_pos (by simp only [Bool.or_eq_true, decide_eq_true_eq]; omega)]
    have : wordU l = false := by
      unfold wordU
      rw [show (decide (0 < l.length) && decide (l.length ≤ 24)) = false from by
        simp only [Bool.and_eq_false_iff, decide_eq_false_iff_not]; omega]
      rw [Bool.and_false]
    rw [this] at H; exact H
  rw [if_neg (by simp only [Bool.or_eq_true, decide_eq_true_eq]; omega)]
  have sz : (decide (0 < l.length) && decide (l.length ≤ 24)) = true := by simp only [Bool.and_eq_true, decide_eq_true_eq]; omega
  refine ⟨fun i h' => 0 ≤ i ∧ i ≤ l.length ∧ (l.take i.toNat).all letterU = true ∧ h' = h, fun i _ => (l.length - i).toNat, ⟨by omega, by omega, by simp, rfl⟩, ?_⟩
  rintro i h' ⟨i0, i1, ha, e⟩
  subst e
  unfold ref15_Word_l1b
  rw [size_ofL]
  by_cases hi : i < l.length
  · rw [if_pos (by rw [decide_eq_true_eq]; exact hi)]
    have hx : l[i.toNat]? = some (l[i.toNat]'(by omega)) := by simp
    generalize l[i.toNat]'(by omega) = c at *
    refine ⟨_, i0, strAt_ofL hx, rletter_ok ?_⟩
    cases hc : letterU c with
    | true =>
      rw [if_neg (by simp), wrapI64 (by omega) (by omega)]
      refine ⟨_, rfl, ⟨by omega, by omega, ?_, rfl⟩, by dsimp only; omega⟩
      rw [show (i + 1).toNat = i.toNat + 1 from by omega, List.take_add_one, hx]
      simp [ha, hc]
    | false =>
      rw [if_pos (by simp)]
      have : wordU l = false := by
        have : l.all letterU = false := by
          cases hh : l.all letterU with
          | false => rfl
          | true => have := List.all_eq_true.1 hh c (List.mem_of_getElem? hx); rw [hc] at this; cases this
        unfold wordU; rw [this]; rfl
      rw [this] at H; exact H
  · rw [if_neg (by rw [decide_eq_true_eq]; exact hi)]
    rw [List.take_of_length_le (by omega)] at ha
    unfold wordU at H
    rw [ha, sz] at H
    exact H
theorem RCheck_ok {name : Tx} {s : Slc} {ls : List LU} {k : Bool → Heap → Prop} {h : Heap} (L : LsAt S_api_Label.cs 2 h s (ls.map lst))
    (H : ∀ h', Ext h.size h h' → k (checkU name ls) h') : ref15_Check ⟨ofL name, s⟩ k h := by
  have sl : s.len = ls.length := by have := L.l; simpa using this
  unfold ref15_Check
  refine ⟨_, _, rfl, rfl, ?_⟩
  have P := Blk.push h (S_api_Series.cs ⟨ofL name, s⟩) 66
  have W := Ext.push h (.cells (S_api_Series.cs ⟨ofL name, s⟩).toArray 66) (Nat.le_refl _)
  generalize h.push (.cells (S_api_Series.cs ⟨ofL name, s⟩).toArray 66) = h2 at *
  have L2 := L.ext W
  have cs : cellH h2 ((⟨h.size, 0, none⟩ : Addr).add 1) = some (Slc.v s) := by rw [add_mk, P.cell]; rfl
  have F := H h2 W
  unfold checkU at F
  refine ⟨ofL name, by rw [P.cell]; rfl, RWord_ok ?_⟩
  cases hw : wordU name with
  | false =>
    rw [hw, if_neg (by simp)] at F
    rw [if_pos (by simp)]
    unfold ref15_Check_g1
    rw [if_pos rfl]; exact F
  | true =>
  rw [hw, if_pos rfl] at F
  rw [if_neg (by simp)]
  refine ⟨s, cs, ?_⟩
  unfold ref15_Check_g1
  by_cases h8 : ls.length > 8
  · rw [if_pos h8] at F
    rw [if_pos (by rw [decide_eq_true_eq]; omega)]; exact F
  rw [if_neg h8] at F
  rw [if_neg (by rw [decide_eq_true_eq]; omega)]
  refine ⟨fun i h' => 0 ≤ i ∧ i ≤ ls.length ∧ chkL (prevU ls i.toNat) (ls.drop i.toNat) = chkL none ls ∧ h' = h2, fun i _ => (ls.length - i).toNat, ⟨by omega, by omega, rfl, rfl⟩, ?_⟩
  rintro i h' ⟨i0, i1, hc, e⟩
  subst e
  unfold ref15_Check_l2b
  refine ⟨s, cs, ?_⟩
  by_cases hi : i < ls.length
  · rw [if_pos (by rw [decide_eq_true_eq]; omega)]
    have hx : ls[i.toNat]? = some (ls[i.toNat]'(by omega)) := by simp
    have hd : ls.drop i.toNat = (ls[i.toNat]'(by omega)) :: ls.drop (i.toNat + 1) := List.drop_eq_getElem_cons (by omega)
    generalize ls[i.toNat]'(by omega) = x at *
    rw [hd, chkL_cons] at hc
    obtain ⟨a, ha, C⟩ := L2.at' i.toNat (lst x) (by rw [List.getElem?_map, hx]; rfl)
    have C0 := C 0 (.string (ofL x.1)) rfl
    rw [show (a.add (i.toNat * 2)).add 0 = a.add (i.toNat * 2) from by simp [Addr.add]] at C0
    have j3 : ∀ b : Bool, (b = true → chkL none ls = false) → (b = false → chkL (some x.1) (ls.drop (i.toNat + 1)) = chkL none ls) → ref15_Check_j3 ⟨h.size, 0, none⟩ i b k (fun q h'' => (0 ≤ q ∧ q ≤ (ls.length : Int) ∧ chkL (prevU ls q.toNat) (ls.drop q.toNat) = chkL none ls ∧ h'' = h') ∧ ((ls.length : Int) - q).toNat < ((ls.length : Int) - i).toNat) h' := fun b b1 b2 => by
      unfold ref15_Check_j3
      cases b with
      | true =>
        rw [if_pos rfl]
        rw [b1 rfl] at F; exact F
      | false =>
        rw [if_neg (by simp), wrapI64 (by omega) (by omega)]
        refine ⟨_, rfl, ⟨by omega, by omega, ?_, rfl⟩, by omega⟩
        rw [show (i + 1).toNat = i.toNat + 1 from by omega]
        have : prevU ls (i.toNat + 1) = some x.1 := by unfold prevU; rw [if_neg (by omega), show i.toNat + 1 - 1 = i.toNat from by omega, hx]; rfl
        rw [this]; exact b2 rfl
    refine ⟨s, cs, a, ha, i0, by omega, ofL x.1, C0, RWord_ok ?_⟩
    cases hw1 : wordU x.1 with
    | false =>
      rw [hw1, if_neg (by simp)] at hc
      rw [if_pos (by simp), if_pos rfl]
      exact j3 true (fun _ => hc.symm) (fun h => by cases h)
    | true =>
      rw [hw1, if_pos rfl] at hc
      rw [if_neg (by simp)]
      refine ⟨s, cs, a, ha, i0, by omega, ofL x.2, C 1 _ rfl, RWord_ok ?_⟩
      cases hw2 : wordU x.2 with
      | false =>
        rw [hw2, if_neg (by simp)] at hc
        rw [if_pos (by simp)]
        exact j3 true (fun _ => hc.symm) (fun h => by cases h)
      | true =>
        rw [hw2, if_pos rfl] at hc
        rw [if_neg (by simp)]
        by_cases hi0 : i > 0
        · rw [if_pos (by simpa using hi0)]
          rw [wrapI64 (x := i - 1) (by omega) (by omega)]
          have hy : ls[i.toNat - 1]? = some (ls[i.toNat - 1]'(by omega)) := by simp
          generalize ls[i.toNat - 1]'(by omega) = y at *
          have pv : prevU ls i.toNat = some y.1 := by unfold prevU; rw [if_neg (by omega), hy]; rfl
          rw [pv] at hc
          obtain ⟨a2, ha2, C2⟩ := L2.at' (i.toNat - 1) (lst y) (by rw [List.getElem?_map, hy]; rfl)
          have c0 := C2 0 (.string (ofL y.1)) rfl
          rw [show (a2.add ((i.toNat - 1) * 2)).add 0 = a2.add ((i.toNat - 1) * 2) from by simp [Addr.add]] at c0
          refine ⟨s, cs, a, ha, by omega, by omega, ofL x.1, C0, s, cs, a2, ha2, by omega, by omega, ofL y.1, by rw [show (i - 1).toNat = i.toNat - 1 from by omega]; exact c0, ?_⟩
          rw [ofL_toList, ofL_toList, less_total]
          have hc2 : (if Op.bytesLess y.1 x.1 = true then chkL (some x.1) (ls.drop (i.toNat + 1)) else false) = chkL none ls := hc
          refine j3 _ (fun hb => ?_) fun hb => ?_
          · rw [Bool.not_eq_true'] at hb
            rw [hb, if_neg (by simp)] at hc2; exact hc2.symm
          · rw [Bool.not_eq_false'] at hb
            rw [hb, if_pos rfl] at hc2; exact hc2
        · rw [if_neg (by simpa using hi0)]
          have pv : prevU ls i.toNat = none := by unfold prevU; rw [if_pos (by omega)]
          rw [pv] at hc
          exact j3 false (fun h => by cases h) fun _ => hc
  · rw [if_neg (by rw [decide_eq_true_eq]; omega)]
    have hd : ls.drop i.toNat = [] := List.drop_of_length_le (by omega)
    rw [hd] at hc
    rw [← hc] at F
    exact F
end Go.Q.Yb
