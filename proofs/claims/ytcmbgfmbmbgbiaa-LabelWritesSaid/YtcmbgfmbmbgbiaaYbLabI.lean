/- A part of the proof of statements of this seat: lemmas, no statement of their own. -/
import Derived.Test.YtcmbgfmbmbgbiaaYbLabH
set_option linter.unusedVariables false
set_option linter.unusedSimpArgs false
namespace Go.Q.Yb
/-! ### the document's text -/
def preU (name : Tx) : List LU → Tx
  | [] => name
  | x :: r => name ++ 123 :: (partU x ++ tailU r)
theorem tail_snoc : ∀ (r : List LU) (x : LU), tailU (r ++ [x]) = tailU r ++ 44 :: partU x
  | [], x => by show 44 :: (partU x ++ []) = [] ++ 44 :: partU x; rw [List.append_nil]; rfl
  | y :: r, x => by
    show 44 :: (partU y ++ tailU (r ++ [x])) = 44 :: (partU y ++ tailU r) ++ 44 :: partU x
    rw [tail_snoc r x, List.cons_append, List.append_assoc]
theorem pre_snoc (name : Tx) (ls : List LU) (x : LU) : preU name (ls ++ [x]) = preU name ls ++ (if ls = [] then 123 else 44) :: partU x := by
  cases ls with
  | nil => show name ++ 123 :: (partU x ++ []) = _; rw [List.append_nil]; rfl
  | cons y r =>
    show name ++ 123 :: (partU y ++ tailU (r ++ [x])) = name ++ 123 :: (partU y ++ tailU r) ++ (if y :: r = [] then 123 else 44) :: partU x
    rw [tail_snoc, if_neg (by simp)]
    simp [List.append_assoc]
theorem pre_text (name : Tx) (ls : List LU) : textU name ls = if ls = [] then preU name ls else preU name ls ++ [125] := by
  cases ls with
  | nil => rfl
  | cons x r =>
    rw [if_neg (by simp)]
    show name ++ 123 :: (partU x ++ tailU r ++ [125]) = name ++ 123 :: (partU x ++ tailU r) ++ [125]
    simp [List.append_assoc]
theorem pre_le (name : Tx) (ls : List LU) (hn : wordU name = true) (hw : ∀ x ∈ ls, wordU x.1 = true ∧ wordU x.2 = true) : (preU name ls).length ≤ 24 + 50 * ls.length := by
  have := word_len hn
  cases ls with
  | nil => show name.length ≤ _; omega
  | cons x r =>
    have := tail_le r fun y hy => hw y (List.mem_cons_of_mem _ hy)
    have := part_len (hw x (by simp)).1 (hw x (by simp)).2
    show (name ++ 123 :: (partU x ++ tailU r)).length ≤ 24 + 50 * (r.length + 1)
    rw [List.length_append, List.length_cons, List.length_append]; omega
def q0 (x : LU) : QU := (x.1, 0, x.2)
theorem Print_ok {name : Tx} {sq : Slc} {ls : List LU} {k : ByteArray → Heap → Prop} {h : Heap} (L : LsAt S_api_Question.cs 3 h sq ((ls.map q0).map qst)) (hc : checkU name ls = true)
    (H : ∀ h', Ext h.size h h' → k (ofL (textU name ls)) h') : ref15_Print ⟨ofL name, sq⟩ k h := by
  obtain ⟨hn, h8, hw⟩ := chk_parts hc
  have sl : sq.len = ls.length := by have := L.l; simpa using this
  unfold ref15_Print
  refine ⟨_, _, rfl, rfl, ?_⟩
  have P := Blk.push h (S_api_Selector.cs ⟨ofL name, sq⟩) 63
  have W := Ext.push h (.cells (S_api_Selector.cs ⟨ofL name, sq⟩).toArray 63) (Nat.le_refl _)
  have pl := P.lt
  generalize h.push (.cells (S_api_Selector.cs ⟨ofL name, sq⟩).toArray 63) = h2 at *
  have z2 := W.size
  refine ⟨ofL name, by rw [P.cell]; rfl, ?_⟩
  refine ⟨fun q h' => 0 ≤ q.2 ∧ q.2 ≤ ls.length ∧ q.1 = ofL (preU name (ls.take q.2.toNat)) ∧ Ext h2.size h2 h', fun q _ => (ls.length - q.2).toNat, ⟨by dsimp only; omega, by dsimp only; omega, rfl, Ext.refl _ _⟩, ?_⟩
  rintro t i h3 ⟨i0, i1, te, X⟩
  dsimp only at i0 i1 te
  subst te
  have z3 := X.size
  have P3 := P.ext X pl
  have L3 := (L.ext W).ext X
  have cs : ∀ {h'}, Blk h' h.size (S_api_Selector.cs ⟨ofL name, sq⟩) 63 → cellH h' ((⟨h.size, 0, none⟩ : Addr).add 1) = some (Slc.v sq) := fun K => by rw [add_mk, K.cell]; rfl
  unfold ref15_Print_l1b
  refine ⟨sq, cs P3, ?_⟩
  have pre := pre_le name (ls.take i.toNat) hn fun x hx => hw x (List.mem_of_mem_take hx)
  rw [List.length_take] at pre
  by_cases hi : i < ls.length
  · rw [if_pos (by rw [decide_eq_true_eq]; omega)]
    have hx : ls[i.toNat]? = some (ls[i.toNat]'(by omega)) := by simp
    generalize ls[i.toNat]'(by omega) = x at *
    obtain ⟨w1, w2⟩ := hw x (List.mem_of_getElem? hx)
    have l1 := word_len w1
    have l2 := word_len w2
    obtain ⟨a, ha, C⟩ := L3.at' i.toNat (qst (q0 x)) (by rw [List.getElem?_map, List.getElem?_map, hx]; rfl)
    have C0 := C 0 (.string (ofL x.1)) rfl
    rw [show (a.add (i.toNat * 3)).add 0 = a.add (i.toNat * 3) from by simp [Addr.add]] at C0
    have C1 := C 1 (.int .i64 0) rfl
    have C2 := C 2 (.string (ofL x.2)) rfl
    have j2 : ∀ c : UInt8, c = (if ls.take i.toNat = [] then 123 else 44) → ref15_Print_j2 ⟨h.size, 0, none⟩ i (ofL (preU name (ls.take i.toNat)) ++ ofL [c]) k (fun q h' => (0 ≤ q.2 ∧ q.2 ≤ (ls.length : Int) ∧ q.1 = ofL (preU name (ls.take q.2.toNat)) ∧ Ext h2.size h2 h') ∧ ((ls.length : Int) - q.2).toNat < ((ls.length : Int) - i).toNat) h3 := fun c hcc => by
      unfold ref15_Print_j2
      rw [ofL_app]
      refine ⟨sq, cs P3, a, ha, i0, by omega, ofL x.1, C0, ?_⟩
      rw [ofL_app, size_ofL, size_ofL]
      refine ⟨by simp; omega, sq, cs P3, a, ha, i0, by omega, 0, C1, sq, cs P3, a, ha, i0, by omega, ofL x.2, C2, _, _, rfl, rfl, ?_⟩
      have T := Blk.push h3 [.string (⟨#[61]⟩ : ByteArray), .string (⟨#[33, 61]⟩ : ByteArray), .string (⟨#[94, 61]⟩ : ByteArray)] 9
      have W4 := Ext.push h3 (.cells [.string (⟨#[61]⟩ : ByteArray), .string (⟨#[33, 61]⟩ : ByteArray), .string (⟨#[94, 61]⟩ : ByteArray)].toArray 9) (Nat.le_refl _)
      generalize h3.push (.cells [.string (⟨#[61]⟩ : ByteArray), .string (⟨#[33, 61]⟩ : ByteArray), .string (⟨#[94, 61]⟩ : ByteArray)].toArray 9) = h4 at *
      have P4 := P3.ext W4 P3.lt
      refine ⟨W4.cellAt C2, cs P4, W4.cellAt C1, cs P4, W4.cellAt C0, cs P4, _, rfl, by omega, by simp, ofL [61], by rw [show (0 : Int).toNat * 1 = 0 from rfl, add_mk, T.cell]; rfl, ?_⟩
      rw [ofL_app, ofL_app, size_ofL, size_ofL, size_ofL, size_ofL]
      refine ⟨by simp; omega, by simp; omega, _, rfl, ?_⟩
      rw [wrapI64 (by omega) (by omega)]
      refine ⟨⟨by dsimp only; omega, by dsimp only; omega, ?_, X.trans (W4.mono z3)⟩, by dsimp only; omega⟩
      dsimp only
      rw [show (i + 1).toNat = i.toNat + 1 from by omega, List.take_add_one, hx, Option.toList_some, pre_snoc, ← hcc]
      congr 1
      unfold partU
      simp [List.append_assoc]
    by_cases hi0 : i = 0
    · rw [if_pos (by simp [hi0])]
      refine ⟨by rw [size_ofL]; show _ + 1 ≤ _; omega, ?_⟩
      exact j2 123 (by rw [if_pos (by rw [hi0]; rfl)])
    · rw [if_neg (by simpa using hi0)]
      refine ⟨by rw [size_ofL]; show _ + 1 ≤ _; omega, ?_⟩
      exact j2 44 (by rw [if_neg (fun e => by have := congrArg List.length e; rw [List.length_take, List.length_nil] at this; omega)])
  · rw [if_neg (by rw [decide_eq_true_eq]; omega)]
    rw [List.take_of_length_le (by omega)]
    refine ⟨sq, cs P3, ?_⟩
    have F := H h3 (W.trans (X.mono z2))
    rw [pre_text] at F
    unfold ref15_Print_j3
    by_cases hl : ls = []
    · rw [if_pos hl] at F
      rw [if_neg (by rw [sl, hl]; simp)]
      exact F
    · rw [if_neg hl] at F
      have : 0 < ls.length := List.length_pos_iff.2 hl
      rw [if_pos (by rw [sl]; simpa using this)]
      have pre := pre_le name ls hn hw
      refine ⟨by rw [size_ofL]; show _ + 1 ≤ _; omega, ?_⟩
      rw [show (⟨#[125]⟩ : ByteArray) = ofL [125] from rfl, ofL_app]
      exact F
theorem q0cs (x : LU) : S_api_Question.cs ⟨ofL x.1, 0, ofL x.2⟩ = qcs (q0 x) := rfl
theorem RText_ok {name : Tx} {s : Slc} {ls : List LU} {k : ByteArray → Heap → Prop} {h : Heap} (L : LsAt S_api_Label.cs 2 h s (ls.map lst)) (hc : checkU name ls = true)
    (H : ∀ h', Ext h.size h h' → k (ofL (textU name ls)) h') : ref15_Text ⟨ofL name, s⟩ k h := by
  obtain ⟨hn, h8, hw⟩ := chk_parts hc
  have sl : s.len = ls.length := by have := L.l; simpa using this
  unfold ref15_Text
  refine ⟨_, _, rfl, rfl, ?_⟩
  have P := Blk.push h (S_api_Series.cs ⟨ofL name, s⟩) 66
  have W := Ext.push h (.cells (S_api_Series.cs ⟨ofL name, s⟩).toArray 66) (Nat.le_refl _)
  have pl := P.lt
  generalize h.push (.cells (S_api_Series.cs ⟨ofL name, s⟩).toArray 66) = h2 at *
  have z2 := W.size
  refine ⟨ofL name, by rw [P.cell]; rfl, _, _, rfl, rfl, ?_⟩
  have Q := Blk.push h2 (S_api_Selector.cs zSel) 63
  have Q2 := Q.sets_all (vs := S_api_Selector.cs ⟨ofL name, ⟨none, 0, 0⟩⟩) rfl
  have W3 := (Ext.push h2 (.cells (S_api_Selector.cs zSel).toArray 63) (Nat.le_refl _)).trans (Ext.sets _ (a := ⟨h2.size, 0, none⟩) 0 (S_api_Selector.cs ⟨ofL name, ⟨none, 0, 0⟩⟩) (Nat.le_refl _))
  refine ⟨_, WrsAt.of_blk Q (by rw [scs_len]; omega), rfl, ?_⟩
  generalize setsH (h2.push (.cells (S_api_Selector.cs zSel).toArray 63)) ⟨h2.size, 0, none⟩ 0 (S_api_Selector.cs ⟨ofL name, ⟨none, 0, 0⟩⟩) = h3 at *
  have z3 := W3.size
  have ql := Q2.lt
  have P3 := P.ext W3 pl
  have X3 : Ext h.size h h3 := W.trans (W3.mono z2)
  have cs : ∀ {h'}, Blk h' h.size (S_api_Series.cs ⟨ofL name, s⟩) 66 → cellH h' ((⟨h.size, 0, none⟩ : Addr).add 1) = some (Slc.v s) := fun K => by rw [add_mk, K.cell]; rfl
  refine ⟨fun i h' => ∃ sq, 0 ≤ i ∧ i ≤ ls.length ∧ Blk h' h.size (S_api_Series.cs ⟨ofL name, s⟩) 66 ∧ Blk h' h2.size (S_api_Selector.cs ⟨ofL name, sq⟩) 63 ∧ Row (h2.size + 1) h' 165 3 sq ((ls.take i.toNat).flatMap fun x => qcs (q0 x)) ∧ sq.len = i.toNat ∧ Ext h.size h h', fun i _ => (ls.length - i).toNat, ⟨⟨none, 0, 0⟩, by omega, by omega, P3, Q2, by simpa using Row.nil _ _ _ _, rfl, X3⟩, ?_⟩
  rintro i h4 ⟨sq, i0, i1, P4, Q4, R4, tl, X⟩
  have z4 := X.size
  have p4 := P4.lt
  have q4 := Q4.lt
  have L4 := L.ext X
  unfold ref15_Text_l1b
  refine ⟨s, cs P4, ?_⟩
  by_cases hi : i < ls.length
  · rw [if_pos (by rw [decide_eq_true_eq]; omega)]
    have hx : ls[i.toNat]? = some (ls[i.toNat]'(by omega)) := by simp
    generalize ls[i.toNat]'(by omega) = x at *
    obtain ⟨a, ha, C⟩ := L4.at' i.toNat (lst x) (by rw [List.getElem?_map, hx]; rfl)
    have C0 := C 0 (.string (ofL x.1)) rfl
    rw [show (a.add (i.toNat * 2)).add 0 = a.add (i.toNat * 2) from by simp [Addr.add]] at C0
    refine ⟨sq, by rw [add_mk, Q4.cell]; rfl, s, cs P4, a, ha, i0, by omega, ofL x.1, C0, s, cs P4, a, ha, i0, by omega, ofL x.2, C 1 _ rfl, _, _, rfl, rfl, ?_⟩
    refine ⟨by rw [add_mk, (Q4.pushed _).cell]; rfl, ?_⟩
    refine App.row (R4.pushed _) (by simp; omega) rfl rfl (oneC (by kernel_rfl)) (by omega) (by simp only [maxLen]; omega) fun s'' h8 R8 l8 z8 F8 _ => ?_
    simp at z8
    have F : ∀ g, g < h4.size → sq.blk ≠ some g → h8[g]? = h4[g]? := fun g hg hs => by rw [F8 g (by simp; omega) hs, Array.getElem?_push, if_neg (by omega)]
    have ns : ∀ g, g ≤ h2.size → sq.blk ≠ some g := fun g hg e => by have := (R4.bd e).1; omega
    have P8 : Blk h8 h.size (S_api_Series.cs ⟨ofL name, s⟩) 66 := P4.old (F h.size (by omega) (ns _ (by omega)))
    have Q8 : Blk h8 h2.size (S_api_Selector.cs ⟨ofL name, sq⟩) 63 := Q4.old (F h2.size (by omega) (ns _ (Nat.le_refl _)))
    refine ⟨_, by rw [add_mk]; exact Q8.wr (by rw [scs_len]; omega), rfl, ?_⟩
    rw [show (⟨h2.size, 0, none⟩ : Addr).add 1 = ⟨h2.size, 1, none⟩ from by simp]
    have Q9 : Blk (setH h8 ⟨h2.size, 1, none⟩ (Slc.v s'')) h2.size (S_api_Selector.cs ⟨ofL name, s''⟩) 63 := Q8.set
    have oth : ∀ g, g ≠ h2.size → (setH h8 ⟨h2.size, 1, none⟩ (Slc.v s''))[g]? = h8[g]? := fun g hg => setH_other hg
    have z9 : (setH h8 ⟨h2.size, 1, none⟩ (Slc.v s'')).size = h8.size := setH_size
    generalize setH h8 ⟨h2.size, 1, none⟩ (Slc.v s'') = h9 at *
    refine ⟨_, rfl, ?_⟩
    rw [wrapI64 (by omega) (by omega)]
    refine ⟨⟨s'', by omega, by omega, P8.old (oth _ (by omega)), Q9, ?_, by rw [l8]; omega, X.trans ⟨by omega, fun g hg => by rw [oth g (by omega), F g (by omega) (ns g (by omega))]⟩⟩, by dsimp only; omega⟩
    have := R8.keep fun g hg => oth g (by have := (R8.bd hg).1; omega)
    rw [show (i + 1).toNat = i.toNat + 1 from by omega, List.take_add_one, hx, List.flatMap_append]
    rw [q0cs] at this
    simpa using this
  · rw [if_neg (by rw [decide_eq_true_eq]; omega)]
    rw [List.take_of_length_le (by omega)] at R4
    refine ⟨⟨ofL name, sq⟩, CellsAt.of_blk Q4, ?_⟩
    have Lq : LsAt S_api_Question.cs 3 h4 sq ((ls.map q0).map qst) := LsAt.of_slc scs3_len (by rw [List.flatMap_map, List.flatMap_map]; exact R4.slc) (by rw [List.length_map, List.length_map]; omega) (by omega)
    exact Print_ok Lq hc fun h5 X5 => H h5 (X.trans (X5.mono z4))
/-! ### the same? -/
theorem RSame_ok {n m : Tx} {s t : Slc} {ls ks : List LU} {k : Bool → Heap → Prop} {h : Heap} (L : LsAt S_api_Label.cs 2 h s (ls.map lst)) (M : LsAt S_api_Label.cs 2 h t (ks.map lst)) (h8 : ls.length ≤ 1000)
    (H : ∀ h', Ext h.size h h' → k (decide (n = m ∧ ls = ks)) h') : ref15_SameSeries ⟨ofL n, s⟩ ⟨ofL m, t⟩ k h := by
  have sl : s.len = ls.length := by have := L.l; simpa using this
  have tl : t.len = ks.length := by have := M.l; simpa using this
  unfold ref15_SameSeries
  refine ⟨_, _, rfl, rfl, ?_⟩
  have P := Blk.push h (S_api_Series.cs ⟨ofL n, s⟩) 66
  have W := Ext.push h (.cells (S_api_Series.cs ⟨ofL n, s⟩).toArray 66) (Nat.le_refl _)
  have pl := P.lt
  generalize h.push (.cells (S_api_Series.cs ⟨ofL n, s⟩).toArray 66) = h2 at *
  have z2 := W.size
  refine ⟨_, _, rfl, rfl, ?_⟩
  have Q := Blk.push h2 (S_api_Series.cs ⟨ofL m, t⟩) 66
  have W3 := Ext.push h2 (.cells (S_api_Series.cs ⟨ofL m, t⟩).toArray 66) (Nat.le_refl _)
  generalize h2.push (.cells (S_api_Series.cs ⟨ofL m, t⟩).toArray 66) = h3 at *
  have P3 := P.ext W3 pl
  have L3 := (L.ext W).ext W3
  have M3 := (M.ext W).ext W3
  have F := H h3 (W.trans (W3.mono z2))
  have cs : cellH h3 ((⟨h.size, 0, none⟩ : Addr).add 1) = some (Slc.v s) := by rw [add_mk, P3.cell]; rfl
  have ct : cellH h3 ((⟨h2.size, 0, none⟩ : Addr).add 1) = some (Slc.v t) := by rw [add_mk, Q.cell]; rfl
  refine ⟨ofL n, by rw [P3.cell]; rfl, ofL m, by rw [Q.cell]; rfl, ?_⟩
  rw [bq]
  by_cases hnm : n = m
  · rw [if_neg (by simp [hnm])]
    refine ⟨s, cs, t, ct, ?_⟩
    unfold ref15_SameSeries_g1
    by_cases hl : ls.length = ks.length
    · rw [if_neg (by rw [sl, tl, hl]; simp)]
      refine ⟨fun i h' => 0 ≤ i ∧ i ≤ ls.length ∧ ls.take i.toNat = ks.take i.toNat ∧ h' = h3, fun i _ => (ls.length - i).toNat, ⟨by omega, by omega, by simp, rfl⟩, ?_⟩
      rintro i h' ⟨i0, i1, ha, e⟩
      subst e
      unfold ref15_SameSeries_l2b
      refine ⟨s, cs, ?_⟩
      by_cases hi : i < ls.length
      · rw [if_pos (by rw [decide_eq_true_eq]; omega)]
        have hx : ls[i.toNat]? = some (ls[i.toNat]'(by omega)) := by simp
        have hy : ks[i.toNat]? = some (ks[i.toNat]'(by omega)) := by simp
        generalize ls[i.toNat]'(by omega) = x at *
        generalize ks[i.toNat]'(by omega) = y at *
        obtain ⟨a, ha1, C⟩ := L3.at' i.toNat (lst x) (by rw [List.getElem?_map, hx]; rfl)
        obtain ⟨b, hb1, D⟩ := M3.at' i.toNat (lst y) (by rw [List.getElem?_map, hy]; rfl)
        refine ⟨s, cs, a, ha1, i0, by omega, lst x, C, t, ct, b, hb1, i0, by omega, lst y, D, ?_⟩
        show (if (!(((ofL x.1).toList == (ofL y.1).toList) && ((ofL x.2).toList == (ofL y.2).toList))) = true then _ else _)
        rw [bq, bq]
        by_cases hxy : x = y
        · rw [if_neg (by simp [hxy])]
          refine ⟨_, rfl, ?_⟩
          rw [wrapI64 (by omega) (by omega)]
          refine ⟨⟨by omega, by omega, ?_, rfl⟩, by dsimp only; omega⟩
          rw [show (i + 1).toNat = i.toNat + 1 from by omega, List.take_add_one, List.take_add_one, hx, hy, ha, hxy]
        · have ne : ¬ (x.1 = y.1 ∧ x.2 = y.2) := fun e => hxy (Prod.ext e.1 e.2)
          rw [if_pos (by simp; exact Classical.not_and_iff_not_or_not.1 ne)]
          rw [show decide (n = m ∧ ls = ks) = false from by
            simp only [decide_eq_false_iff_not]
            rintro ⟨_, e⟩
            rw [e, hy] at hx
            exact hxy (Option.some.inj hx).symm] at F
          exact F
      · rw [if_neg (by rw [decide_eq_true_eq]; omega)]
        rw [List.take_of_length_le (by omega), List.take_of_length_le (by omega)] at ha
        rw [show decide (n = m ∧ ls = ks) = true from by simp [hnm, ha]] at F
        exact F
    · rw [if_pos (by rw [sl, tl]; simp; omega)]
      rw [show decide (n = m ∧ ls = ks) = false from by
        simp only [decide_eq_false_iff_not]
        rintro ⟨_, e⟩
        exact hl (congrArg List.length e)] at F
      exact F
  · rw [if_pos (by simpa using hnm)]
    unfold ref15_SameSeries_g1
    rw [if_pos rfl]
    rw [show decide (n = m ∧ ls = ks) = false from by simp [hnm]] at F
    exact F
end Go.Q.Yb
