/- A part of the proof of statements of this seat: lemmas, no statement of their own. -/
import Derived.Test.YtcmbgfmbmbgbiaaYbLabI
import Derived.Test.YtcmbgfmbmbgbiaaYbOpenL
import Derived.Test.YtcmbgfmbmbgbiaaYbLabF
set_option linter.unusedVariables false
set_option linter.unusedSimpArgs false
namespace Go.Q.Yb
theorem LWrites_ok {n m : Tx} {s t : Slc} {ls ks : List LU} {k : Bool → Heap → Prop} {h : Heap} (L : LsAt S_api_Label.cs 2 h s (ls.map lst)) (M : LsAt S_api_Label.cs 2 h t (ks.map lst)) (okl : okL ls) (okk : okL ks) (okn : n.length ≤ 9223372036854775807)
    (H : ∀ h', Ext h.size h h' → k true h') : law15_LabelWrites ⟨ofL n, s⟩ ⟨ofL m, t⟩ k h := by
  have sl : s.len = ls.length := by have := L.l; simpa using this
  unfold law15_LabelWrites
  refine ⟨_, _, rfl, rfl, ?_⟩
  have P := Blk.push h (S_api_Series.cs ⟨ofL n, s⟩) 66
  have W := Ext.push h (.cells (S_api_Series.cs ⟨ofL n, s⟩).toArray 66) (Nat.le_refl _)
  have pl := P.lt
  generalize h.push (.cells (S_api_Series.cs ⟨ofL n, s⟩).toArray 66) = h2 at *
  have z2 := W.size
  refine ⟨_, _, rfl, rfl, ?_⟩
  have Q := Blk.push h2 (S_api_Series.cs ⟨ofL m, t⟩) 66
  have W3 := Ext.push h2 (.cells (S_api_Series.cs ⟨ofL m, t⟩).toArray 66) (Nat.le_refl _)
  generalize h2.push (.cells (S_api_Series.cs ⟨ofL m, t⟩).toArray 66) = h3 at *
  have z3 := W3.size
  have P3 := P.ext W3 pl
  have X3 : Ext h.size h h3 := W.trans (W3.mono z2)
  -- all that is seen, in a later heap
  have all : ∀ {h'}, Ext h3.size h3 h' → Blk h' h.size (S_api_Series.cs ⟨ofL n, s⟩) 66 ∧ Blk h' h2.size (S_api_Series.cs ⟨ofL m, t⟩) 66 ∧ LsAt S_api_Label.cs 2 h' s (ls.map lst) ∧ LsAt S_api_Label.cs 2 h' t (ks.map lst) ∧ Ext h.size h h' ∧ h3.size ≤ h'.size := fun X =>
    ⟨P3.ext X P3.lt, Q.ext X Q.lt, (L.ext X3).ext X, (M.ext X3).ext X, X3.trans (X.mono X3.size), X.size⟩
  have aw : ∀ {h'}, Ext h3.size h3 h' → law15_awake (fun (r8 : Bool) h9 => k r8 h9) h' := fun X => awake15_ok fun h'' X' => H h'' ((all X).2.2.2.2.1.trans (X'.mono (all X).2.2.2.2.1.size))
  have g1 : ∀ (b : Bool) {h'}, Ext h3.size h3 h' → (b = false → ls.length ≤ 20 ∧ ks.length ≤ 20) → law15_LabelWrites_g1 ⟨h.size, 0, none⟩ ⟨h2.size, 0, none⟩ b k h' := fun b h4 X4 hb => by
    unfold law15_LabelWrites_g1
    cases b with
    | true => rw [if_pos rfl]; exact aw X4
    | false =>
      rw [if_neg (by simp)]
      obtain ⟨l20, k20⟩ := hb rfl
      obtain ⟨P4, Q4, L4, M4, Y4, z4⟩ := all X4
      refine ⟨_, CellsAt.of_blk P4, ?_⟩
      refine SCheck_ok L4 okn okl (by omega) fun h5 X5 => ?_
      have X5' : Ext h3.size h3 h5 := X4.trans (X5.mono z4)
      obtain ⟨P5, Q5, L5, M5, Y5, z5⟩ := all X5'
      refine ⟨_, CellsAt.of_blk P5, RCheck_ok L5 fun h6 X6 => ?_⟩
      have X6' : Ext h3.size h3 h6 := X5'.trans (X6.mono z5)
      obtain ⟨P6, Q6, L6, M6, Y6, z6⟩ := all X6'
      rw [if_neg (by cases checkU n ls <;> simp)]
      refine ⟨_, CellsAt.of_blk P6, RCheck_ok L6 fun h7 X7 => ?_⟩
      have X7' : Ext h3.size h3 h7 := X6'.trans (X7.mono z6)
      obtain ⟨P7, Q7, L7, M7, Y7, z7⟩ := all X7'
      cases hc : checkU n ls with
      | false =>
        rw [if_pos (by simp)]
        unfold law15_LabelWrites_g2
        rw [if_pos rfl]
        exact aw X7'
      | true =>
      rw [if_neg (by simp)]
      refine ⟨_, CellsAt.of_blk Q7, RCheck_ok M7 fun h8 X8 => ?_⟩
      have X8' : Ext h3.size h3 h8 := X7'.trans (X8.mono z7)
      obtain ⟨P8, Q8, L8, M8, Y8, z8⟩ := all X8'
      unfold law15_LabelWrites_g2
      cases hd : checkU m ks with
      | false =>
        rw [if_pos (by simp)]
        exact aw X8'
      | true =>
      rw [if_neg (by simp)]
      refine ⟨_, CellsAt.of_blk P8, Text_ok L8 hc fun h9 X9 => ?_⟩
      have X9' : Ext h3.size h3 h9 := X8'.trans (X9.mono z8)
      obtain ⟨P9, Q9, L9, M9, Y9, z9⟩ := all X9'
      have tl := text_le hc
      refine Parse_ok (l := textU n ls) (by omega) (fun h' hn _ => by rw [parse_text hc] at hn; cases hn) fun name ls' s' h10 hp R10 sl' X10 => ?_
      rw [parse_text hc] at hp; cases hp
      have X10' : Ext h3.size h3 h10 := X9'.trans (X10.mono z9)
      obtain ⟨P10, Q10, L10, M10, Y10, z10⟩ := all X10'
      refine ⟨_, _, rfl, rfl, ?_⟩
      have V := Blk.push h10 (S_api_Series.cs zSer) 66
      have V2 := V.sets_all (vs := S_api_Series.cs ⟨ofL n, s'⟩) rfl
      have W11 := (Ext.push h10 (.cells (S_api_Series.cs zSer).toArray 66) (Nat.le_refl _)).trans (Ext.sets _ (a := ⟨h10.size, 0, none⟩) 0 (S_api_Series.cs ⟨ofL n, s'⟩) (Nat.le_refl _))
      refine ⟨_, WrsAt.of_blk V (by rw [sercs_len]; omega), rfl, ?_⟩
      dsimp only
      generalize setsH (h10.push (.cells (S_api_Series.cs zSer).toArray 66)) ⟨h10.size, 0, none⟩ 0 (S_api_Series.cs ⟨ofL n, s'⟩) = h11 at *
      have X11' : Ext h3.size h3 h11 := X10'.trans (W11.mono z10)
      obtain ⟨P11, Q11, L11, M11, Y11, z11⟩ := all X11'
      have z1011 := W11.size
      have vl := V2.lt
      have R11 := R10.ext W11 fun g hg => (R10.bd hg).2
      have N11 : LsAt S_api_Label.cs 2 h11 s' (ls.map lst) := LsAt.of_slc labcs_len (by rw [List.flatMap_map]; exact R11.slc) (by rw [List.length_map]; exact sl') (by omega)
      refine ⟨_, CellsAt.of_blk P11, RText_ok L11 hc fun h12 X12 => ?_⟩
      have X12' : Ext h3.size h3 h12 := X11'.trans (X12.mono z11)
      obtain ⟨P12, Q12, L12, M12, Y12, z12⟩ := all X12'
      have V12 := V2.ext X12 vl
      have N12 := N11.ext X12
      rw [if_pos (by simp), if_pos (by simp)]
      refine ⟨_, CellsAt.of_blk V12, _, CellsAt.of_blk P12, RSame_ok N12 L12 (by omega) fun h13 X13 => ?_⟩
      have X13' : Ext h3.size h3 h13 := X12'.trans (X13.mono z12)
      obtain ⟨P13, Q13, L13, M13, Y13, z13⟩ := all X13'
      rw [if_pos (by simp)]
      refine ⟨_, CellsAt.of_blk Q13, _, CellsAt.of_blk P13, _, CellsAt.of_blk Q13, Text_ok M13 hd fun h14 X14 => ?_⟩
      have X14' : Ext h3.size h3 h14 := X13'.trans (X14.mono z13)
      obtain ⟨P14, Q14, L14, M14, Y14, z14⟩ := all X14'
      refine ⟨CellsAt.of_blk Q14, CellsAt.of_blk P14, RSame_ok L14 M14 (by omega) fun h15 X15 => ?_⟩
      have X15' : Ext h3.size h3 h15 := X14'.trans (X15.mono z14)
      rw [bq]
      have e : (decide (textU n ls = textU m ks)) = decide (n = m ∧ ls = ks) := decide_eq_decide.2 ⟨fun e => text_inj hc hd e, fun e => by rw [e.1, e.2]⟩
      rw [e, if_pos (by simp)]
      have := aw X15'
      exact this
  refine ⟨_, CellsAt.of_blk P3, Great15_ok (qn := []) (qs := []) (sn := n) ⟨rfl, fun i x hx => by simp at hx⟩ (L.ext X3) fun r h4 X4 hr => ?_⟩
  have z4 := X4.size
  cases r with
  | true =>
    rw [if_pos rfl]
    exact g1 true X4 fun h => by cases h
  | false =>
    rw [if_neg (by simp)]
    obtain ⟨_, _, ⟨l20, _⟩, _⟩ := hr rfl
    obtain ⟨P4, Q4, L4, M4, Y4, _⟩ := all X4
    refine ⟨_, CellsAt.of_blk Q4, Great15_ok (qn := []) (qs := []) (sn := m) ⟨rfl, fun i x hx => by simp at hx⟩ M4 fun r h5 X5 hr5 => ?_⟩
    refine g1 r (X4.trans (X5.mono z4)) fun hr0 => ?_
    obtain ⟨_, _, ⟨k20, _⟩, _⟩ := hr5 hr0
    exact ⟨l20, k20⟩
theorem okL_of {xs : List S_api_Label} (o : ∀ y ∈ xs, y.f_Name.size ≤ maxLen ∧ y.f_Value.size ≤ maxLen) : okL (xs.map fun y => (U y.f_Name, U y.f_Value)) := fun x hx => by
  obtain ⟨y, hy, rfl⟩ := List.mem_map.1 hx
  obtain ⟨o1, o2⟩ := o y hy
  have : maxLen = 9223372036854775807 := rfl
  exact ⟨by rw [U_len]; omega, by rw [U_len]; omega⟩
theorem lst_map (zs : List S_api_Label) : (zs.map fun y => ((U y.f_Name, U y.f_Value) : LU)).map lst = zs := by
  rw [List.map_map]; exact (List.map_congr_left fun y _ => lst_U y).trans (List.map_id' _)
theorem LWrites_all {a b : S_api_Series} {k : Bool → Heap → Prop} {h : Heap} (oa : Ok_S_api_Series h a) (ob : Ok_S_api_Series h b) (H : ∀ h', Ext h.size h h' → k true h') : law15_LabelWrites a b k h := by
  obtain ⟨na, _, _, ys, La, ya⟩ := oa
  obtain ⟨_, _, _, zs, Lb, yb⟩ := ob
  have := LWrites_ok (n := U a.f_Name) (m := U b.f_Name) (s := a.f_Labels) (t := b.f_Labels) (k := k) (h := h) (by rw [lst_map ys]; exact La) (by rw [lst_map zs]; exact Lb) (okL_of ya) (okL_of yb) (by rw [U_len]; have : maxLen = 9223372036854775807 := rfl; omega) H
  rw [ofL_U, ofL_U] at this
  exact this
end Go.Q.Yb
