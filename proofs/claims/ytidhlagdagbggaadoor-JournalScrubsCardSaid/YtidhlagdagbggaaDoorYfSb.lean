/- A part of the proof of statements of this seat: lemmas, no statement of their own. -/
import Derived.Test.YtidhlagdagbggaaDoorYfSa
set_option linter.unusedVariables false
set_option linter.unusedSimpArgs false
set_option maxRecDepth 100000
/- Slot: words go through a block. -/
namespace Go.Q.Yf
abbrev wr32 (x : Int) : Int := IntKind.u32.wrap x
def oneD (V : List Int) (w c : Int) : Int := wr32 (wr32 (wr32 (wr32 (V.getD 7 0 + turnD (V.getD 4 0) 6 11 25 false) + bwXor .u32 (bwAnd .u32 (V.getD 4 0) (V.getD 5 0)) (bwAnd .u32 (bwXor .u32 4294967295 (V.getD 4 0)) (V.getD 6 0))) + c) + w)
def twoD (V : List Int) : Int := wr32 (turnD (V.getD 0 0) 2 13 22 false + bwXor .u32 (bwXor .u32 (bwAnd .u32 (V.getD 0 0) (V.getD 1 0)) (bwAnd .u32 (V.getD 0 0) (V.getD 2 0))) (bwAnd .u32 (V.getD 1 0) (V.getD 2 0)))
def movD (V : List Int) : List Int := V.take 1 ++ V.take 7
def rnd (V : List Int) (w c : Int) : List Int := ((movD V).set 0 (wr32 (oneD V w c + twoD V))).set 4 (wr32 ((movD V).getD 4 0 + oneD V w c))
def rndUp (V0 W : List Int) : Nat → List Int
  | 0 => V0
  | n + 1 => rnd (rndUp V0 W n) (W.getD n 0) (rcL.getD n 0)
def addUp (H V : List Int) : Nat → List Int
  | 0 => H
  | n + 1 => (addUp H V n).set n (wr32 ((addUp H V n).getD n 0 + V.getD n 0))
def stepD (H bl : List Int) : List Int := addUp H (rndUp H (schUp bl 64) 64) 8
theorem mov_len {V : List Int} (h : V.length = 8) : (movD V).length = 8 := by unfold movD; rw [List.length_append, List.length_take, List.length_take]; omega
theorem rnd_len {V : List Int} (w c : Int) (h : V.length = 8) : (rnd V w c).length = 8 := by unfold rnd; rw [List.length_set, List.length_set]; exact mov_len h
theorem rndUp_len {V0 W : List Int} (h : V0.length = 8) : ∀ n, (rndUp V0 W n).length = 8
  | 0 => h
  | n + 1 => rnd_len _ _ (rndUp_len h n)
theorem addUp_len {H V : List Int} (h : H.length = 8) : ∀ n, (addUp H V n).length = 8
  | 0 => h
  | n + 1 => by rw [addUp, List.length_set]; exact addUp_len h n
theorem step_len {H bl : List Int} (h : H.length = 8) : (stepD H bl).length = 8 := addUp_len h 8
theorem rc_at {h : Heap} (r : R0 h) {i : Nat} (hi : i < 64) : cellH h ((⟨0, 0, none⟩ : Addr).add (i * 1)) = some (.int .u32 (rcL.getD i 0)) := by
  rw [Nat.mul_one]
  have hl : i < rcL.length := hi
  exact r i _ (by simp [hl])
theorem cpy_mk {sz : Nat} {h : Heap} {d s : Slc} {news : List Value} {k : Heap → Prop} {a : Addr} (ha : d.a = some a) (h1 : ∃ all, SlcAt h s all ∧ all.length = s.len * sz ∧ news = all.take (min s.len d.len * sz)) (h2 : ∀ v ∈ news, v.oneCell' = true) (h3 : WrsAt h a news.length) (K : k (setsH h a 0 news)) : Cpy sz h d s news k := by
  refine ⟨h1, h2, fun hn => (by rw [ha] at hn; cases hn), fun b hb => ?_, ?_⟩
  · rw [ha] at hb; cases hb; exact h3
  · rw [ha]; exact K
theorem Step_ok {H : List Int} {s : Slc} {bl : List Int} {k : List Int → Heap → Prop} {h : Heap} (r : R0 h) (hH : H.length = 8) (S : SlcAt h s (b8 bl)) (l : s.len = 64) (lb : bl.length = 64) (lc : s.len ≤ s.cap)
    (F : ∀ h', Ext h.size h h' → k (stepD H bl) h') : sha_words_step H s k h := by
  have r0 := r.pos
  unfold sha_words_step
  have eH : arr 8 .u32 H = u32s H := arr_full hH
  refine ⟨_, _, rfl, rfl, _, _, rfl, rfl, ?_⟩
  have P := Blk.push h (arr 8 .u32 H) 110
  have W2 := Ext.push h (.cells (arr 8 .u32 H).toArray 110) (Nat.le_refl _)
  have pl := P.lt
  generalize h.push (.cells (arr 8 .u32 H).toArray 110) = h2 at *
  have z2 := W2.size
  have Q := Blk.push h2 (arr 8 .u32 ([] : List Int)) 110
  have W3 := Ext.push h2 (.cells (arr 8 .u32 ([] : List Int)).toArray 110) (Nat.le_refl _)
  have ql := Q.lt
  generalize h2.push (.cells (arr 8 .u32 ([] : List Int)).toArray 110) = h4 at *
  have P4 := P.ext W3 pl
  have X4 : Ext h.size h h4 := W2.trans (W3.mono z2)
  have z4 := X4.size
  have z24 := W3.size
  refine ⟨H, CellsAt.of_blk P4, _, _, rfl, rfl, ?_⟩
  have V := Blk.push h4 (arr 8 .u32 ([] : List Int)) 110
  have W5 := Ext.push h4 (.cells (arr 8 .u32 ([] : List Int)).toArray 110) (Nat.le_refl _)
  generalize h4.push (.cells (arr 8 .u32 ([] : List Int)).toArray 110) = h7 at *
  refine ⟨_, WrsAt.of_blk V (by show 8 ≤ 8; omega), rfl, ?_⟩
  have V8 : Blk (setsH h7 ⟨h4.size, 0, none⟩ 0 (arr 8 .u32 H)) h4.size (arr 8 .u32 H) 110 := V.sets_all (by rw [eH, List.length_map, hH]; rfl)
  have X8 : Ext h4.size h4 (setsH h7 ⟨h4.size, 0, none⟩ 0 (arr 8 .u32 H)) := W5.trans (Ext.sets _ _ _ (Nat.le_refl _))
  generalize setsH h7 ⟨h4.size, 0, none⟩ 0 (arr 8 .u32 H) = h8 at *
  have z8 := X8.size
  have vl := V8.lt
  obtain ⟨b6, eb6⟩ : ∃ y, y = h4.size := ⟨_, rfl⟩
  obtain ⟨b3, eb3⟩ : ∃ y, y = h2.size := ⟨_, rfl⟩
  obtain ⟨b1, eb1⟩ : ∃ y, y = h.size := ⟨_, rfl⟩
  have X08 : Ext b1 h h8 := by rw [eb1]; exact X4.trans (X8.mono z4)
  have P8 := P4.ext X8 (by omega)
  have Q8 := Q.ext X8 (by omega)
  have S8 : SlcAt h8 s (b8 bl) := S.ext (by rw [← eb1]; exact X08)
  refine Sched_ok S8 l lb lc fun h10 X10 => ?_
  have P10 := P8.ext X10 (by omega)
  have Q10 := Q8.ext X10 (by omega)
  have V10 := V8.ext X10 vl
  have X010 : Ext b1 h h10 := X08.trans (X10.mono (by omega))
  rw [← eb6] at V10 ⊢
  rw [← eb3] at Q10 ⊢
  rw [← eb1] at P10 F r0 ⊢
  rw [eH] at P10 V10
  clear P P4 P8 Q Q8 V V8 W2 W3 W5 X4 X8 X10 X08 S8
  have dis : b1 ≠ b3 ∧ b1 ≠ b6 ∧ b3 ≠ b6 ∧ b1 ≤ b3 ∧ b1 ≤ b6 := by omega
  generalize eW : schUp bl 64 = W at *
  unfold sha_words_step_l1
  refine ⟨fun i h' => 0 ≤ i ∧ i ≤ 64 ∧ Blk h' b1 (u32s H) 110 ∧ Blk h' b3 (arr 8 .u32 ([] : List Int)) 110 ∧ Blk h' b6 (u32s (rndUp H W i.toNat)) 110 ∧ Ext b1 h h', fun i _ => (64 - i).toNat, ⟨by omega, by omega, P10, Q10, V10, X010⟩, ?_⟩
  rintro i h1 ⟨i0, i1, P1, Q1, V1, X1⟩
  have lv := rndUp_len (W := W) hH i.toNat
  unfold sha_words_step_l1b
  by_cases c : i < 64
  · rw [if_pos (by rw [decide_eq_true_eq]; exact c)]
    generalize eV : rndUp H W i.toNat = Vi at *
    have cv : ∀ j : Nat, j < 8 → cellH h1 ((⟨b6, 0, none⟩ : Addr).add ((j : Int).toNat * 1)) = some (.int .u32 (Vi.getD j 0)) := fun j hj => by
      rw [add_mk, Nat.zero_add, Nat.mul_one, Int.toNat_natCast, u32_at V1 (by omega)]
    have cr := rc_at (r.ext X1 r0) (i := i.toNat) (by omega)
    refine ⟨i0, c, _, rfl, by omega, by omega, _, cv 0 (by omega), by omega, by omega, _, cv 4 (by omega), by omega, by omega, _, cv 7 (by omega), by omega, by omega, _, cv 5 (by omega), by omega, by omega, _, cv 6 (by omega), i0, c, _, cr, Turned_ok ⟨cr, cv 6 (by omega), cv 5 (by omega), cv 7 (by omega),
      by omega, by omega, _, cv 1 (by omega), by omega, by omega, _, cv 2 (by omega), by omega, by omega, _, cv 1 (by omega), by omega, by omega, _, cv 2 (by omega), Turned_ok ⟨cv 2 (by omega), cv 1 (by omega), cv 2 (by omega), cv 1 (by omega), _, by omega, by omega, by omega, rfl, _, by omega, by omega, by omega, rfl, u32s (Vi.take 7), ?_⟩⟩⟩
    have lu : (u32s Vi).length = 8 := by rw [List.length_map, lv]
    have l7 : (u32s (Vi.take 7)).length = 7 := by rw [List.length_map, List.length_take]; omega
    refine cpy_mk (a := ⟨b6, 1, none⟩) ?_ ⟨u32s (Vi.take 7), ?_, ?_, ?_⟩ (u32s_one _) (fun j hj => ?_) ?_
    · show some ((⟨b6, 0, none⟩ : Addr).add 1) = _
      rw [add_mk]
    · refine ⟨fun hn => ?_, fun a ha j v hj => ?_⟩
      · have : some (((⟨b6, 0, none⟩ : Addr).add 0)) = none := hn
        cases this
      have ea : a = ⟨b6, 0, none⟩ := by
        have : some (((⟨b6, 0, none⟩ : Addr).add 0)) = some a := ha
        rw [add_mk] at this
        exact (Option.some.inj this).symm
      rw [ea, add_mk, Nat.zero_add, V1.cell]
      rw [u32s, List.map_take, List.getElem?_take] at hj
      split at hj
      · exact hj
      · cases hj
    · rw [l7]; rfl
    · exact (List.take_of_length_le (by rw [l7]; show 7 ≤ min (7 - 0) (8 - 1) * 1; omega)).symm
    · rw [add_mk]
      exact V1.wr (by omega)
    · skip
      have V2 : Blk (setsH h1 ⟨b6, 1, none⟩ 0 (u32s (Vi.take 7))) b6 (u32s (movD Vi)) 110 := by
        have := Blk.sets (u32s (Vi.take 7)) 1 0 V1 (by rw [l7, lu]; omega)
        rw [l7, List.drop_of_length_le (by rw [lu]; omega), List.append_nil] at this
        rw [show u32s (movD Vi) = (u32s Vi).take (1 + 0) ++ u32s (Vi.take 7) from by unfold movD; rw [u32s, List.map_append, List.map_take]]
        exact this
      have o2 : ∀ j, j ≠ b6 → (setsH h1 ⟨b6, 1, none⟩ 0 (u32s (Vi.take 7)))[j]? = h1[j]? := fun j hj => setsH_other _ _ hj
      have s2 : (setsH h1 ⟨b6, 1, none⟩ 0 (u32s (Vi.take 7))).size = h1.size := setsH_size _ _
      generalize setsH h1 ⟨b6, 1, none⟩ 0 (u32s (Vi.take 7)) = h2' at *
      have lm : (movD Vi).length = 8 := mov_len lv
      have lmu : (u32s (movD Vi)).length = 8 := by rw [List.length_map, lm]
      refine ⟨by omega, by omega, (movD Vi).getD 4 0, ?_, by omega, by omega, _, ?_, rfl, by omega, by omega, _, ?_, rfl, ?_⟩
      · rw [add_mk]; exact u32_at V2 (by omega)
      · rw [add_mk]; exact V2.wr (by rw [lmu]; omega)
      · rw [add_mk, add_mk]; exact V2.set.wr (by rw [List.length_set, lmu]; omega)
      · rw [add_mk, add_mk]
        have V4 := (V2.set (i := 0 + (0 : Int).toNat * 1) (v := .int .u32 (wr32 (oneD Vi (W.getD i.toNat 0) (rcL.getD i.toNat 0) + twoD Vi)))).set (i := 0 + (4 : Int).toNat * 1) (v := .int .u32 (wr32 ((movD Vi).getD 4 0 + oneD Vi (W.getD i.toNat 0) (rcL.getD i.toNat 0))))
        rw [wrapI64 (by omega) (by omega)]
        refine ⟨⟨by omega, by omega, P1.old ?_, Q1.old ?_, ?_, ?_⟩, by dsimp only; omega⟩
        · rw [setH_other dis.2.1, setH_other dis.2.1]; exact o2 _ dis.2.1
        · rw [setH_other dis.2.2.1, setH_other dis.2.2.1]; exact o2 _ dis.2.2.1
        · rw [show (i + 1).toNat = i.toNat + 1 from by omega, rndUp, eV]
          unfold rnd
          rw [u32s, List.map_set, List.map_set]
          exact V4
        · refine X1.trans ⟨by rw [setH_size, setH_size, s2]; exact Nat.le_refl _, fun j hj => ?_⟩
          rw [setH_other (show j ≠ b6 by omega), setH_other (show j ≠ b6 by omega)]
          exact o2 j (by omega)
  · rw [if_neg (by rw [decide_eq_true_eq]; exact c)]
    have e : i.toNat = 64 := by omega
    rw [e] at V1 lv
    generalize eV : rndUp H W 64 = Vf at *
    have hf : stepD H bl = addUp H Vf 8 := by unfold stepD; rw [eW, eV]
    unfold sha_words_step_l2
    refine ⟨fun j h' => 0 ≤ j ∧ j ≤ 8 ∧ Blk h' b1 (u32s (addUp H Vf j.toNat)) 110 ∧ Blk h' b3 (arr 8 .u32 ([] : List Int)) 110 ∧ Blk h' b6 (u32s Vf) 110 ∧ Ext b1 h h', fun j _ => (8 - j).toNat, ⟨by omega, by omega, P1, Q1, V1, X1⟩, ?_⟩
    rintro j h2' ⟨j0, j1, P2, Q2, V2, X2⟩
    have la := addUp_len (V := Vf) hH j.toNat
    unfold sha_words_step_l2b
    by_cases cj : j < 8
    · rw [if_pos (by rw [decide_eq_true_eq]; exact cj)]
      refine ⟨j0, cj, _, by rw [add_mk, Nat.zero_add, Nat.mul_one]; exact u32_at P2 (by omega), j0, cj, _, by rw [add_mk, Nat.zero_add, Nat.mul_one]; exact u32_at V2 (by omega), j0, cj, _, by rw [add_mk, Nat.zero_add, Nat.mul_one]; exact P2.wr (by rw [List.length_map]; omega), rfl, ?_⟩
      rw [add_mk, Nat.zero_add, Nat.mul_one, wrapI64 (by omega) (by omega)]
      refine ⟨⟨by omega, by omega, ?_, Q2.old (setH_other dis.1.symm), V2.old (setH_other dis.2.1.symm), X2.trans (Ext.set _ _ (Nat.le_refl _))⟩, by dsimp only; omega⟩
      rw [show (j + 1).toNat = j.toNat + 1 from by omega, addUp, u32s, List.map_set]
      exact P2.set
    · rw [if_neg (by rw [decide_eq_true_eq]; exact cj)]
      have e2 : j.toNat = 8 := by omega
      rw [e2] at P2 la
      have ea : arr 8 .u32 (addUp H Vf 8) = u32s (addUp H Vf 8) := arr_full la
      refine ⟨addUp H Vf 8, by rw [ea]; exact CellsAt.of_blk P2, _, WrsAt.of_blk Q2 (by show 8 ≤ 8; omega), rfl, addUp H Vf 8, CellsAt.of_blk (Q2.sets_all (by rw [ea, List.length_map, la]; rfl)), ?_⟩
      rw [← hf]
      exact F _ (X2.trans (Ext.sets _ _ _ dis.2.2.2.1))
end Go.Q.Yf
