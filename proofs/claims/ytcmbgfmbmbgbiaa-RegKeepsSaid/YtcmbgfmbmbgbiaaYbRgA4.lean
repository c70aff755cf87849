/- A part of the proof of statements of this seat: lemmas, no statement of their own. -/
import Derived.Test.YtcmbgfmbmbgbiaaYbRgA3
set_option linter.unusedVariables false
set_option linter.unusedSimpArgs false
namespace Go.Q.Yb
theorem fm_take {α : Type} {cs : α → List Value} {w : Nat} (hc : ∀ x, (cs x).length = w) : ∀ (xs : List α) (i : Nat), (xs.flatMap cs).take (i * w) = (xs.take i).flatMap cs
  | [], i => by simp
  | y :: r, 0 => by simp
  | y :: r, i + 1 => by
    simp only [List.flatMap_cons, List.take_succ_cons]
    rw [List.take_append, hc, List.take_of_length_le (by rw [hc, Nat.add_mul]; omega), ← fm_take hc r i, show (i + 1) * w - w = i * w from by rw [Nat.add_mul]; omega]
/-- whatever but the row's block is as it was -/
structure Fr1 (s : Slc) (h h' : Heap) : Prop where
  size : h.size ≤ h'.size
  block : ∀ g, g < h.size → s.blk ≠ some g → h'[g]? = h[g]?
theorem Fr1.of_ext {s : Slc} {h h' : Heap} (X : Ext h.size h h') : Fr1 s h h' := ⟨X.size, fun g hg _ => X.block g hg⟩
theorem Fr1.trans {s : Slc} {a b c : Heap} (p : Fr1 s a b) (q : Fr1 s b c) : Fr1 s a c := ⟨Nat.le_trans p.size q.size, fun g hg hs => (q.block g (Nat.lt_of_lt_of_le hg p.size) hs).trans (p.block g hg hs)⟩
theorem Blk.diff {h : Heap} {a b E E' : Nat} {xs ys : List Value} (p : Blk h a xs E) (q : Blk h b ys E') (hE : E ≠ E') : a ≠ b := fun e => by
  subst e
  unfold Blk at p q
  obtain ⟨_, _, p1, _⟩ := p
  obtain ⟨_, _, q1, _⟩ := q
  rw [p1] at q1; cases q1; exact hE rfl
theorem Row.diff {h : Heap} {B a E w E' : Nat} {s : Slc} {xs ys : List Value} (R : Row B h E w s xs) (q : Blk h a ys E') (hE : E ≠ E') : s.blk ≠ some a := fun e => by
  rcases R.2.2 with ⟨k, _⟩ | ⟨g, cur, a1, a2, a3, _⟩
  · simp [Slc.blk, k] at e
  · simp [Slc.blk, a1] at e
    subst e
    exact Blk.diff a3 q hE rfl
abbrev keepK (e : Int) (z : Z) : Bool := !oldK e z
theorem Delete_ok {s : Slc} {zs : List Z} {B b : Nat} {c : S_api_Command} {k : Slc → Heap → Prop} {h : Heap} (O : KOwn B h s zs) (hB : B ≤ h.size) (hz : zs.length ≤ 1000000) (P : Blk h b (S_api_Command.cs c) 32)
    (H : ∀ s' h', KOwn B h' s' (zs.filter (keepK c.f_Epoch)) → Fr1 s h h' → k s' h') : slices_DeleteFunc_api_Wrapped_api_Wrapped__reg_Reg_Apply_1 s ⟨b, 0, none⟩ k h := by
  have sl := O.2.1
  unfold slices_DeleteFunc_api_Wrapped_api_Wrapped__reg_Reg_Apply_1
  refine Idx_ok O.held.now.1 hz P (fun n h2 hn hpre hat X2 => ?_) fun h2 hall X2 => ?_
  · rw [if_neg (by rw [beq_iff_eq]; omega), wrapI64 (by omega) (by omega)]
    refine ⟨_, rfl, ?_⟩
    have z2 := X2.size
    have O2 := O.step z2 fun g _ g2 => X2.block g g2
    refine ⟨fun q h' => ∃ cur, KOwn B h' s cur ∧ cur.length = zs.length ∧ 0 ≤ q.1 ∧ q.1 < q.2 ∧ q.2 ≤ zs.length ∧ cur.take q.1.toNat = (zs.take q.2.toNat).filter (keepK c.f_Epoch) ∧ cur.drop q.2.toNat = zs.drop q.2.toNat ∧ Fr1 s h h',
      fun q _ => (zs.length - q.2).toNat, ⟨zs, O2, rfl, by dsimp only; omega, by dsimp only; omega, by dsimp only; omega, ?_, rfl, Fr1.of_ext X2⟩, ?_⟩
    · dsimp only
      rw [show ((n : Int) + 1).toNat = n + 1 from by omega, show ((n : Int)).toNat = n from rfl, List.take_add_one, List.filter_append]
      have hx : zs[n]? = some (zs[n]'hn) := by simp
      rw [hx]
      have h1 : (zs.take n).filter (keepK c.f_Epoch) = zs.take n := List.filter_eq_self.2 fun z hz => by
        obtain ⟨j, hj⟩ := List.getElem?_of_mem hz
        have hjl : j < n := by have := (List.getElem?_eq_some_iff.1 hj).1; rw [List.length_take] at this; omega
        rw [List.getElem?_take, if_pos hjl] at hj
        simp [keepK, hpre j z hjl hj]
      rw [h1]
      simp [keepK, hat _ hx]
    rintro i j h3 ⟨cur, O3, cl, i0, ij, jl, ht, hd, X3⟩
    dsimp only at i0 ij jl ht hd
    have z3 := X3.size
    have P3 : Blk h3 b (S_api_Command.cs c) 32 := P.old (X3.block b P.lt (Row.diff O.1 P (by decide)))
    unfold slices_DeleteFunc_api_Wrapped_api_Wrapped__reg_Reg_Apply_1_l1b
    by_cases hj : j < zs.length
    · rw [if_pos (by rw [decide_eq_true_eq]; omega)]
      have hx : zs[j.toNat]? = some (zs[j.toNat]'(by omega)) := by simp
      generalize zs[j.toNat]'(by omega) = z at *
      have hc : cur[j.toNat]? = some z := by
        have := congrArg (fun l => l[0]?) hd
        simp only [List.getElem?_drop, Nat.add_zero] at this
        rw [this, hx]
      have KA := O3.held.now
      obtain ⟨a, ha, C⟩ := KA.1.at' j.toNat z.1 (by rw [List.getElem?_map, hc]; rfl)
      refine ⟨a, ha, by omega, by omega, z.1, C, _, _, rfl, rfl, ?_⟩
      have T := Blk.push h3 (S_api_Wrapped.cs zW) 132
      have T2 := T.sets_all (vs := S_api_Wrapped.cs z.1) rfl
      have W5 := (Ext.push h3 (.cells (S_api_Wrapped.cs zW).toArray 132) (Nat.le_refl _)).trans (Ext.sets _ (a := ⟨h3.size, 0, none⟩) 0 (S_api_Wrapped.cs z.1) (Nat.le_refl _))
      refine ⟨_, WrsAt.of_blk T (by rw [wcs_len]; omega), rfl, ?_⟩
      generalize setsH (h3.push (.cells (S_api_Wrapped.cs zW).toArray 132)) ⟨h3.size, 0, none⟩ 0 (S_api_Wrapped.cs z.1) = h5 at *
      have z5 := W5.size
      have tl := T2.lt
      refine ⟨z.1, CellsAt.of_blk T2, A1_ok (P3.ext W5 P3.lt) fun h6 X6 => ?_⟩
      have z6 := X6.size
      have T6 := T2.ext X6 tl
      have X36 : Ext h3.size h3 h6 := W5.trans (X6.mono z5)
      have O6 := O3.step X36.size fun g _ g2 => X36.block g g2
      have X06 : Fr1 s h h6 := X3.trans (Fr1.of_ext X36)
      by_cases hk : z.1.f_Epoch < c.f_Epoch
      · rw [if_neg (by simpa using hk)]
        unfold slices_DeleteFunc_api_Wrapped_api_Wrapped__reg_Reg_Apply_1_j2
        rw [wrapI64 (by omega) (by omega)]
        refine ⟨_, rfl, ⟨cur, O6, cl, by dsimp only; omega, by dsimp only; omega, by dsimp only; omega, ?_, ?_, X06⟩, by dsimp only; omega⟩
        · dsimp only
          rw [show (j + 1).toNat = j.toNat + 1 from by omega, List.take_add_one, hx, List.filter_append, ht]
          simp [keepK, oldK, hk]
        · dsimp only
          rw [show (j + 1).toNat = j.toNat + 1 from by omega, ← List.drop_drop, ← List.drop_drop, hd]
      · rw [if_pos (by simpa using hk)]
        obtain ⟨w1, w2, w3⟩ := Row.setS wcs_len O6.1 (by rw [O6.2.1]; simp) (i := i.toNat) (by simp; omega) z.1 ha
        refine ⟨z.1, CellsAt.of_blk T6, a, ha, i0, by omega, _, w1, rfl, ?_⟩
        rw [wrapI64 (x := i + 1) (by omega) (by omega)]
        refine ⟨_, rfl, ?_⟩
        unfold slices_DeleteFunc_api_Wrapped_api_Wrapped__reg_Reg_Apply_1_j2
        rw [wrapI64 (by omega) (by omega)]
        have oth : ∀ g, g ≠ a.block → (setsH h6 (a.add (i.toNat * 14)) 0 (S_api_Wrapped.cs z.1))[g]? = h6[g]? := fun g hg => setsH_other _ _ (by simpa using hg)
        have zs' : (setsH h6 (a.add (i.toNat * 14)) 0 (S_api_Wrapped.cs z.1)).size = h6.size := setsH_size _ _
        generalize setsH h6 (a.add (i.toNat * 14)) 0 (S_api_Wrapped.cs z.1) = h7 at *
        have sb : s.blk = some a.block := by simp [Slc.blk, ha]
        refine ⟨_, rfl, ⟨cur.set i.toNat z, ⟨by rw [List.map_set]; exact w2, by rw [List.length_set]; exact O6.2.1, fun y hy => ?_⟩, by rw [List.length_set]; exact cl, by dsimp only; omega, by dsimp only; omega, by dsimp only; omega, ?_, ?_, X06.trans ⟨by omega, fun g hg hs => oth g fun e => hs (by rw [sb, e])⟩⟩, by dsimp only; omega⟩
        · have hm : y ∈ cur := by
            rcases List.mem_or_eq_of_mem_set hy with h | h
            · exact h
            · rw [h]; exact List.mem_of_getElem? hc
          obtain ⟨a1, a2⟩ := O6.2.2 y hm
          exact ⟨a1.keep fun g hg => oth g fun e => (Row.ne_row O6.1 a1 (by decide) sb) (by rw [← e]; exact hg), a2⟩
        · dsimp only
          rw [show (j + 1).toNat = j.toNat + 1 from by omega, show (i + 1).toNat = i.toNat + 1 from by omega, List.take_add_one, List.take_add_one, hx, List.filter_append, ← ht, List.take_set_of_le (Nat.le_refl _), List.getElem?_set_self (by omega)]
          simp [keepK, oldK, hk]
        · dsimp only
          rw [show (j + 1).toNat = j.toNat + 1 from by omega, List.drop_set_of_lt (by omega), ← List.drop_drop, ← List.drop_drop, hd]
    · rw [if_neg (by rw [decide_eq_true_eq]; omega)]
      have jn : j.toNat = zs.length := by omega
      rw [jn, List.take_of_length_le (Nat.le_refl _)] at ht
      have sl3 := O3.2.1
      rcases O3.1.2.2 with ⟨k0, k1, _⟩ | ⟨g, cur0, a1, a2, a3, a4, a5, a6⟩
      · omega
      have hcap : s.len * 14 ≤ s.cap * 14 := Nat.mul_le_mul_right _ a4
      have s17 : subS s 14 i.toNat (s.len : Int).toNat (s.cap : Int).toNat = ⟨some ⟨g, i.toNat * 14, none⟩, s.len - i.toNat, s.cap - i.toNat⟩ := by
        simp only [subS, a1, Int.toNat_natCast]; rw [if_neg (by omega)]; simp
      have s19 : subS s 14 (0 : Int).toNat i.toNat (s.cap : Int).toNat = ⟨some ⟨g, 0, none⟩, i.toNat, s.cap⟩ := by
        simp only [subS, a1, Int.toNat_natCast]; rw [if_neg (by simp; omega)]; simp
      refine ⟨_, i0, by omega, by omega, by omega, rfl, ?_⟩
      rw [s17]
      refine ⟨fun a ha => ?_, _, rfl, _, by omega, i0, by omega, by omega, rfl, ?_⟩
      · cases ha
        intro q hq
        rw [add_mk]; exact a3.wr (by dsimp only at hq; omega)
      rw [s19]
      obtain ⟨zr, ezr⟩ : ∃ zr, zr = zrow [.int .u32 0, .int .u8 0, .int .u8 0, .int .u8 0, .int .u8 0, .int .u8 0, .int .u8 0, .int .u8 0, .int .u8 0, .int .u8 0, .int .u8 0, .int .u8 0, .int .u8 0, .slice none 0 0] (s.len - i.toNat) := ⟨_, rfl⟩
      have zrl : zr.length = (s.len - i.toNat) * 14 := by rw [ezr, zrow_len]; rfl
      have hcl : ∀ (z : List Value), clrS h3 ⟨some ⟨g, i.toNat * 14, none⟩, s.len - i.toNat, s.cap - i.toNat⟩ z = setsH h3 ⟨g, i.toNat * 14, none⟩ 0 (zrow z (s.len - i.toNat)) := fun z => rfl
      rw [hcl, ← ezr]
      have a3' := a3.sets zr (i.toNat * 14) 0 (by omega)
      have oth : ∀ g', g' ≠ g → (setsH h3 ⟨g, i.toNat * 14, none⟩ 0 zr)[g']? = h3[g']? := fun g' hg => setsH_other _ _ hg
      have zs' : (setsH h3 ⟨g, i.toNat * 14, none⟩ 0 zr).size = h3.size := setsH_size _ _
      generalize setsH h3 ⟨g, i.toNat * 14, none⟩ 0 zr = h4 at *
      have icap : i.toNat * 14 ≤ s.cap * 14 := Nat.mul_le_mul_right _ (by omega)
      have sb : s.blk = some g := by simp [Slc.blk, a1]
      refine H _ _ ⟨⟨?_, O3.1.2.1, .inr ⟨g, _, rfl, a2, a3', by dsimp only; omega, ?_, ?_⟩⟩, ?_, fun y hy => ?_⟩ (X3.trans ⟨by omega, fun g' hg hs => oth g' fun e => hs (by rw [sb, e])⟩)
      · dsimp only
        rw [← ht, fm_len wcs_len, List.length_map, List.length_take]; omega
      · dsimp only
        simp only [List.length_append, List.length_take, List.length_drop]; omega
      · dsimp only
        rw [List.append_assoc, List.take_append_of_le_length (by rw [List.length_take]; omega), List.take_take, Nat.add_zero, Nat.min_self, ← ht, List.map_take, ← fm_take wcs_len, ← a6, List.take_take, Nat.min_eq_left (by
          have : i.toNat * 14 ≤ s.len * 14 := Nat.mul_le_mul_right _ (by omega)
          exact this)]
      · dsimp only
        rw [← ht, List.length_take]; omega
      · rw [← ht] at hy
        obtain ⟨b1, b2⟩ := O3.2.2 y (List.mem_of_mem_take hy)
        exact ⟨b1.keep fun g' hg => oth g' fun e => (Row.ne_row O3.1 b1 (by decide) sb) (by rw [← e]; exact hg), b2⟩
  · rw [if_pos (by decide)]
    have z2 := X2.size
    refine H s h2 ?_ (Fr1.of_ext X2)
    rw [List.filter_eq_self.2 fun z hz => by simp [keepK, hall z hz]]
    exact O.step z2 fun g _ g2 => X2.block g g2
end Go.Q.Yb
