/- A part of the proof of statements of this seat: lemmas, no statement of their own. -/
import Derived.Test.YtcmbgfmbmbgbiaaYbDkY
set_option linter.unusedVariables false
set_option linter.unusedSimpArgs false
namespace Go.Q.Yb
open Go.Q.Rw (fm_set fm_len ls_of_slc row_setc row_setS fm_take)
def cntP (L : List PL) (i : Nat) : Nat := ((L.take i).filter fun q => q.1.f_Open).length
def bootP1 (f : Int) (q : PL) : PL :=
  ({ q.1 with f_Open := false, f_Now := if f = 0 then q.1.f_Was else q.1.f_Now, f_Torn := if f = 0 then q.1.f_Old else if f = 2 then true else q.1.f_Torn }, if f = 0 then q.2.2 else q.2.1, q.2.2)
def stepP (fs : List Int) (L : List PL) (i : Nat) (q : PL) : PL := if q.1.f_Open = true then bootP1 (fateD fs (cntP L i)) q else q
theorem cntP_abs (L : List PL) (i : Nat) : cntA (L.map absP) i = cntP L i := by
  unfold cntA cntP
  rw [← List.map_take, List.filter_map, List.length_map]; rfl
theorem cntP_succ {L : List PL} {i : Nat} {q : PL} (hq : L[i]? = some q) : cntP L (i + 1) = if q.1.f_Open = true then cntP L i + 1 else cntP L i := by
  unfold cntP
  rw [List.take_add_one, hq, List.filter_append, List.length_append, Option.toList_some]
  cases ho : q.1.f_Open <;> simp [ho]
theorem cntP_le (L : List PL) (i : Nat) : cntP L i ≤ i := by
  unfold cntP
  refine Nat.le_trans (List.length_filter_le _ _) ?_
  rw [List.length_take]; omega
theorem map_mapIdx2 {α β γ : Type} (g : β → γ) : ∀ (L : List α) (f : Nat → α → β), (L.mapIdx f).map g = L.mapIdx fun i x => g (f i x)
  | [], _ => rfl
  | x :: r, f => by rw [List.mapIdx_cons, List.mapIdx_cons, List.map_cons, map_mapIdx2 g r]
theorem mapIdx_map2 {α β γ : Type} (g : α → β) : ∀ (L : List α) (f : Nat → β → γ), (L.map g).mapIdx f = L.mapIdx fun i x => f i (g x)
  | [], _ => rfl
  | x :: r, f => by rw [List.map_cons, List.mapIdx_cons, List.mapIdx_cons, mapIdx_map2 g r]
theorem step_abs (fs : List Int) (L : List PL) : (L.mapIdx (stepP fs L)).map absP = (L.map absP).mapIdx (stepA fs (L.map absP)) := by
  rw [map_mapIdx2, mapIdx_map2]
  congr 1
  funext i q
  show absP (stepP fs L i q) = stepA fs (L.map absP) i (absP q)
  unfold stepA stepP
  rw [cntP_abs]
  have e : (absP q).opn = q.1.f_Open := rfl
  rw [e]
  split
  · unfold bootP1 boot1 absP
    rfl
  · rfl
section
variable {B c : Nat} {h0 h : Heap} {r : Nat} {s : Slc} {X : RD}
theorem RBoot_ok {sf : Slc} {fs : List Int} {k : Unit → Heap → Prop} (A : RAt B c h r s X) (hB : B ≤ h.size) (hc : c ≤ 1000000) (hs : SlcAt h sf (b8 fs)) (sl : sf.len = fs.length) (hb : ∀ h', Ext B h h' → SlcAt h' sf (b8 fs))
    (H : ∀ X' h', RAt B c h' r s X' → absR X' = bootA (absR X) fs → RF r s h h' → k () h') : ref09_Disk_Boot (some ⟨r, 0, none⟩) sf k h := by
  have hl := A.l
  have hcl := A.c
  unfold ref09_Disk_Boot
  have A0 : RAt B c h r s { X with L := uptoI (stepP fs X.L) X.L 0 } := by rw [uptoI_zero]; exact A
  refine ⟨fun q h' => 0 ≤ q.2 ∧ q.2 ≤ X.L.length ∧ q.1 = (cntP X.L q.2.toNat : Int) ∧ RAt B c h' r s { X with L := uptoI (stepP fs X.L) X.L q.2.toNat } ∧ RF r s h h', fun q _ => (X.L.length - q.2).toNat, ⟨by dsimp only; omega, by dsimp only; omega, rfl, A0, RF.of_ext (Ext.refl _ _)⟩, ?_⟩
  rintro j i h1 ⟨i0, i1, je, A1, F1⟩
  dsimp only at i0 i1 je A1
  subst je
  have E1 : Ext B h h1 := F1.ext A hB
  unfold ref09_Disk_Boot_l1b
  refine ⟨_, rfl, s, A1.cell0, ?_⟩
  by_cases hi : i < X.L.length
  · rw [if_pos (by rw [decide_eq_true_eq]; omega)]
    have hx : X.L[i.toNat]? = some (X.L[i.toNat]'(by omega)) := by simp
    generalize X.L[i.toNat]'(by omega) = q at *
    have hx1 : ({ X with L := uptoI (stepP fs X.L) X.L i.toNat } : RD).L[i.toNat]? = some q := uptoI_at hx
    obtain ⟨a, ha, C⟩ := A1.place hx1
    have cs := cntP_succ hx
    have cl := cntP_le X.L i.toNat
    -- what follows a place
    have j2 : ∀ {h'} {n : Int}, n = (cntP X.L (i.toNat + 1) : Int) → RAt B c h' r s { X with L := uptoI (stepP fs X.L) X.L (i.toNat + 1) } → RF r s h1 h' → ref09_Disk_Boot_j2 (some ⟨r, 0, none⟩) sf i n k (fun q h' => (0 ≤ q.2 ∧ q.2 ≤ (X.L.length : Int) ∧ q.1 = (cntP X.L q.2.toNat : Int) ∧ RAt B c h' r s { X with L := uptoI (stepP fs X.L) X.L q.2.toNat } ∧ RF r s h h') ∧ ((X.L.length : Int) - q.2).toNat < ((X.L.length : Int) - i).toNat) h' := fun hn A' F' => by
      unfold ref09_Disk_Boot_j2
      refine ⟨_, rfl, ?_⟩
      rw [wrapI64 (by omega) (by omega)]
      exact ⟨⟨by dsimp only; omega, by dsimp only; omega, by dsimp only; rw [show (i + 1).toNat = i.toNat + 1 from by omega]; exact hn, by dsimp only; rw [show (i + 1).toNat = i.toNat + 1 from by omega]; exact A', F1.trans F'⟩, by dsimp only; omega⟩
    refine ⟨s, A1.cell0, a, ha, i0, by omega, q.1.f_Open, C 5 _ rfl, ?_⟩
    cases ho : q.1.f_Open with
    | false =>
      rw [if_pos (by simp)]
      rw [ho, if_neg (by simp)] at cs
      refine j2 (by rw [cs]) ?_ (RF.of_ext (Ext.refl _ _))
      rw [← uptoI_set hx]
      have e1 : stepP fs X.L i.toNat q = q := by unfold stepP; rw [ho, if_neg (by simp)]
      rw [e1]
      have : (uptoI (stepP fs X.L) X.L i.toNat).set i.toNat q = uptoI (stepP fs X.L) X.L i.toNat := by
        apply List.ext_getElem?
        intro m
        rw [List.getElem?_set]
        by_cases hm : i.toNat = m
        · subst hm
          have h2 := uptoI_at (F := stepP fs X.L) hx
          rw [if_pos rfl, if_pos (by rw [uptoI_len]; omega), h2]
        · rw [if_neg hm]
      rw [this]; exact A1
    | true =>
      rw [if_neg (by simp)]
      rw [ho, if_pos rfl] at cs
      have st : stepP fs X.L i.toNat q = bootP1 (fateD fs (cntP X.L i.toNat)) q := by unfold stepP; rw [if_pos ho]
      have y := A1.Y q (List.mem_of_getElem? hx1)
      have j3 : ∀ f, f = fateD fs (cntP X.L i.toNat) → ref09_Disk_Boot_j3 (some ⟨r, 0, none⟩) sf (cntP X.L i.toNat : Int) i f k (fun q h' => (0 ≤ q.2 ∧ q.2 ≤ (X.L.length : Int) ∧ q.1 = (cntP X.L q.2.toNat : Int) ∧ RAt B c h' r s { X with L := uptoI (stepP fs X.L) X.L q.2.toNat } ∧ RF r s h h') ∧ ((X.L.length : Int) - q.2).toNat < ((X.L.length : Int) - i).toNat) h1 := fun f hf => by
        rw [← hf] at st
        unfold bootP1 at st
        obtain ⟨a2, ha2, w2, A2, F2⟩ := A1.setf (j := 5) (q' := ({ q.1 with f_Open := false }, q.2)) (v := .bool false) hx1 (by omega) rfl y
        rw [ha] at ha2; cases ha2
        unfold ref09_Disk_Boot_j3
        refine ⟨_, rfl, _, rfl, s, A1.cell0, a, ha, i0, by omega, _, w2, rfl, ?_⟩
        rw [wrapI64 (by omega) (by omega)]
        generalize setH h1 ((a.add (i.toNat * 6)).add 5) (.bool false) = h2 at *
        have hx2 : ((uptoI (stepP fs X.L) X.L i.toNat).set i.toNat (({ q.1 with f_Open := false }, q.2) : PL))[i.toNat]? = some ({ q.1 with f_Open := false }, q.2) := by
          rw [List.getElem?_set_self]; rw [uptoI_len]; omega
        have n1 : ((cntP X.L i.toNat : Int) + 1) = (cntP X.L (i.toNat + 1) : Int) := by rw [cs]; rfl
        -- and what follows fate 2
        have j4 : ∀ {h' : Heap} {p : PL}, RAt B c h' r s { X with L := (uptoI (stepP fs X.L) X.L i.toNat).set i.toNat p } → RF r s h1 h' → (f = 2 → stepP fs X.L i.toNat q = ({ p.1 with f_Torn := true }, p.2)) → (f ≠ 2 → stepP fs X.L i.toNat q = p) →
            ref09_Disk_Boot_j4 (some ⟨r, 0, none⟩) sf ((cntP X.L i.toNat : Int) + 1) i f k (fun q h' => (0 ≤ q.2 ∧ q.2 ≤ (X.L.length : Int) ∧ q.1 = (cntP X.L q.2.toNat : Int) ∧ RAt B c h' r s { X with L := uptoI (stepP fs X.L) X.L q.2.toNat } ∧ RF r s h h') ∧ ((X.L.length : Int) - q.2).toNat < ((X.L.length : Int) - i).toNat) h' := fun {h' p} A' F' h2t h2f => by
          have hxp : ((uptoI (stepP fs X.L) X.L i.toNat).set i.toNat p)[i.toNat]? = some p := by
            rw [List.getElem?_set_self]; rw [uptoI_len]; omega
          unfold ref09_Disk_Boot_j4
          by_cases f2 : f = 2
          · rw [if_pos (by simp [f2])]
            obtain ⟨a4, ha4, w4, A4, F4⟩ := A'.setf (j := 3) (q' := ({ p.1 with f_Torn := true }, p.2)) (v := .bool true) hxp (by omega) rfl (A'.Y p (List.mem_of_getElem? hxp))
            rw [ha] at ha4; cases ha4
            refine ⟨_, rfl, s, A'.cell0, a, ha, i0, by omega, _, w4, rfl, ?_⟩
            refine j2 n1 ?_ (F'.trans F4)
            rw [← uptoI_set hx, h2t f2]
            rw [List.set_set] at A4; exact A4
          · rw [if_neg (by simpa using f2)]
            refine j2 n1 ?_ F'
            rw [← uptoI_set hx, h2f f2]; exact A'
        by_cases f0 : f = 0
        · rw [if_pos (by simp [f0])]
          rw [if_pos f0, if_pos f0, if_pos f0] at st
          obtain ⟨b3, hb3, C3⟩ := A2.place hx2
          rw [ha] at hb3; cases hb3
          obtain ⟨a3, ha3, w3, A3, F3⟩ := A2.setf (j := 1) (q' := ({ q.1 with f_Open := false, f_Now := q.1.f_Was }, q.2.2, q.2.2)) (v := Slc.v q.1.f_Was) hx2 (by omega) rfl (by
            have := A2.Y _ (List.mem_of_getElem? hx2); exact ⟨this.2, this.2⟩)
          rw [ha] at ha3; cases ha3
          refine ⟨s, A2.cell0, s, A2.cell0, a, ha, i0, by omega, q.1.f_Was, C3 2 _ rfl, a, ha, i0, by omega, _, w3, rfl, ?_⟩
          generalize setH h2 ((a.add (i.toNat * 6)).add 1) (Slc.v q.1.f_Was) = h3 at *
          generalize hp2 : ((({ q.1 with f_Open := false, f_Now := q.1.f_Was } : Pl), q.2.2, q.2.2) : PL) = p2 at *
          have A3' : RAt B c h3 r s { X with L := (uptoI (stepP fs X.L) X.L i.toNat).set i.toNat p2 } := by
            have h9 := A3
            simp only [List.set_set] at h9
            exact h9
          clear A3
          have hx3 : ((uptoI (stepP fs X.L) X.L i.toNat).set i.toNat p2)[i.toNat]? = some p2 := by
            rw [List.getElem?_set_self]; rw [uptoI_len]; omega
          obtain ⟨b4, hb4, C4⟩ := A3'.place hx3
          rw [ha] at hb4; cases hb4
          obtain ⟨a5, ha5, w5, A5, F5⟩ := A3'.setf (j := 3) (q' := ({ p2.1 with f_Torn := q.1.f_Old }, p2.2)) (v := .bool q.1.f_Old) hx3 (by omega) rfl (A3'.Y p2 (List.mem_of_getElem? hx3))
          rw [ha] at ha5; cases ha5
          refine ⟨s, A3'.cell0, s, A3'.cell0, a, ha, i0, by omega, q.1.f_Old, C4 4 _ (by rw [← hp2]; rfl), a, ha, i0, by omega, _, w5, rfl, ?_⟩
          simp only [List.set_set] at A5
          subst hp2
          exact j4 A5 (F2.trans (F3.trans F5)) (fun e => absurd (f0.symm.trans e) (by decide)) fun _ => st
        · rw [if_neg (by simpa using f0)]
          rw [if_neg f0, if_neg f0, if_neg f0] at st
          refine j4 A2 F2 (fun e => ?_) fun e => ?_
          · rw [st, if_pos e]
          · rw [st, if_neg e]
      by_cases hf : fs.length > 0
      · rw [if_pos (by rw [decide_eq_true_eq]; omega)]
        have ei : Int.tmod (cntP X.L i.toNat : Int) (sf.len : Int) = ((cntP X.L i.toNat % fs.length : Nat) : Int) := by rw [sl, ← tmod_nat]
        have lt : cntP X.L i.toNat % fs.length < fs.length := Nat.mod_lt _ hf
        have hv : fs[cntP X.L i.toNat % fs.length]? = some (fs.getD (cntP X.L i.toNat % fs.length) 0) := by
          rw [List.getD_eq_getElem?_getD, List.getElem?_eq_getElem lt]; rfl
        obtain ⟨b, hb', hcell⟩ := Go.Q.Rw.slc_get (hb h1 E1) (i := cntP X.L i.toNat % fs.length) (v := .int .u8 (fs.getD (cntP X.L i.toNat % fs.length) 0)) (by rw [List.getElem?_map, hv]; rfl)
        refine ⟨by omega, b, hb', by rw [ei]; omega, by rw [ei]; omega, fs.getD (cntP X.L i.toNat % fs.length) 0, ?_, _, rfl, j3 _ ?_⟩
        · rw [ei, Nat.mul_one, show (((cntP X.L i.toNat % fs.length : Nat) : Int)).toNat = cntP X.L i.toNat % fs.length from rfl]
          exact hcell
        · unfold fateD; rw [if_pos hf]
      · rw [if_neg (by rw [decide_eq_true_eq]; omega)]
        exact j3 0 (by unfold fateD; rw [if_neg hf])
  · rw [if_neg (by rw [decide_eq_true_eq]; omega)]
    rw [uptoI_all (by omega)] at A1
    refine ⟨_, by rw [add0]; exact A1.P.wr (show 1 < 4 by omega), rfl, ?_⟩
    rw [add0, add0]
    have A2 : RAt B c (setH h1 ⟨r, 1, none⟩ (.int .i64 0)) r s { X with L := X.L.mapIdx (stepP fs X.L), fuse := 0 } := A1.set rfl rfl
    have F2 : RF r s h1 (setH h1 ⟨r, 1, none⟩ (.int .i64 0)) := RF.set
    generalize setH h1 ⟨r, 1, none⟩ (.int .i64 0) = h2 at *
    refine ⟨_, A2.P.wr (show 2 < 4 by omega), rfl, ?_⟩
    have A3 : RAt B c (setH h2 ⟨r, 2, none⟩ (.bool false)) r s { X with L := X.L.mapIdx (stepP fs X.L), fuse := 0, dead := false } := A2.set rfl rfl
    refine H _ _ A3 ?_ (F1.trans (F2.trans RF.set))
    unfold bootA absR
    rw [step_abs]
end
end Go.Q.Yb
