/- A part of the proof of statements of this seat: lemmas, no statement of their own. -/
import Derived.Test.YtgldbcbnficihaaYaLease2Law
set_option linter.unusedVariables false
set_option linter.unusedSimpArgs false
namespace Go.Q.Ya
theorem Left_ok {b : Nat} {nd nx bd : Int} {k : Int → Heap → Prop} {h : Heap} (L : Lz h b nd nx bd) (h0 : 0 ≤ nx) (h1 : nx ≤ bd) (h2 : bd ≤ 4611686018427387904) (H : k (bd - nx) h) : lease_Lease_Left (some ⟨b, 0, none⟩) k h := by
  unfold lease_Lease_Left
  rw [if_neg (by simp)]
  exact ⟨_, rfl, bd, by simp [L.cell], nx, by simp [L.cell], by rw [wrapU64 (by omega) (by omega)]; exact H⟩
/-- what holds of both leases -/
def Two (B b1 b2 : Nat) (nd nx bd : Int) (h : Heap) : Prop := Lz h b1 nd nx bd ∧ Lr h b2 nd nx bd ∧ b1 ≠ b2 ∧ B ≤ b1 ∧ B ≤ b2 ∧ 0 ≤ nx ∧ nx ≤ bd ∧ bd ≤ 4611686018427387904
theorem Two.ext {B b1 b2 : Nat} {nd nx bd : Int} {h h' : Heap} (t : Two B b1 b2 nd nx bd h) (x : Ext h.size h h') : Two B b1 b2 nd nx bd h' := by
  obtain ⟨a, b, c⟩ := t
  exact ⟨Blk.ext a x a.lt, Blk.ext b x b.lt, c⟩
theorem plays_j2 {B b1 b2 : Nat} {nd nx bd i a e : Int} {a2 : Slc} {k : Bool → Heap → Prop} {nx1 : Int → Heap → Prop} {h : Heap} (t : Two B b1 b2 nd nx bd h) (i0 : 0 ≤ i) (i1 : i < 60) (H : nx1 (i + 1) h) :
    law12_LeasePlays_j2 a2 (some ⟨b1, 0, none⟩) (some ⟨b2, 0, none⟩) i a a e e k nx1 h := by
  obtain ⟨L, R, hb, _, _, h0, h1, h2⟩ := t
  unfold law12_LeasePlays_j2
  rw [if_neg (by simp)]
  refine ⟨bd - nx, Left_ok L h0 h1 h2 ⟨rfl, rfl⟩, _, rfl, bd, by simp [R.cell], nx, by simp [R.cell], ?_⟩
  unfold law12_LeasePlays_g3
  rw [wrapU64 (by omega) (by omega), if_neg (by simp)]
  exact ⟨_, rfl, by rw [wrapI64 (by omega) (by omega)]; exact H⟩
theorem Ext.of_upd2 {B b : Nat} {h h' : Heap} (u : Upd b h h') (hB : B ≤ b) (hs : B ≤ h.size) : Ext B h h' := u.ext hB hs
theorem LeasePlays_ok {p0 p1 : Int} {p2 : Slc} {zs : List Int} {h : Heap} (n0 : 0 ≤ p0) (n1 : p0 < 65536) (c0 : 0 ≤ p1) (A : ArgI .u64 h.size h p2 zs) :
    law12_LeasePlays p0 p1 p2 (fun r h' => r = true ∧ Ext h.size h h') h := by
  unfold law12_LeasePlays
  refine New_ok fun h1 L1 s1 x1 => ?_
  refine rNew_ok fun h2 R2 s2 x2 => ?_
  have mb : 0 ≤ mn p1 ∧ mn p1 ≤ 4611686018427387904 := by unfold mn; split <;> omega
  have L2 : Lz h2 h.size p0 (mn p1) (mn p1) := Blk.ext L1 x2 (by omega)
  have X2 : Ext h.size h h2 := x1.trans (x2.mono (by omega))
  have t2 : Two h.size h.size h1.size p0 (mn p1) (mn p1) h2 := ⟨L2, R2, by omega, by omega, by omega, mb.1, by omega, mb.2⟩
  have B0 : h.size ≤ h2.size := by omega
  generalize hb1 : h1.size = b2 at *
  generalize hbb : h.size = b1 at t2 ⊢
  rw [hbb] at A X2 B0
  refine ⟨fun i h' => 0 ≤ i ∧ i ≤ 60 ∧ (∃ nx bd, Two b1 b1 b2 p0 nx bd h') ∧ Ext b1 h h' ∧ b1 ≤ h'.size, fun i _ => 60 - i.toNat, ⟨by omega, by omega, ⟨_, _, t2⟩, X2, B0⟩, ?_⟩
  rintro i h3 ⟨i0, i1, ⟨nx, bd, t⟩, X, B3⟩
  have tt := t
  obtain ⟨L, R, hne, hB1, hB2, z0, z1, z2⟩ := tt
  unfold law12_LeasePlays_l1b
  by_cases hi : i < p2.len ∧ i < 60
  · rw [if_pos (by simpa using hi)]
    have hlen := A.1
    obtain ⟨x, hx, hc⟩ := (A.ext X).get (i := i.toNat) (by omega)
    have hw := wf_u64 (A.2.1 (zs.getD i.toNat 0) (by rw [List.getD_eq_getElem?_getD, List.getElem?_eq_getElem (by omega)]; exact List.getElem_mem _))
    generalize zs.getD i.toNat 0 = v at *
    refine ⟨x, hx, i0, hi.1, v, by rw [Nat.mul_one]; exact hc, _, rfl, x, hx, i0, hi.1, v, by rw [Nat.mul_one]; exact hc, ?_⟩
    have hm : Int.tmod v 4 = v % 4 := Int.tmod_eq_emod_of_nonneg (by omega)
    have hd : Int.tdiv v 4 = v / 4 := Int.tdiv_eq_ediv_of_nonneg (by omega)
    rw [hm, hd, wrapU64 (by omega) (by omega)]
    -- the end of a round
    have fin : ∀ (a e : Int) (h' : Heap) (nx bd : Int), Two b1 b1 b2 p0 nx bd h' → Ext b1 h3 h' → law12_LeasePlays_j2 p2 (some ⟨b1, 0, none⟩) (some ⟨b2, 0, none⟩) i a a e e (fun r h' => r = true ∧ Ext b1 h h') (fun s h' => (fun i h' => 0 ≤ i ∧ i ≤ 60 ∧ (∃ nx bd, Two b1 b1 b2 p0 nx bd h') ∧ Ext b1 h h' ∧ b1 ≤ h'.size) s h' ∧ (fun (i : Int) (_ : Heap) => 60 - i.toNat) s h' < (fun (i : Int) (_ : Heap) => 60 - i.toNat) i h3) h' := by
      intro a e h' nx bd t' x'
      refine plays_j2 t' i0 hi.2 ⟨⟨by omega, by omega, ⟨_, _, t'⟩, X.trans x', by have := x'.size; omega⟩, ?_⟩
      show 60 - (i + 1).toNat < 60 - i.toNat
      omega
    by_cases c0 : v % 4 = 0
    · rw [if_pos (by simpa using c0)]
      refine Take_ok L z0 z2 (fun hlt h4 L4 s4 x4 o4 => ?_) (fun q r => ?_) (fun q r => ?_)
      · refine rTake_ok (Blk.old R (o4 _ (by omega))) z0 z2 (fun _ h5 R5 s5 o5 => ?_) (fun q => by omega) (fun q => by omega)
        have L5 : Lz h5 b1 p0 (nx + 1) bd := Blk.old L4 (o5 _ (by omega))
        exact fin _ _ _ _ _ ⟨L5, R5, hne, hB1, hB2, by omega, by omega, z2⟩ ⟨by omega, fun j hj => by rw [o5 j (by omega), o4 j (by omega)]⟩
      · exact rTake_ok R z0 z2 (fun q' => by omega) (fun _ _ => fin _ _ _ _ _ t (Ext.refl _ _)) (fun _ r' => absurd r r')
      · exact rTake_ok R z0 z2 (fun q' => by omega) (fun _ r' => absurd r' r) (fun _ _ => fin _ _ _ _ _ t (Ext.refl _ _))
    rw [if_neg (by simpa using c0)]
    by_cases c1 : v % 4 = 1
    · rw [if_pos (by simpa using c1)]
      -- both nonces are alike
      have both : ∀ (N : List Int) (e : Int), N.length = 12 → ∀ h4, Two b1 b1 b2 p0 nx bd h4 ∨ True → True := fun _ _ _ _ _ => trivial
      refine lease_Nonce_ok L n0 n1 z0 z2 (fun hlt h4 L4 u4 => ?_) (fun q r h4 x4 => ?_) (fun q r h4 x4 => ?_)
      all_goals
        refine ⟨_, _, rfl, rfl, _, by simp [nonceL_length], ?_, rfl, ?_⟩
        · exact WrsAt.of_blk (Blk.push _ _ _) (by simp)
      · have Lb := (Blk.push h4 (by8 (List.replicate 12 0)) 40).sets_all (vs := by8 (nonceL p0 nx)) (by simp [nonceL_length])
        have xb : Ext h4.size h4 (setsH (h4.push (.cells (by8 (List.replicate 12 0)).toArray 40)) ⟨h4.size, 0, none⟩ 0 (by8 (nonceL p0 nx))) := (Ext.push _ _ (Nat.le_refl _)).trans (Ext.sets _ _ _ (Nat.le_refl _))
        generalize setsH (h4.push (.cells (by8 (List.replicate 12 0)).toArray 40)) ⟨h4.size, 0, none⟩ 0 (by8 (nonceL p0 nx)) = h5 at *
        have sz4 := u4.size; have sz5 := xb.size
        have R5 : Lr h5 b2 p0 nx bd := Blk.ext (u4.blk R (by omega)) xb (by have := R.lt; omega)
        have L5 : Lz h5 b1 p0 (nx + 1) bd := Blk.ext L4 xb (by have := L.lt; omega)
        refine rNonce_ok R5 n0 n1 z0 z2 (fun _ h6 R6 u6 => ?_) (fun q => by omega) (fun q => by omega)
        have sz6 := u6.size
        have Lb6 := u6.blk Lb (by have := R.lt; omega)
        have L6 : Lz h6 b1 p0 (nx + 1) bd := u6.blk L5 (by omega)
        refine ⟨_, _, rfl, rfl, _, by simp [nonceL_length], WrsAt.of_blk (Blk.push _ _ _) (by simp), rfl, ?_⟩
        have Lc := (Blk.push h6 (by8 (List.replicate 12 0)) 39).sets_all (vs := by8 (nonceL p0 nx)) (by simp [nonceL_length])
        have xc : Ext h6.size h6 (setsH (h6.push (.cells (by8 (List.replicate 12 0)).toArray 39)) ⟨h6.size, 0, none⟩ 0 (by8 (nonceL p0 nx))) := (Ext.push _ _ (Nat.le_refl _)).trans (Ext.sets _ _ _ (Nat.le_refl _))
        generalize setsH (h6.push (.cells (by8 (List.replicate 12 0)).toArray 39)) ⟨h6.size, 0, none⟩ 0 (by8 (nonceL p0 nx)) = h7 at *
        refine ⟨nonceL p0 nx, nonceL_length _ _, CellsAt.of_blk (Lb6.ext xc Lb6.lt), nonceL p0 nx, nonceL_length _ _, CellsAt.of_blk Lc, nonceL_length _ _, nonceL_length _ _, ?_⟩
        rw [if_neg (by simp)]
        refine fin _ _ _ _ _ ⟨L6.ext xc L6.lt, Blk.ext R6 xc R6.lt, hne, hB1, hB2, by omega, by omega, z2⟩ ?_
        exact (u4.ext hB1 B3).trans ((xb.mono (by omega)).trans ((u6.ext hB2 (by omega)).trans (xc.mono (by omega))))
      all_goals
        have Lb := (Blk.push h4 (by8 (List.replicate 12 0)) 40).sets_all (vs := by8 (List.replicate 12 0)) rfl
        have xb : Ext h4.size h4 (setsH (h4.push (.cells (by8 (List.replicate 12 0)).toArray 40)) ⟨h4.size, 0, none⟩ 0 (by8 (List.replicate 12 0))) := (Ext.push _ _ (Nat.le_refl _)).trans (Ext.sets _ _ _ (Nat.le_refl _))
        generalize setsH (h4.push (.cells (by8 (List.replicate 12 0)).toArray 40)) ⟨h4.size, 0, none⟩ 0 (by8 (List.replicate 12 0)) = h5 at *
        have sz4 := x4.size; have sz5 := xb.size
        have t5 := (t.ext x4).ext xb
        refine rNonce_ok t5.2.1 n0 n1 z0 z2 (fun q' => by omega) (fun _ r' h6 x6 => ?_) (fun _ r' h6 x6 => ?_)
      all_goals first | exact absurd r r' | exact absurd r' r | skip
      all_goals
        have sz6 := x6.size
        refine ⟨_, _, rfl, rfl, _, by simp, WrsAt.of_blk (Blk.push _ _ _) (by simp), rfl, ?_⟩
        have Lc := (Blk.push h6 (by8 (List.replicate 12 0)) 39).sets_all (vs := by8 (List.replicate 12 0)) rfl
        have xc : Ext h6.size h6 (setsH (h6.push (.cells (by8 (List.replicate 12 0)).toArray 39)) ⟨h6.size, 0, none⟩ 0 (by8 (List.replicate 12 0))) := (Ext.push _ _ (Nat.le_refl _)).trans (Ext.sets _ _ _ (Nat.le_refl _))
        generalize setsH (h6.push (.cells (by8 (List.replicate 12 0)).toArray 39)) ⟨h6.size, 0, none⟩ 0 (by8 (List.replicate 12 0)) = h7 at *
        have Lb6 := Lb.ext x6 Lb.lt
        refine ⟨List.replicate 12 0, rfl, CellsAt.of_blk (Lb6.ext xc Lb6.lt), List.replicate 12 0, rfl, CellsAt.of_blk Lc, rfl, rfl, ?_⟩
        rw [if_neg (by simp)]
        refine fin _ _ _ _ _ ((t5.ext x6).ext xc) ?_
        exact (x4.mono (by omega)).trans ((xb.mono (by omega)).trans ((x6.mono (by omega)).trans (xc.mono (by omega))))
    rw [if_neg (by simpa using c1)]
    by_cases c2 : v % 4 = 2
    · rw [if_pos (by simpa using c2)]
      refine Grant_all L (fun q => ?_) (fun q r => ?_) (fun q r h4 L4 s4 o4 => ?_)
      · exact rGrant_ok R (fun _ => fin _ _ _ _ _ t (Ext.refl _ _)) (fun q' => by omega) (fun q' => by omega)
      · exact rGrant_ok R (fun q' => by omega) (fun _ _ => fin _ _ _ _ _ t (Ext.refl _ _)) (fun _ r' => by omega)
      · refine rGrant_ok (Blk.old R (o4 _ (by omega))) (fun q' => by omega) (fun _ r' => by omega) (fun _ _ h5 R5 s5 o5 => ?_)
        have L5 : Lz h5 b1 p0 nx (v / 4) := Blk.old L4 (o5 _ (by omega))
        exact fin _ _ _ _ _ ⟨L5, R5, hne, hB1, hB2, by omega, by omega, r⟩ ⟨by omega, fun j hj => by rw [o5 j (by omega), o4 j (by omega)]⟩
    · rw [if_neg (by simpa using c2)]
      refine Wants_ok L (by omega) z2 (by omega) ?_
      split
      · refine rWants_ok R (by omega) z2 (by omega) (by omega) ?_
        rw [if_pos (by assumption)]
        exact fin _ _ _ _ _ t (Ext.refl _ _)
      · refine rWants_ok R (by omega) z2 (by omega) (by omega) ?_
        rw [if_neg (by assumption)]
        exact fin _ _ _ _ _ t (Ext.refl _ _)
  · rw [if_neg (by simpa using hi)]
    refine awake12 fun h' x => ⟨rfl, X.trans (x.mono B3)⟩
end Go.Q.Ya
