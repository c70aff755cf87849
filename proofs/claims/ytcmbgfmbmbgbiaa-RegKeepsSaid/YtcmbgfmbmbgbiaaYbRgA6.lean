/- A part of the proof of statements of this seat: lemmas, no statement of their own. -/
import Derived.Test.YtcmbgfmbmbgbiaaYbRgA5
set_option linter.unusedVariables false
set_option linter.unusedSimpArgs false
namespace Go.Q.Yb
/-! ### what is asked, of what is told of a tenant -/
def epB (ks : List AK) : Int := match ks.getLast? with | none => 0 | some a => a.1
theorem epA_abs (zs : List Z) : epA zs = epB (zs.map absK) := by
  unfold epA epB
  rw [List.getLast?_map]
  cases zs.getLast? <;> rfl
def askB (c : S_api_Command) (o : Option (Int × Bool × List AK)) (n : Nat) : Int :=
  if c.f_Kind = 0 then 0 else if c.f_Kind = 1 ∧ o.isSome = true then 7 else if c.f_Kind = 1 ∧ n ≥ 8 then 8 else if c.f_Kind ≠ 1 ∧ o.isSome = false then 16
  else if (o.getD (0, false, [])).2.1 = true ∧ c.f_Kind ≠ 5 then 17
  else if (if c.f_Kind = 1 then c.f_Epoch != 1 else if c.f_Kind = 2 then (if epB (o.getD (0, false, [])).2.2 = 4294967295 then true else c.f_Epoch != IntKind.u32.wrap (epB (o.getD (0, false, [])).2.2 + 1)) else if c.f_Kind = 3 then decide (c.f_Epoch > epB (o.getD (0, false, [])).2.2) else if c.f_Kind = 4 then decide (c.f_Horizon < (o.getD (0, false, [])).1) else false) = true then 13 else 0
theorem askA_abs (c : S_api_Command) (L : List (ByteArray × TZ)) : askA c L = askB c ((mget L c.f_Tenant).map absT) L.length := by
  unfold askA askB staleA
  have h1 : ((mget L c.f_Tenant).map absT).isSome = (mget L c.f_Tenant).isSome := by cases mget L c.f_Tenant <;> rfl
  have h2 : ((mget L c.f_Tenant).map absT).getD (0, false, []) = absT ((mget L c.f_Tenant).getD zTZ) := by cases mget L c.f_Tenant <;> rfl
  rw [h1, h2]
  simp only [epA_abs]
  rfl
section
variable {b : Nat} {h : Heap} {r m : Nat} {L : List (ByteArray × TZ)}
theorem New_ok {k : Option Addr → Heap → Prop} (H : ∀ r m h', RegAt 0 h' r m [] → h.size ≤ r → h.size ≤ m → Ext h.size h h' → k (some ⟨r, 0, none⟩) h') : reg_New k h := by
  unfold reg_New
  refine ⟨_, _, rfl, rfl, _, _, rfl, rfl, ?_⟩
  have W := Ext.push h (.map #[] 0) (Nat.le_refl _)
  have M : MapAt (K := ByteArray) (V := S_api_Tenant) .string Value.string vT (h.push (.map #[] 0)) (some h.size) [] := MapAt.mk0
  have ml := M.lt
  generalize h.push (.map #[] 0) = h2 at *
  have P := Blk.push h2 (S_reg_Reg.cs ⟨some h.size⟩) 212
  have W2 := Ext.push h2 (.cells (S_reg_Reg.cs ⟨some h.size⟩).toArray 212) (Nat.le_refl _)
  have z2 := W.size
  exact H _ h.size _ ⟨P, by omega, M.ext W2 ml, fun q hq => (by cases hq), Nat.zero_le _, by decide⟩ z2 (Nat.le_refl _) (W.trans (W2.mono z2))
theorem Tenant_ok {name : ByteArray} {k : S_api_Tenant × Int → Heap → Prop} (R : RegAt b h r m L)
    (H0 : ∀ h', mget L name = none → Ext h.size h h' → k (zT, 16) h')
    (H1 : ∀ t s zs' h', mget L name = some t → KOwn h.size h' s zs' → zs'.map absK = t.2.map absK → Ext h.size h h' → k ({ t.1 with f_Keys := s }, 0) h') : reg_Reg_Tenant (some ⟨r, 0, none⟩) name k h := by
  unfold reg_Reg_Tenant
  refine ⟨_, _, rfl, rfl, ?_⟩
  have P := Blk.push h (S_api_Tenant.cs zT) 130
  have W := Ext.push h (.cells (S_api_Tenant.cs zT).toArray 130) (Nat.le_refl _)
  have pl := P.lt
  generalize h.push (.cells (S_api_Tenant.cs zT).toArray 130) = h2 at *
  have z2 := W.size
  rw [if_neg (by simp)]
  have R2 := R.ext W
  refine ⟨_, rfl, some m, by rw [R2.P.cell]; rfl, _, R2.M, _, _, rfl, rfl, ?_⟩
  rw [R2.look, getD_map, isSome_map]
  have Q := Blk.push h2 (S_api_Tenant.cs zT) 130
  have W3 := (Ext.push h2 (.cells (S_api_Tenant.cs zT).toArray 130) (Nat.le_refl _)).trans (Ext.sets _ (a := ⟨h2.size, 0, none⟩) 0 (S_api_Tenant.cs ((mget L name).getD zTZ).1) (Nat.le_refl _))
  refine ⟨_, WrsAt.of_blk Q (by rw [tcs_len]; omega), rfl, ?_⟩
  have Q2 := Q.sets_all (vs := S_api_Tenant.cs ((mget L name).getD zTZ).1) rfl
  generalize setsH (h2.push (.cells (S_api_Tenant.cs zT).toArray 130)) ⟨h2.size, 0, none⟩ 0 (S_api_Tenant.cs ((mget L name).getD zTZ).1) = h3 at *
  have z3 := W3.size
  have P3 := P.ext W3 pl
  have X03 : Ext h.size h h3 := W.trans (W3.mono z2)
  obtain ⟨KA, kb⟩ := R.key name
  have hb := R.hb
  cases hg : mget L name with
  | none =>
    rw [if_pos (by simp)]
    exact ⟨_, WrsAt.of_blk P3 (by rw [tcs_len]; omega), rfl, _, CellsAt.of_blk (P3.sets_all (vs := S_api_Tenant.cs zT) rfl), H0 _ hg (X03.trans (Ext.sets _ _ _ (Nat.le_refl _)))⟩
  | some t =>
    rw [if_neg (by simp)]
    rw [hg] at KA kb Q2
    refine ⟨t.1, CellsAt.of_blk Q2, Copied_ok (KA.ext X03) (by show t.2.length ≤ 1000000; have : t.2.length ≤ b := kb; omega) fun s zs' h5 O5 ab X5 => ?_⟩
    have P5 := P3.ext X5 P3.lt
    refine ⟨_, WrsAt.of_blk P5 (by rw [tcs_len]; omega), rfl, _, CellsAt.of_blk (P5.sets_all (vs := S_api_Tenant.cs { t.1 with f_Keys := s }) rfl), ?_⟩
    have oth : ∀ g, g ≠ h.size → (setsH h5 ⟨h.size, 0, none⟩ 0 (S_api_Tenant.cs { t.1 with f_Keys := s }))[g]? = h5[g]? := fun g hg => setsH_other _ _ hg
    have z6 : (setsH h5 ⟨h.size, 0, none⟩ 0 (S_api_Tenant.cs { t.1 with f_Keys := s })).size = h5.size := setsH_size _ _
    have z5 := X5.size
    generalize setsH h5 ⟨h.size, 0, none⟩ 0 (S_api_Tenant.cs { t.1 with f_Keys := s }) = h6 at *
    exact H1 t s zs' h6 hg ((O5.step (by omega) fun g g1 g2 => oth g (by omega)).mono (by omega)) ab (X03.trans ((X5.mono X03.size).trans ⟨by omega, fun g hg => oth g (by omega)⟩))
theorem REpoch_ok {name : ByteArray} {k : Int → Heap → Prop} (R : RegAt b h r m L) (H : ∀ h', Ext h.size h h' → k (epB ((mget L name).getD zTZ |> absT).2.2) h') : reg_Reg_Epoch (some ⟨r, 0, none⟩) name k h := by
  unfold reg_Reg_Epoch
  rw [if_neg (by simp)]
  refine ⟨_, rfl, some m, by rw [R.P.cell]; rfl, _, R.M, ?_⟩
  rw [R.look, getD_map]
  obtain ⟨KA, kb⟩ := R.key name
  have hb := R.hb
  refine Epoch_ok KA (by omega) fun h' X => ?_
  rw [epA_abs]; exact H h' X
end
/-! ### the example -/
abbrev tN : ByteArray := ⟨#[116]⟩
theorem tN_ok : nameOk tN = true := by decide +kernel
theorem applyE_of {c : S_api_Command} {n : Nat} {L : List (ByteArray × TZ)} {e : Int} (hm : mayR c n = true) (he : askB c ((mget L c.f_Tenant).map absT) L.length = e) : applyE c n L = e := by
  unfold applyE; rw [if_pos hm, askA_abs, he]
theorem awake25_ok {k : Bool → Heap → Prop} {h : Heap} (H : ∀ h', Ext h.size h h' → k true h') : law25_awake k h := by
  unfold law25_awake
  refine New_ok fun r m h2 R2 r0 m0 X2 => ?_
  have z2 := X2.size
  refine ⟨_, _, by omega, by omega, by omega, by omega, rfl, rfl, ?_⟩
  obtain ⟨wr, ewr⟩ : ∃ wr : List Int, wr = List.replicate 48 0 := ⟨_, rfl⟩
  have wrl : wr.length = 48 := by rw [ewr]; rfl
  have wB : isB wr := by rw [ewr]; intro x hx; have := (List.mem_replicate.1 hx).2; omega
  have ez : zrow [.int .u8 0] (48 : Int).toNat = b8 wr := by rw [ewr]; rfl
  rw [ez]
  have B := Blk.push h2 (b8 wr) 5
  have W3 := Ext.push h2 (.cells (b8 wr).toArray 5) (Nat.le_refl _)
  have bl := B.lt
  have ml := R2.M.lt
  obtain ⟨b3, eb3⟩ : ∃ x, x = h2.size := ⟨_, rfl⟩
  rw [← eb3] at B bl ml ⊢
  generalize h2.push (.cells (b8 wr).toArray 5) = h3 at *
  have z3 := W3.size
  have R3 := R2.ext W3
  have X3 : Ext h.size h h3 := X2.trans (W3.mono z2)
  have bm : b3 ≠ m := by omega
  have S : ∀ {h'}, Blk h' b3 (b8 wr) 5 → SlcAt h' ⟨some ⟨b3, 0, none⟩, (48 : Int).toNat, (48 : Int).toNat⟩ (b8 wr) := fun K => SlcAt.of_blk (ys := []) (by rw [List.append_nil]; exact K)
  have A : ∀ {h' : Heap} {kd ep : Int}, 0 ≤ ep ∧ ep < 4294967296 → Blk h' b3 (b8 wr) 5 → CmdAt h' ⟨kd, tN, ep, [], ⟨some ⟨b3, 0, none⟩, (48 : Int).toNat, (48 : Int).toNat⟩, 0⟩ wr := fun {h' kd ep} e K => ⟨S K, by rw [wrl]; rfl, wB, e, by show (-9223372036854775808 : Int) ≤ 0 ∧ (0 : Int) < 9223372036854775808; decide⟩
  -- it is made
  have e1 : applyE ⟨1, tN, 1, [], ⟨some ⟨b3, 0, none⟩, (48 : Int).toNat, (48 : Int).toNat⟩, 0⟩ wr.length [] = 0 := applyE_of (by rw [wrl]; show (nameOk tN && ((48 : Nat) : Int) == 48) = true; rw [tN_ok]; rfl) rfl
  refine Apply_ok R3 (by decide) (A (by omega) B) (by show tN.size ≤ 100000; decide) (by omega) (fun h' hh => absurd hh (by rw [e1]; simp)) fun t1 zs1 h4 _ _ ab1 R4 U4 => ?_
  have B4 := U4.blk B bm
  have ab1' : absT (t1, zs1) = (-9223372036854775808, false, [(1, nrm 12 [], wr)]) := ab1
  have z4 := U4.size
  -- its key is changed
  have g1 : mget (mput ([] : List (ByteArray × TZ)) tN (t1, zs1)) tN = some (t1, zs1) := by simp [mput, mget]
  have e2 : applyE ⟨2, tN, 2, [], ⟨some ⟨b3, 0, none⟩, (48 : Int).toNat, (48 : Int).toNat⟩, 0⟩ wr.length (mput [] tN (t1, zs1)) = 0 := applyE_of (by rw [wrl]; show (nameOk tN && ((48 : Nat) : Int) == 48) = true; rw [tN_ok]; rfl) (by
    show askB _ ((mget (mput [] tN (t1, zs1)) tN).map absT) _ = 0
    rw [g1, Option.map_some, ab1']; rfl)
  refine Apply_ok R4 (by decide) (A (by omega) B4) (by show tN.size ≤ 100000; decide) (by omega) (fun h' hh => absurd hh (by rw [e2]; simp)) fun t2 zs2 h5 _ _ ab2 R5 U5 => ?_
  have B5 := U5.blk B4 bm
  have z5 := U5.size
  have ab2' : absT (t2, zs2) = (-9223372036854775808, false, [(1, nrm 12 [], wr), (2, nrm 12 [], wr)]) := by
    rw [ab2]
    show newT _ _ (absT ((mget (mput [] tN (t1, zs1)) tN).getD zTZ)) = _
    rw [g1, Option.getD_some, ab1']; rfl
  -- the elder one is dropped
  have g2 : mget (mput (mput ([] : List (ByteArray × TZ)) tN (t1, zs1)) tN (t2, zs2)) tN = some (t2, zs2) := by simp [mput, mget]
  have e3 : applyE ⟨3, tN, 2, [], ⟨none, 0, 0⟩, 0⟩ ([] : List Int).length (mput (mput [] tN (t1, zs1)) tN (t2, zs2)) = 0 := applyE_of tN_ok (by
    show askB _ ((mget (mput (mput [] tN (t1, zs1)) tN (t2, zs2)) tN).map absT) _ = 0
    rw [g2, Option.map_some, ab2']; rfl)
  refine Apply_ok (wr := []) R5 (by decide) ⟨⟨fun _ => rfl, fun a ha => by cases ha⟩, rfl, (by intro x hx; cases hx), by decide, by decide⟩ (by decide) (by decide) (fun h' hh => absurd hh (by rw [e3]; simp)) fun t3 zs3 h6 _ _ ab3 R6 U6 => ?_
  have z6 := U6.size
  have ab3' : absT (t3, zs3) = (-9223372036854775808, false, [(2, nrm 12 [], wr)]) := by
    rw [ab3]
    show newT _ _ (absT ((mget (mput (mput [] tN (t1, zs1)) tN (t2, zs2)) tN).getD zTZ)) = _
    rw [g2, Option.getD_some, ab2']; rfl
  have g3 : mget (mput (mput (mput ([] : List (ByteArray × TZ)) tN (t1, zs1)) tN (t2, zs2)) tN (t3, zs3)) tN = some (t3, zs3) := by simp [mput, mget]
  have X6 : Ext h.size h h6 := X3.trans ((U4.trans (U5.trans U6)).ext m0 X3.size)
  refine Tenant_ok R6 (fun h' hg => by rw [g3] at hg; cases hg) fun t s zs' h7 hg O7 ab X7 => ?_
  rw [g3] at hg
  cases hg
  have z7 := X7.size
  have ks : zs3.map absK = [(2, nrm 12 [], wr)] := (Prod.mk.inj (Prod.mk.inj ab3').2).2
  rw [ks] at ab
  obtain ⟨z, hz⟩ : ∃ z, zs' = [z] := by
    have := congrArg List.length ab
    simp at this
    exact List.length_eq_one_iff.1 this
  subst hz
  have ze : z.1.f_Epoch = 2 := by
    simp only [List.map_cons, List.map_nil, List.cons.injEq, and_true, absK] at ab
    exact (Prod.mk.inj ab).1
  have R7 := R6.ext X7
  refine ⟨_, _, rfl, rfl, ?_⟩
  have Q := Blk.push h7 (S_api_Tenant.cs zT) 130
  have W8 := (Ext.push h7 (.cells (S_api_Tenant.cs zT).toArray 130) (Nat.le_refl _)).trans (Ext.sets _ (a := ⟨h7.size, 0, none⟩) 0 (S_api_Tenant.cs { t3 with f_Keys := s }) (Nat.le_refl _))
  refine ⟨_, WrsAt.of_blk Q (by rw [tcs_len]; omega), rfl, ?_⟩
  have Q2 := Q.sets_all (vs := S_api_Tenant.cs { t3 with f_Keys := s }) rfl
  dsimp only
  generalize setsH (h7.push (.cells (S_api_Tenant.cs zT).toArray 130)) ⟨h7.size, 0, none⟩ 0 (S_api_Tenant.cs { t3 with f_Keys := s }) = h8 at *
  have z8 := W8.size
  have R8 := R7.ext W8
  have O8 := O7.step z8 fun g _ g2 => W8.block g g2
  have sl := O8.2.1
  rw [if_pos (by decide)]
  have c1 : cellH h8 ((⟨h7.size, 0, none⟩ : Addr).add 1) = some (Slc.v s) := by rw [add_mk, Q2.cell]; rfl
  refine ⟨s, c1, ?_⟩
  unfold law25_awake_g1
  rw [if_pos (by rw [sl]; rfl)]
  obtain ⟨a, ha, C⟩ := O8.held.now.1.at' 0 z.1 rfl
  refine ⟨s, c1, a, ha, by omega, by rw [sl]; simp, z.1.f_Epoch, C 0 _ rfl, ?_⟩
  unfold law25_awake_g2
  rw [ze, if_pos (by decide)]
  refine REpoch_ok R8 fun h9 X9 => ?_
  unfold law25_awake_g3
  rw [g3, Option.getD_some]
  show k (epB (absT (t3, zs3)).2.2 == 2) h9
  rw [ab3']
  exact H h9 (X6.trans ((X7.trans ((W8.trans (X9.mono z8)).mono z7)).mono X6.size))
end Go.Q.Yb
