/- A part of the proof of statements of this seat: lemmas, no statement of their own. -/
import Derived.Test.YtcmbgfmbmbgbiaaYbRgA4
set_option linter.unusedVariables false
set_option linter.unusedSimpArgs false
namespace Go.Q.Yb
theorem mput_len {K V : Type} [DecidableEq K] {k : K} {v : V} : ∀ {l : List (K × V)}, (mput l k v).length = if (mget l k).isSome = true then l.length else l.length + 1
  | [] => rfl
  | p :: r => by
    have hm : mget (p :: r) k = if p.1 = k then some p.2 else mget r k := rfl
    by_cases hp : p.1 = k
    · rw [if_pos hp] at hm
      rw [hm]; simp [mput, hp]
    · rw [if_neg hp] at hm
      rw [hm]; simp only [mput, if_neg hp, List.length_cons, mput_len]
      split <;> rfl
abbrev AK := Int × List Int × List Int
def absT (q : TZ) : Int × Bool × List AK := (q.1.f_Horizon, q.1.f_Shredded, q.2.map absK)
/-- what comes of a tenant -/
def newT (c : S_api_Command) (wr : List Int) (t : Int × Bool × List AK) : Int × Bool × List AK :=
  if c.f_Kind = 1 then (-9223372036854775808, false, [(c.f_Epoch, nrm 12 c.f_Nonce, wr)])
  else if c.f_Kind = 2 then (t.1, t.2.1, t.2.2 ++ [(c.f_Epoch, nrm 12 c.f_Nonce, wr)])
  else if c.f_Kind = 3 then (t.1, t.2.1, t.2.2.filter fun a => !decide (a.1 < c.f_Epoch))
  else if c.f_Kind = 4 then (c.f_Horizon, t.2.1, t.2.2)
  else if c.f_Kind = 5 then (t.1, true, []) else t
def applyE (c : S_api_Command) (n : Nat) (L : List (ByteArray × TZ)) : Int := if mayR c n = true then askA c L else 1
section
variable {b : Nat} {h0 h : Heap} {r m : Nat} {L : List (ByteArray × TZ)} {c : S_api_Command} {wr : List Int} {k : Int → Heap → Prop}
/-- the tenant is laid into the map -/
theorem Aj4_ok {bc bt : Nat} {t : S_api_Tenant} {zs : List Z} (R : RegAt b h0 r m L) (X : Ext h0.size h0 h) (C : Blk h bc (S_api_Command.cs c) 32) (T : Blk h bt (S_api_Tenant.cs t) 130) (O : KOwn h0.size h t.f_Keys zs)
    (nm : t.f_Name = c.f_Tenant) (hz : zs.length ≤ b + 1) (hb : b + 1 ≤ 1000) (hL : (mput L c.f_Tenant (t, zs)).length ≤ 8) (H : ∀ h', RegAt (b + 1) h' r m (mput L c.f_Tenant (t, zs)) → Upd m h0 h' → k 0 h') : reg_Reg_Apply_j4 (some ⟨r, 0, none⟩) ⟨bc, 0, none⟩ ⟨bt, 0, none⟩ k h := by
  unfold reg_Reg_Apply_j4
  have R1 := R.ext X
  have zx := X.size
  have ml := R.M.lt
  have rl := R.P.lt
  refine ⟨_, rfl, some m, by rw [R1.P.cell]; rfl, c.f_Tenant, by rw [add_mk, C.cell]; rfl, t, CellsAt.of_blk T, m, _, _, rfl, R1.M, rfl, ?_⟩
  have M2 := R1.M.put kStr c.f_Tenant t
  have U : Upd m h0 (setM h m (.string c.f_Tenant) (vT t)) := ⟨by rw [setM_size]; omega, fun g hg hne => by rw [setM_other hne]; exact X.block g hg⟩
  refine H _ ⟨U.blk R.P R.ne, R.ne, ?_, fun q hq => ?_, hL, hb⟩ U
  · have := mput_map (fun q : TZ => q.1) c.f_Tenant (t, zs) L
    rw [← this]; exact M2
  · rcases mput_mem hq with rfl | hq
    · refine ⟨nm, fun h2 U2 => O.held h2 fun g g1 g2 => ?_, hz⟩
      rw [U2.block g (by rw [setM_size]; exact g2) (by omega), setM_other (by omega)]
    · obtain ⟨a1, a2, a3⟩ := R.T q hq
      exact ⟨a1, fun h2 U2 => a2 h2 (U.trans U2), by omega⟩
/-- the switch -/
theorem Aj3_ok {bc bt bk : Nat} {t : S_api_Tenant} {s rw' : Slc} {zs zs' : List Z} (R : RegAt b h0 r m L) (hb : b + 1 ≤ 1000) (X : Ext h0.size h0 h) (C : Blk h bc (S_api_Command.cs c) 32) (T : Blk h bt (S_api_Tenant.cs { t with f_Keys := s }) 130) (Kb : Blk h bk (S_api_Wrapped.cs ⟨c.f_Epoch, c.f_Nonce, rw'⟩) 132)
    (O : KOwn h0.size h s zs') (ab : zs'.map absK = zs.map absK) (Rw : Row h0.size h 5 1 rw' (b8 wr)) (wB : isB wr) (hbt : h0.size ≤ bt) (hz : zs.length ≤ b) (k1 : c.f_Kind = 1 ∨ c.f_Kind = 2 ∨ c.f_Kind = 3 ∨ c.f_Kind = 4 ∨ c.f_Kind = 5) (w48 : c.f_Kind = 1 ∨ c.f_Kind = 2 → wr.length = 48) (nm : c.f_Kind ≠ 1 → t.f_Name = c.f_Tenant)
    (hL : ∀ q : TZ, (mput L c.f_Tenant q).length ≤ 8)
    (H : ∀ t' zs'' h', absT (t', zs'') = newT c wr (absT (t, zs)) → RegAt (b + 1) h' r m (mput L c.f_Tenant (t', zs'')) → Upd m h0 h' → k 0 h') : reg_Reg_Apply_j3 (some ⟨r, 0, none⟩) ⟨bc, 0, none⟩ ⟨bt, 0, none⟩ ⟨bk, 0, none⟩ k h := by
  unfold reg_Reg_Apply_j3
  have zl : zs'.length = zs.length := by have := congrArg List.length ab; simpa using this
  have sl := O.2.1
  have zx := X.size
  refine ⟨c.f_Kind, by rw [C.cell]; rfl, ?_⟩
  rw [if_neg (by rw [beq_iff_eq]; omega)]
  by_cases h1 : c.f_Kind = 1
  · rw [if_pos (by simp [h1])]
    refine ⟨c.f_Tenant, by rw [add_mk, C.cell]; rfl, _, CellsAt.of_blk Kb, _, _, rfl, rfl, ?_⟩
    have N := Blk.push h (S_api_Wrapped.cs ⟨c.f_Epoch, c.f_Nonce, rw'⟩) 132
    have W := Ext.push h (.cells (S_api_Wrapped.cs ⟨c.f_Epoch, c.f_Nonce, rw'⟩).toArray 132) (Nat.le_refl _)
    generalize h.push (.cells (S_api_Wrapped.cs ⟨c.f_Epoch, c.f_Nonce, rw'⟩).toArray 132) = h2 at *
    have z2 := W.size
    have T2 := T.ext W T.lt
    have C2 := C.ext W C.lt
    refine ⟨_, WrsAt.of_blk T2 (by rw [tcs_len]; omega), rfl, ?_⟩
    have T3 := T2.sets_all (vs := S_api_Tenant.cs ⟨c.f_Tenant, ⟨some ⟨h.size, 0, none⟩, 1, 1⟩, -9223372036854775808, false⟩) rfl
    have oth : ∀ g, g ≠ bt → (setsH h2 ⟨bt, 0, none⟩ 0 (S_api_Tenant.cs ⟨c.f_Tenant, ⟨some ⟨h.size, 0, none⟩, 1, 1⟩, -9223372036854775808, false⟩))[g]? = h2[g]? := fun g hg => setsH_other _ _ hg
    have z3 : (setsH h2 ⟨bt, 0, none⟩ 0 (S_api_Tenant.cs ⟨c.f_Tenant, ⟨some ⟨h.size, 0, none⟩, 1, 1⟩, -9223372036854775808, false⟩)).size = h2.size := setsH_size _ _
    generalize setsH h2 ⟨bt, 0, none⟩ 0 (S_api_Tenant.cs ⟨c.f_Tenant, ⟨some ⟨h.size, 0, none⟩, 1, 1⟩, -9223372036854775808, false⟩) = h3 at *
    have cb : bc ≠ bt := Blk.diff C T (by decide)
    have N3 : Blk h3 h.size (S_api_Wrapped.cs ⟨c.f_Epoch, c.f_Nonce, rw'⟩) 132 := N.old (oth _ (by have := T.lt; omega))
    have Rw3 : Row h0.size h3 5 1 rw' (b8 wr) := (Rw.ext W fun g hg => (Rw.bd hg).2).keep fun g hg => oth g fun e => by
      subst e; exact Row.diff (Rw.ext W fun g hg => (Rw.bd hg).2) T2 (by decide) hg
    refine Aj4_ok (zs := [(⟨c.f_Epoch, c.f_Nonce, rw'⟩, wr)]) R (X.trans ((W.mono zx).trans ⟨by omega, fun g hg => oth g (by omega)⟩)) (C2.old (oth _ cb)) T3 ⟨⟨rfl, by show 1 ≤ maxLen; decide, .inr ⟨h.size, _, rfl, zx, N3, Nat.le_refl _, Nat.le_refl _, rfl⟩⟩, rfl, fun z hz => ?_⟩ rfl (by simp) hb (hL _) fun h' R' U => ?_
    · simp at hz; subst hz
      exact ⟨Rw3, by have := Rw.pb; exact this, wB, w48 (.inl h1)⟩
    · exact H _ _ h' (by unfold newT; rw [if_pos h1]; rfl) R' U
  rw [if_neg (by simpa using h1)]
  have nm1 := nm h1
  by_cases h2 : c.f_Kind = 2
  · rw [if_pos (by simp [h2])]
    refine ⟨s, by rw [add_mk, T.cell]; rfl, _, CellsAt.of_blk Kb, _, _, rfl, rfl, ?_⟩
    refine App.row (O.1.pushed _) (by simp; omega) rfl rfl (oneC (by kernel_rfl)) (by omega) (by simp only [maxLen]; omega) fun s' h8 R8 l8 z8 F8 _ => ?_
    simp at z8
    have F : ∀ g, g < h.size → s.blk ≠ some g → h8[g]? = h[g]? := fun g hg hs => by rw [F8 g (by simp; omega) hs, Array.getElem?_push, if_neg (by omega)]
    have T8 : Blk h8 bt (S_api_Tenant.cs { t with f_Keys := s }) 130 := T.old (F bt T.lt (Row.diff O.1 T (by decide)))
    have C8 : Blk h8 bc (S_api_Command.cs c) 32 := C.old (F bc C.lt (Row.diff O.1 C (by decide)))
    refine ⟨_, by rw [add_mk]; exact T8.wr (by rw [tcs_len]; omega), rfl, ?_⟩
    rw [show (⟨bt, 0, none⟩ : Addr).add 1 = ⟨bt, 1, none⟩ from by simp]
    have T9 : Blk (setH h8 ⟨bt, 1, none⟩ (Slc.v s')) bt (S_api_Tenant.cs { t with f_Keys := s' }) 130 := T8.set
    have oth : ∀ g, g ≠ bt → (setH h8 ⟨bt, 1, none⟩ (Slc.v s'))[g]? = h8[g]? := fun g hg => setH_other hg
    have z9 : (setH h8 ⟨bt, 1, none⟩ (Slc.v s')).size = h8.size := setH_size
    generalize setH h8 ⟨bt, 1, none⟩ (Slc.v s') = h9 at *
    have cb : bc ≠ bt := Blk.diff C T (by decide)
    have row5 : ∀ {u : Slc} {xs : List Value}, Row h0.size h 5 1 u xs → Row h0.size h9 5 1 u xs := fun {u xs} Ru => Ru.keep fun g hg => by
      rw [oth g fun e => by subst e; exact Row.diff Ru T (by decide) hg, F g (Ru.bd hg).2 fun e => Row.ne_row O.1 Ru (by decide) e hg]
    refine Aj4_ok (zs := zs' ++ [(⟨c.f_Epoch, c.f_Nonce, rw'⟩, wr)]) R (X.trans ⟨by omega, fun g hg => by rw [oth g (by omega), F g (by omega) fun e => by have := (O.1.bd e).1; omega]⟩) (C8.old (oth _ cb)) T9
      ⟨?_, by rw [List.length_append]; simp; omega, fun z hz => ?_⟩ nm1 (by rw [List.length_append]; simp; omega) hb (hL _) fun h' R' U => ?_
    · have := R8.keep fun g hg => oth g fun e => by subst e; exact Row.diff R8 T8 (by decide) hg
      simpa using this
    · rcases List.mem_append.1 hz with hz | hz
      · obtain ⟨a1, a2⟩ := O.2.2 z hz; exact ⟨row5 a1, a2⟩
      · simp at hz; subst hz
        exact ⟨row5 Rw, by have := Rw.pb; exact this, wB, w48 (.inr h2)⟩
    · exact H _ _ h' (by unfold newT; rw [if_neg h1, if_pos h2]; simp only [absT, List.map_append, ab]; rfl) R' U
  rw [if_neg (by simpa using h2)]
  by_cases h3 : c.f_Kind = 3
  · rw [if_pos (by simp [h3])]
    refine ⟨s, by rw [add_mk, T.cell]; rfl, Delete_ok O zx (by omega) C fun s' h8 O8 F8 => ?_⟩
    have z8 := F8.size
    have T8 : Blk h8 bt (S_api_Tenant.cs { t with f_Keys := s }) 130 := T.old (F8.block bt T.lt (Row.diff O.1 T (by decide)))
    have C8 : Blk h8 bc (S_api_Command.cs c) 32 := C.old (F8.block bc C.lt (Row.diff O.1 C (by decide)))
    refine ⟨_, by rw [add_mk]; exact T8.wr (by rw [tcs_len]; omega), rfl, ?_⟩
    rw [show (⟨bt, 0, none⟩ : Addr).add 1 = ⟨bt, 1, none⟩ from by simp]
    have T9 : Blk (setH h8 ⟨bt, 1, none⟩ (Slc.v s')) bt (S_api_Tenant.cs { t with f_Keys := s' }) 130 := T8.set
    have oth : ∀ g, g ≠ bt → (setH h8 ⟨bt, 1, none⟩ (Slc.v s'))[g]? = h8[g]? := fun g hg => setH_other hg
    have z9 : (setH h8 ⟨bt, 1, none⟩ (Slc.v s')).size = h8.size := setH_size
    generalize setH h8 ⟨bt, 1, none⟩ (Slc.v s') = h9 at *
    have cb : bc ≠ bt := Blk.diff C T (by decide)
    refine Aj4_ok (zs := zs'.filter (keepK c.f_Epoch)) R (X.trans ⟨by omega, fun g hg => by rw [oth g (by omega), F8.block g (by omega) fun e => by have := (O.1.bd e).1; omega]⟩) (C8.old (oth _ cb)) T9
      ⟨O8.1.keep fun g hg => oth g fun e => by subst e; exact Row.diff O8.1 T8 (by decide) hg, O8.2.1, fun z hz => ?_⟩ nm1 (by have := List.length_filter_le (keepK c.f_Epoch) zs'; omega) hb (hL _) fun h' R' U => ?_
    · obtain ⟨a1, a2⟩ := O8.2.2 z hz
      exact ⟨a1.keep fun g hg => oth g fun e => by subst e; exact Row.diff a1 T8 (by decide) hg, a2⟩
    · refine H _ _ h' ?_ R' U
      unfold newT; rw [if_neg h1, if_neg h2, if_pos h3]
      simp only [absT, ← ab, List.filter_map]; rfl
  rw [if_neg (by simpa using h3)]
  by_cases h4 : c.f_Kind = 4
  · rw [if_pos (by simp [h4])]
    refine ⟨c.f_Horizon, by rw [add_mk, C.cell]; rfl, _, by rw [add_mk]; exact T.wr (by rw [tcs_len]; omega), rfl, ?_⟩
    rw [show (⟨bt, 0, none⟩ : Addr).add 2 = ⟨bt, 2, none⟩ from by simp]
    have T9 : Blk (setH h ⟨bt, 2, none⟩ (.int .i64 c.f_Horizon)) bt (S_api_Tenant.cs { t with f_Keys := s, f_Horizon := c.f_Horizon }) 130 := T.set
    have oth : ∀ g, g ≠ bt → (setH h ⟨bt, 2, none⟩ (.int .i64 c.f_Horizon))[g]? = h[g]? := fun g hg => setH_other hg
    have z9 : (setH h ⟨bt, 2, none⟩ (.int .i64 c.f_Horizon)).size = h.size := setH_size
    generalize setH h ⟨bt, 2, none⟩ (.int .i64 c.f_Horizon) = h9 at *
    have cb : bc ≠ bt := Blk.diff C T (by decide)
    refine Aj4_ok (zs := zs') R (X.trans ⟨by omega, fun g hg => oth g (by omega)⟩) (C.old (oth _ cb)) T9
      ⟨O.1.keep fun g hg => oth g fun e => by subst e; exact Row.diff O.1 T (by decide) hg, O.2.1, fun z hz => ?_⟩ nm1 (by omega) hb (hL _) fun h' R' U => ?_
    · obtain ⟨a1, a2⟩ := O.2.2 z hz
      exact ⟨a1.keep fun g hg => oth g fun e => by subst e; exact Row.diff a1 T (by decide) hg, a2⟩
    · exact H _ _ h' (by unfold newT; rw [if_neg h1, if_neg h2, if_neg h3, if_pos h4]; simp only [absT, ab]) R' U
  rw [if_neg (by simpa using h4)]
  have h5 : c.f_Kind = 5 := by omega
  rw [if_pos (by simp [h5])]
  refine ⟨_, by rw [add_mk]; exact T.wr (by rw [tcs_len]; omega), rfl, ?_⟩
  rw [show (⟨bt, 0, none⟩ : Addr).add 1 = ⟨bt, 1, none⟩ from by simp]
  have T8 : Blk (setH h ⟨bt, 1, none⟩ (Slc.v ⟨none, 0, 0⟩)) bt (S_api_Tenant.cs { t with f_Keys := ⟨none, 0, 0⟩ }) 130 := T.set
  refine ⟨_, by rw [add_mk]; exact T8.wr (by rw [tcs_len]; omega), rfl, ?_⟩
  rw [show (⟨bt, 0, none⟩ : Addr).add 3 = ⟨bt, 3, none⟩ from by simp]
  have T9 : Blk (setH (setH h ⟨bt, 1, none⟩ (Slc.v ⟨none, 0, 0⟩)) ⟨bt, 3, none⟩ (.bool true)) bt (S_api_Tenant.cs { t with f_Keys := ⟨none, 0, 0⟩, f_Shredded := true }) 130 := T8.set
  have oth : ∀ g, g ≠ bt → (setH (setH h ⟨bt, 1, none⟩ (Slc.v ⟨none, 0, 0⟩)) ⟨bt, 3, none⟩ (.bool true))[g]? = h[g]? := fun g hg => (setH_other hg).trans (setH_other hg)
  have z9 : (setH (setH h ⟨bt, 1, none⟩ (Slc.v ⟨none, 0, 0⟩)) ⟨bt, 3, none⟩ (.bool true)).size = h.size := setH_size.trans setH_size
  generalize setH (setH h ⟨bt, 1, none⟩ (Slc.v ⟨none, 0, 0⟩)) ⟨bt, 3, none⟩ (.bool true) = h9 at *
  have cb : bc ≠ bt := Blk.diff C T (by decide)
  refine Aj4_ok (zs := []) R (X.trans ⟨by omega, fun g hg => oth g (by omega)⟩) (C.old (oth _ cb)) T9 (KOwn.nil _ _) nm1 (by simp) hb (hL _) fun h' R' U => ?_
  exact H _ _ h' (by unfold newT; rw [if_neg h1, if_neg h2, if_neg h3, if_neg h4, if_pos h5]; rfl) R' U
/-- the key is made -/
theorem Aj2_ok {bc bt : Nat} {t : S_api_Tenant} {s : Slc} {zs zs' : List Z} (R : RegAt b h0 r m L) (hb : b + 1 ≤ 1000) (A : CmdAt h0 c wr) (wl : wr.length ≤ 100000) (X : Ext h0.size h0 h) (C : Blk h bc (S_api_Command.cs c) 32) (T : Blk h bt (S_api_Tenant.cs { t with f_Keys := s }) 130)
    (O : KOwn h0.size h s zs') (ab : zs'.map absK = zs.map absK) (hbt : h0.size ≤ bt) (hz : zs.length ≤ b) (k1 : c.f_Kind = 1 ∨ c.f_Kind = 2 ∨ c.f_Kind = 3 ∨ c.f_Kind = 4 ∨ c.f_Kind = 5) (w48 : c.f_Kind = 1 ∨ c.f_Kind = 2 → wr.length = 48) (nm : c.f_Kind ≠ 1 → t.f_Name = c.f_Tenant)
    (hL : ∀ q : TZ, (mput L c.f_Tenant q).length ≤ 8)
    (H : ∀ t' zs'' h', absT (t', zs'') = newT c wr (absT (t, zs)) → RegAt (b + 1) h' r m (mput L c.f_Tenant (t', zs'')) → Upd m h0 h' → k 0 h') : reg_Reg_Apply_j2 (some ⟨r, 0, none⟩) ⟨bc, 0, none⟩ ⟨bt, 0, none⟩ k h := by
  unfold reg_Reg_Apply_j2
  have zx := X.size
  have c2 : ∀ {h'}, Blk h' bc (S_api_Command.cs c) 32 → cellH h' ((⟨bc, 0, none⟩ : Addr).add 2) = some (.int .u32 c.f_Epoch) := fun K => by rw [add_mk, K.cell]; rfl
  have c3 : ∀ {h'}, Blk h' bc (S_api_Command.cs c) 32 → CellsAt h' ((⟨bc, 0, none⟩ : Addr).add 3) (arr 12 .u8 c.f_Nonce) := fun K => by rw [add_mk]; exact K.part (n := 12) rfl
  have c15 : ∀ {h'}, Blk h' bc (S_api_Command.cs c) 32 → cellH h' ((⟨bc, 0, none⟩ : Addr).add 15) = some (Slc.v c.f_Wrapped) := fun K => by rw [add_mk, K.cell]; rfl
  have ww : IntKind.u32.wrap c.f_Epoch = c.f_Epoch := wrapU32 A.ep.1 A.ep.2
  refine ⟨_, c2 C, _, c3 C, _, c15 C, ?_, ?_⟩
  · refine Clone_ok A.wl (A.ws.ext X) (by omega) fun rw' h1 R1 X1 => ?_
    have z1 := X1.size
    have C1 := C.ext X1 C.lt
    refine ⟨c3 C1, c2 C1, _, _, rfl, rfl, ?_⟩
    have N := Blk.push h1 (S_api_Wrapped.cs zW) 132
    have W := Ext.push h1 (.cells (S_api_Wrapped.cs zW).toArray 132) (Nat.le_refl _)
    have CW := C1.ext W C1.lt
    refine ⟨c3 CW, c2 CW, _, WrsAt.of_blk N (by rw [wcs_len]; omega), rfl, ?_⟩
    have N2 := N.sets_all (vs := S_api_Wrapped.cs ⟨c.f_Epoch, c.f_Nonce, rw'⟩) rfl
    have W2 := W.trans (Ext.sets (h1.push (.cells (S_api_Wrapped.cs zW).toArray 132)) (a := ⟨h1.size, 0, none⟩) 0 (S_api_Wrapped.cs ⟨c.f_Epoch, c.f_Nonce, rw'⟩) (Nat.le_refl _))
    generalize setsH (h1.push (.cells (S_api_Wrapped.cs zW).toArray 132)) ⟨h1.size, 0, none⟩ 0 (S_api_Wrapped.cs ⟨c.f_Epoch, c.f_Nonce, rw'⟩) = h2 at *
    have X2 : Ext h.size h h2 := X1.trans (W2.mono z1)
    exact Aj3_ok R hb (X.trans (X2.mono zx)) (C.ext X2 C.lt) (T.ext X2 T.lt) N2 (O.step X2.size fun g _ g2 => X2.block g g2) ab ((R1.ext W2 fun g hg => (R1.bd hg).2).mono zx) A.wb hbt hz k1 w48 nm hL H
  · refine ⟨_, _, rfl, rfl, ?_⟩
    have N := Blk.push h (S_api_Wrapped.cs zW) 132
    have W := Ext.push h (.cells (S_api_Wrapped.cs zW).toArray 132) (Nat.le_refl _)
    have nl := N.lt
    generalize h.push (.cells (S_api_Wrapped.cs zW).toArray 132) = h1 at *
    have z1 := W.size
    have C1 := C.ext W C.lt
    refine ⟨c15 C1, c3 C1, c2 C1, Clone_ok A.wl ((A.ws.ext X).ext W) (by omega) fun rw' h2 R2 X2 => ?_⟩
    have z2 := X2.size
    have C2 := C1.ext X2 C1.lt
    have N2 := N.ext X2 nl
    refine ⟨c3 C2, c2 C2, _, WrsAt.of_blk N2 (by rw [wcs_len]; omega), rfl, ?_⟩
    have N3 := N2.sets_all (vs := S_api_Wrapped.cs ⟨c.f_Epoch, c.f_Nonce, rw'⟩) rfl
    have X3 : Ext h.size h2 (setsH h2 ⟨h.size, 0, none⟩ 0 (S_api_Wrapped.cs ⟨c.f_Epoch, c.f_Nonce, rw'⟩)) := Ext.sets _ _ _ (Nat.le_refl _)
    have R3 : Row h1.size (setsH h2 ⟨h.size, 0, none⟩ 0 (S_api_Wrapped.cs ⟨c.f_Epoch, c.f_Nonce, rw'⟩)) 5 1 rw' (b8 wr) := R2.keep fun g hg => setsH_other _ _ (by have := (R2.bd hg).1; dsimp only; omega)
    generalize setsH h2 ⟨h.size, 0, none⟩ 0 (S_api_Wrapped.cs ⟨c.f_Epoch, c.f_Nonce, rw'⟩) = h3 at *
    have X03 : Ext h.size h h3 := (W.trans (X2.mono z1)).trans X3
    exact Aj3_ok R hb (X.trans (X03.mono zx)) (C.ext X03 C.lt) (T.ext X03 T.lt) N3 (O.step X03.size fun g _ g2 => X03.block g g2) ab (R3.mono (by omega)) A.wb hbt hz k1 w48 nm hL H
theorem askA0 (ha : askA c L = 0) (k0 : c.f_Kind ≠ 0) (hn : L.length ≤ 8) : (c.f_Kind ≠ 1 → (mget L c.f_Tenant).isSome = true) ∧ ∀ q : TZ, (mput L c.f_Tenant q).length ≤ 8 := by
  unfold askA at ha
  rw [if_neg k0] at ha
  split at ha
  · cases ha
  rename_i h7
  split at ha
  · cases ha
  rename_i h8
  split at ha
  · cases ha
  rename_i h16
  have h1 : c.f_Kind ≠ 1 → (mget L c.f_Tenant).isSome = true := fun hk => by
    cases hs : (mget L c.f_Tenant).isSome with
    | true => rfl
    | false => exact absurd ⟨hk, hs⟩ h16
  refine ⟨h1, fun q => ?_⟩
  rw [mput_len]
  split
  · exact hn
  · rename_i hs
    have : c.f_Kind = 1 := Classical.byContradiction fun hk => hs (h1 hk)
    have : ¬ L.length ≥ 8 := fun h => h8 ⟨this, h⟩
    omega
theorem mayR_kind {n : Nat} (hm : mayR c n = true) (k0 : c.f_Kind ≠ 0) : (c.f_Kind = 1 ∨ c.f_Kind = 2 ∨ c.f_Kind = 3 ∨ c.f_Kind = 4 ∨ c.f_Kind = 5) ∧ (c.f_Kind = 1 ∨ c.f_Kind = 2 → n = 48) := by
  unfold mayR at hm
  rw [if_neg k0] at hm
  by_cases h12 : c.f_Kind = 1 ∨ c.f_Kind = 2
  · rw [if_pos h12, Bool.and_eq_true, beq_iff_eq] at hm
    exact ⟨by omega, fun _ => by omega⟩
  · rw [if_neg h12] at hm
    by_cases h345 : c.f_Kind = 3 ∨ c.f_Kind = 4 ∨ c.f_Kind = 5
    · exact ⟨by omega, fun h => absurd h h12⟩
    · rw [if_neg h345] at hm; cases hm
/-- a command is applied -/
theorem Apply_ok (R : RegAt b h r m L) (hb : b + 1 ≤ 1000) (A : CmdAt h c wr) (ht : c.f_Tenant.size ≤ 100000) (wl : wr.length ≤ 100000)
    (H0 : ∀ h', applyE c wr.length L ≠ 0 ∨ c.f_Kind = 0 → Ext h.size h h' → k (applyE c wr.length L) h')
    (H1 : ∀ t' zs' h', applyE c wr.length L = 0 → c.f_Kind ≠ 0 → absT (t', zs') = newT c wr (absT ((mget L c.f_Tenant).getD zTZ)) → RegAt (b + 1) h' r m (mput L c.f_Tenant (t', zs')) → Upd m h h' → k 0 h') : reg_Reg_Apply (some ⟨r, 0, none⟩) c k h := by
  unfold reg_Reg_Apply
  refine ⟨_, _, rfl, rfl, ?_⟩
  have P := Blk.push h (S_api_Command.cs c) 32
  have W := Ext.push h (.cells (S_api_Command.cs c).toArray 32) (Nat.le_refl _)
  obtain ⟨h2, e2⟩ : ∃ y, y = h.push (.cells (S_api_Command.cs c).toArray 32) := ⟨_, rfl⟩
  rw [← e2] at P W ⊢
  have z2 := W.size
  have pl := P.lt
  rw [if_neg (by simp)]
  refine ⟨c, CellsAt.of_blk P, May_ok A.wl (by omega) fun h3 X3 => ?_⟩
  have z3 := X3.size
  have X03 : Ext h.size h h3 := W.trans (X3.mono z2)
  unfold reg_Reg_Apply_g1
  unfold applyE at H0 H1
  cases hm : mayR c wr.length with
  | false =>
    rw [hm] at H0
    rw [show (!false) = true from rfl, if_pos rfl]
    have := H0 h3 (.inl (by simp)) X03
    rw [if_neg (by simp)] at this; exact this
  | true =>
    simp only [hm, if_true] at H0 H1
    rw [show (!true) = false from rfl, if_neg (by simp)]
    have P3 := P.ext X3 pl
    refine ⟨c, CellsAt.of_blk P3, asks_ok (R.ext X03) fun h4 X4 => ?_⟩
    have z4 := X4.size
    have X04 := X03.trans (X4.mono X03.size)
    by_cases ha : askA c L = 0
    · rw [if_neg (by simp [ha])]
      have R4 := R.ext X04
      have P4 := P3.ext X4 P3.lt
      obtain ⟨KA, kb⟩ := R.key c.f_Tenant
      refine ⟨_, rfl, some m, by rw [R4.P.cell]; rfl, c.f_Tenant, by rw [add_mk, P4.cell]; rfl, _, R4.M, ?_⟩
      rw [R4.look, getD_map]
      have nm : ∀ q, mget L c.f_Tenant = some q → q.1.f_Name = c.f_Tenant := fun q hq => (R.T _ (mget_mem hq)).1
      obtain ⟨t, et⟩ : ∃ t, t = (mget L c.f_Tenant).getD zTZ := ⟨_, rfl⟩
      rw [← et] at KA kb ⊢
      have zx := X04.size
      have hb1 := R.hb
      have body : ∀ {bt : Nat} {s : Slc} {zs' : List Z} {h' : Heap}, Ext h.size h h' → Blk h' h.size (S_api_Command.cs c) 32 → Blk h' bt (S_api_Tenant.cs { t.1 with f_Keys := s }) 130 → KOwn h.size h' s zs' → zs'.map absK = t.2.map absK → h.size ≤ bt → reg_Reg_Apply_j2 (some ⟨r, 0, none⟩) ⟨h.size, 0, none⟩ ⟨bt, 0, none⟩ k h' := fun {bt s zs' h'} X C T O ab hbt => by
        by_cases k0 : c.f_Kind = 0
        · -- nothing is asked
          unfold reg_Reg_Apply_j2
          have c2 : ∀ {h'}, Blk h' h.size (S_api_Command.cs c) 32 → cellH h' ((⟨h.size, 0, none⟩ : Addr).add 2) = some (.int .u32 c.f_Epoch) := fun K => by rw [add_mk, K.cell]; rfl
          have c3 : ∀ {h'}, Blk h' h.size (S_api_Command.cs c) 32 → CellsAt h' ((⟨h.size, 0, none⟩ : Addr).add 3) (arr 12 .u8 c.f_Nonce) := fun K => by rw [add_mk]; exact K.part (n := 12) rfl
          have c15 : ∀ {h'}, Blk h' h.size (S_api_Command.cs c) 32 → cellH h' ((⟨h.size, 0, none⟩ : Addr).add 15) = some (Slc.v c.f_Wrapped) := fun K => by rw [add_mk, K.cell]; rfl
          have j3 : ∀ {bk : Nat} {h2 : Heap}, Ext h'.size h' h2 → reg_Reg_Apply_j3 (some ⟨r, 0, none⟩) ⟨h.size, 0, none⟩ ⟨bt, 0, none⟩ ⟨bk, 0, none⟩ k h2 := fun {bk h2} X2 => by
            unfold reg_Reg_Apply_j3
            refine ⟨c.f_Kind, by rw [(C.ext X2 C.lt).cell]; rfl, ?_⟩
            rw [if_pos (by simp [k0])]
            have := H0 h2 (.inr k0) (X.trans (X2.mono X.size))
            rw [ha] at this; exact this
          refine ⟨_, c2 C, _, c3 C, _, c15 C, ?_, ?_⟩
          · refine Clone_ok A.wl (A.ws.ext X) (by omega) fun rw' h1 R1 X1 => ?_
            have C1 := C.ext X1 C.lt
            refine ⟨c3 C1, c2 C1, _, _, rfl, rfl, ?_⟩
            have N := Blk.push h1 (S_api_Wrapped.cs zW) 132
            have W := Ext.push h1 (.cells (S_api_Wrapped.cs zW).toArray 132) (Nat.le_refl _)
            have CW := C1.ext W C1.lt
            refine ⟨c3 CW, c2 CW, _, WrsAt.of_blk N (by rw [wcs_len]; omega), rfl, j3 ?_⟩
            exact X1.trans ((W.trans (Ext.sets _ _ _ (Nat.le_refl _))).mono X1.size)
          · refine ⟨_, _, rfl, rfl, ?_⟩
            have N := Blk.push h' (S_api_Wrapped.cs zW) 132
            have W := Ext.push h' (.cells (S_api_Wrapped.cs zW).toArray 132) (Nat.le_refl _)
            have nl := N.lt
            generalize h'.push (.cells (S_api_Wrapped.cs zW).toArray 132) = h1 at *
            have C1 := C.ext W C.lt
            refine ⟨c15 C1, c3 C1, c2 C1, Clone_ok A.wl ((A.ws.ext X).ext W) (by omega) fun rw' h2 R2 X2 => ?_⟩
            have C2 := C1.ext X2 C1.lt
            refine ⟨c3 C2, c2 C2, _, WrsAt.of_blk (N.ext X2 nl) (by rw [wcs_len]; omega), rfl, j3 ?_⟩
            exact (W.trans (X2.mono W.size)).trans (Ext.sets _ _ _ (Nat.le_refl _))
        · obtain ⟨hk1, h48⟩ := mayR_kind hm k0
          obtain ⟨hsm, hL⟩ := askA0 ha k0 R.n
          refine Aj2_ok R hb A wl X C T O ab hbt kb hk1 h48 (fun hne => ?_) hL fun t' zs'' h'' e R' U => H1 t' zs'' h'' ha k0 (by rw [← et]; exact e) R' U
          have hs := hsm hne
          cases hg : mget L c.f_Tenant with
          | none => rw [hg] at hs; cases hs
          | some q => rw [hg] at et; rw [et]; exact nm q hg
      refine ⟨Copied_ok (KA.ext X04) (by omega) fun s zs' h5 O5 ab X5 => ?_, ?_⟩
      · have z5 := X5.size
        have X05 := X04.trans (X5.mono zx)
        refine ⟨_, _, rfl, rfl, ?_⟩
        have Q := Blk.push h5 (S_api_Tenant.cs zT) 130
        have W6 := (Ext.push h5 (.cells (S_api_Tenant.cs zT).toArray 130) (Nat.le_refl _)).trans (Ext.sets _ (a := ⟨h5.size, 0, none⟩) 0 (S_api_Tenant.cs { t.1 with f_Keys := s }) (Nat.le_refl _))
        refine ⟨_, WrsAt.of_blk Q (by rw [tcs_len]; omega), rfl, ?_⟩
        have Q2 := Q.sets_all (vs := S_api_Tenant.cs { t.1 with f_Keys := s }) rfl
        generalize setsH (h5.push (.cells (S_api_Tenant.cs zT).toArray 130)) ⟨h5.size, 0, none⟩ 0 (S_api_Tenant.cs { t.1 with f_Keys := s }) = h6 at *
        exact body (X05.trans (W6.mono X05.size)) ((P4.ext X5 P4.lt).ext W6 (by have := P4.lt; omega)) Q2 ((O5.step W6.size fun g _ g2 => W6.block g g2).mono zx) ab (by omega)
      · refine ⟨_, _, rfl, rfl, ?_⟩
        have Q := Blk.push h4 (S_api_Tenant.cs zT) 130
        have W5 := Ext.push h4 (.cells (S_api_Tenant.cs zT).toArray 130) (Nat.le_refl _)
        have ql := Q.lt
        generalize h4.push (.cells (S_api_Tenant.cs zT).toArray 130) = h5 at *
        have z5 := W5.size
        have R5 := R4.ext W5
        have P5 := P4.ext W5 P4.lt
        refine ⟨R5.M, by rw [add_mk, P5.cell]; rfl, by rw [R5.P.cell]; rfl, Copied_ok ((KA.ext X04).ext W5) (by omega) fun s zs' h6 O6 ab X6 => ?_⟩
        have z6 := X6.size
        have Q6 := Q.ext X6 ql
        refine ⟨_, WrsAt.of_blk Q6 (by rw [tcs_len]; omega), rfl, ?_⟩
        have Q7 := Q6.sets_all (vs := S_api_Tenant.cs { t.1 with f_Keys := s }) rfl
        have oth : ∀ g, g ≠ h4.size → (setsH h6 ⟨h4.size, 0, none⟩ 0 (S_api_Tenant.cs { t.1 with f_Keys := s }))[g]? = h6[g]? := fun g hg => setsH_other _ _ hg
        have z7 : (setsH h6 ⟨h4.size, 0, none⟩ 0 (S_api_Tenant.cs { t.1 with f_Keys := s })).size = h6.size := setsH_size _ _
        generalize setsH h6 ⟨h4.size, 0, none⟩ 0 (S_api_Tenant.cs { t.1 with f_Keys := s }) = h7 at *
        have X67 : Ext h4.size h6 h7 := ⟨by omega, fun g hg => oth g (by omega)⟩
        have X47 : Ext h4.size h4 h7 := (W5.trans (X6.mono z5)).trans X67
        exact body (X04.trans (X47.mono zx)) (P4.ext X47 P4.lt) Q7 ((O6.step (by omega) fun g g1 g2 => oth g (by omega)).mono (by omega)) ab zx
    · rw [if_pos (by simpa using ha)]
      exact H0 h4 (.inl ha) X04
end
end Go.Q.Yb
