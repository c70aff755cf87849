/- A part of the proof of statements of this seat: lemmas, no statement of their own. -/
import Derived.Test.YtcmbgfmbmbgbiaaYbRiCx
import Derived.Test.YtcmbgfmbmbgbiaaYbRhN
set_option linter.unusedVariables false
set_option linter.unusedSimpArgs false
set_option maxHeartbeats 1000000
namespace Go.Q.Yb
theorem keysF_len2 {p : ByteArray × AT} (g : Good p) : (p.2.2.2.flatMap keyF).length = p.2.2.2.length * 64 := keysF_len g.2.2.2.2
theorem regF_len {A : AG} (g : ∀ p ∈ A, Good p) (kl : ∀ p ∈ A, p.2.2.2.length ≤ 40) : (A.flatMap tenF).length ≤ A.length * 3000 := by
  induction A with
  | nil => simp
  | cons p r ih =>
    have ih' := ih (fun q hq => g q (List.mem_cons_of_mem _ hq)) fun q hq => kl q (List.mem_cons_of_mem _ hq)
    have gp := g p (List.mem_cons_self ..)
    have kp := kl p (List.mem_cons_self ..)
    have h1 := textL_len p.1
    have h2 := shortL_len p.2.2.2.length
    have h3 := keysF_len2 gp
    have h4 := gp.small
    have h5 : (tenF p).length = (textL p.1).length + (1 + (8 + ((shortL p.2.2.2.length).length + (p.2.2.2.flatMap keyF).length))) := by
      unfold tenF
      rw [List.length_append, List.length_append, List.length_append, List.length_append, formL_length, formL_length]
    rw [List.flatMap_cons, List.length_append, List.length_cons, h5]
    omega
theorem CmdsN.of {W : Heap} {s : Slc} {ys : List S_api_Command} (L : LsAt S_api_Command.cs 17 W s ys) (hm : s.len ≤ maxLen) (o : ∀ y ∈ ys, Ok_S_api_Command W y) : ∃ l, Cmds W s l ∧ ∀ p ∈ l, isB p.1.f_Nonce := by
  have : ∀ ys : List S_api_Command, (∀ y ∈ ys, Ok_S_api_Command W y) → ∃ l : List (S_api_Command × List Int), l.map (·.1) = ys ∧ ∀ p ∈ l, CmdAt W p.1 p.2 ∧ isB p.1.f_Nonce := fun ys => by
    induction ys with
    | nil => exact fun _ => ⟨[], rfl, fun p hp => by simp at hp⟩
    | cons y r ih =>
      intro o
      obtain ⟨l, h1, h2⟩ := ih fun z hz => o z (List.mem_cons_of_mem _ hz)
      obtain ⟨wr, A⟩ := CmdAt.arg (o y (by simp))
      obtain ⟨_, _, _, ⟨_, nb⟩, _, _⟩ := o y (by simp)
      refine ⟨(y, wr) :: l, by simp [h1], fun p hp => ?_⟩
      rcases List.mem_cons.1 hp with rfl | hp
      · exact ⟨A, wf_isB nb⟩
      · exact h2 p hp
  obtain ⟨l, h1, h2⟩ := this ys o
  exact ⟨l, ⟨by rw [h1]; exact L, fun p hp => (h2 p hp).1, hm⟩, fun p hp => (h2 p hp).2⟩
theorem absT_zTZ : absT zTZ = zAT := rfl
theorem RPlays_ok {W : Heap} {s : Slc} {name : ByteArray} {l : List (S_api_Command × List Int)} {k : Bool → Heap → Prop} (S : Cmds W s l) (nb : ∀ p ∈ l, isB p.1.f_Nonce) (H : ∀ h', Ext W.size W h' → k true h') : law25_RegPlays s name k W := by
  have n1 := S.len
  have m1 : s.len ≤ 9223372036854775807 := S.2.2
  unfold law25_RegPlays
  refine G25_ok (N := 30) S (by omega) fun r1 hr1 => ?_
  cases r1 with
  | true => rw [if_pos (by simp)]; exact awake25_ok H
  | false =>
  obtain ⟨ll, sm⟩ := hr1 rfl
  by_cases hn : (name.size : Int) > 100
  · rw [if_pos (by simpa using hn)]; exact awake25_ok H
  rw [if_neg (by simpa using hn)]
  refine New_ok fun r m h2 R2 r0 m0 X2 => ?_
  have z2 := X2.size
  refine ⟨_, _, rfl, rfl, ?_⟩
  have P := Blk.push h2 (S_quaestorref25_Reg.cs ⟨⟨none, 0, 0⟩⟩) 139
  have E3 := Ext.push h2 (.cells (S_quaestorref25_Reg.cs ⟨⟨none, 0, 0⟩⟩).toArray 139) (Nat.le_refl h2.size)
  have R3 := R2.ext E3
  generalize h2.push (.cells (S_quaestorref25_Reg.cs ⟨⟨none, 0, 0⟩⟩).toArray 139) = h3 at *
  generalize h2.size = rb at *
  have X3 : Ext W.size W h3 := X2.trans (E3.mono z2)
  have S3 : RefS W h3 rb 0 [] := ⟨X3, z2, ⟨_, P, Row.nil _ _ _ _, rfl⟩, by simp, by simp, by omega⟩
  unfold law25_RegPlays_l1
  refine ⟨fun i h' => 0 ≤ i ∧ i ≤ l.length ∧ ∃ L qs, RegAt i.toNat h' r m L ∧ RefS W h' rb i.toNat qs ∧ absQ qs = tenL (absL L) ∧ (∀ p ∈ L, p.1.size ≤ 100) ∧ ∀ n t, mget (absL L) n = some t → GoodB (n, t), fun i _ => (l.length - i).toNat,
    ⟨by omega, by omega, [], [], R3, S3, (tenL_sorted (A := []) List.Pairwise.nil).symm, by simp, fun n t h => by cases h⟩, ?_⟩
  rintro i h4 ⟨i0, i1, L, qs, R4, S4, eq4, nm4, gd4⟩
  have X4 := S4.X
  have nd4 : ((absL L).map (·.1)).Nodup := by rw [absL_keys]; exact R4.nd
  have so4 : Srt (absQ qs) := by rw [eq4]; exact tenL_srt _ nd4
  unfold law25_RegPlays_l1b
  by_cases hi : i < l.length
  · rw [if_pos (by rw [decide_eq_true_eq]; omega)]
    have hx : l[i.toNat]? = some (l[i.toNat]'(by omega)) := by simp
    have hxm := List.mem_of_getElem? hx
    generalize l[i.toNat]'(by omega) = p at *
    obtain ⟨sp, sw⟩ := sm p hxm
    obtain ⟨ad, had, C, K⟩ := S.at X4 hx
    have KW := S.2.1 p hxm
    refine ⟨ad, had, i0, by omega, p.1, C, ad, had, i0, by omega, p.1, C, ?_⟩
    refine Apply2_ok R4 (by omega) K (by omega) (by omega) fun L' h5 R5 eL mL U5 => ?_
    have wm : W.size ≤ m := m0
    have S5 := S4.upd R4.map wm U5
    obtain ⟨ad', had', C5, _⟩ := S.at S5.X hx
    rw [had] at had'; cases had'
    refine ⟨C5, RApply_ok S5 so4 KW (by omega) (by omega) (by omega) fun qs' h6 S6 eQ sf6 => ?_⟩
    have R6 := R5.soft sf6
    obtain ⟨q1, q2⟩ := stepR_tenL nd4 p.1 p.2
    have ec : (stepR (absQ qs) p.1 p.2).1 = (stepR (absL L) p.1 p.2).1 := by rw [eq4]; exact q1
    have eq6 : absQ qs' = tenL (absL L') := by rw [eQ, eq4, q2, eL]
    have nm6 : ∀ q ∈ L', q.1.size ≤ 100 := fun q hq => by
      rcases mL q hq with h | h
      · exact nm4 q h
      · rw [h]; omega
    have gd6 : ∀ n t, mget (absL L') n = some t → GoodB (n, t) := by rw [eL]; exact good_step KW.ep KW.hz (nb p hxm) KW.wb gd4
    have nd6 : ((absL L').map (·.1)).Nodup := by rw [absL_keys]; exact R6.nd
    have so6 : Srt (absQ qs') := by rw [eq6]; exact tenL_srt _ nd6
    have n6 := R6.n
    have tl6 : (tenL (absL L')).length ≤ 1000000 := by rw [tenL_len, absL_len]; omega
    rw [ec, if_neg (by simp)]
    obtain ⟨s6, cs6, T6⟩ := S6.ten
    refine ⟨s6, cs6, Tenants_ok R6 (fun q hq => Nat.le_trans (nm6 q hq) (by omega)) fun s7 h7 T7 X7 => ?_⟩
    have z7 := X7.size
    refine ⟨X7.cellAt cs6, STenants_ok T7 (T6.ext X7) tl6 R6.kl fun h8 X8 => ?_⟩
    have X68 := X7.trans (X8.mono z7)
    rw [decide_eq_true eq6.symm, if_neg (by simp)]
    refine REpoch_ok (R6.ext X68) fun h9 X9 => ?_
    have X69 := X68.trans (X9.mono X68.size)
    refine RefEpoch_ok (S6.ext X69) so6 ?_
    have eE : epB ((mget (absQ qs') name).getD zAT).2.2 = epB ((mget L' name).getD zTZ |> absT).2.2 := by
      rw [eq6, mget_tenL nd6, absL_get]
      cases mget L' name <;> rfl
    rw [eE]
    unfold law25_RegPlays_j2
    rw [if_neg (by simp), wrapI64 (by omega) (by omega)]
    refine ⟨_, rfl, ⟨by omega, by omega, L', qs', ?_, ?_, eq6, nm6, gd6⟩, by dsimp only; omega⟩
    · rw [show (i + 1).toNat = i.toNat + 1 from by omega]; exact R6.ext X69
    · rw [show (i + 1).toNat = i.toNat + 1 from by omega]; exact S6.ext X69
  rw [if_neg (by rw [decide_eq_true_eq]; omega)]
  have nl := R4.n
  have tl : (tenL (absL L)).length = L.length := by rw [tenL_len, absL_len]
  have gt : ∀ p ∈ tenL (absL L), GoodB p := fun p hp => gd4 p.1 p.2 (tenL_mem hp)
  have kl : ∀ p ∈ tenL (absL L), p.2.2.2.length ≤ 40 := fun p hp => by
    rw [← eq4] at hp
    obtain ⟨q, hq, rfl⟩ := List.mem_map.1 hp
    have := (S4.K q hq).2
    show (q.2.map absK).length ≤ 40
    rw [List.length_map]; omega
  have nmB : ∀ p ∈ L, p.1.size ≤ 100000 := fun p hp => Nat.le_trans (nm4 p hp) (by omega)
  have so : Srt (tenL (absL L)) := tenL_srt _ nd4
  have I0 : IsReg (regF (tenL (absL L))) (tenL (absL L)) := ⟨by omega, so, fun p hp => (gt p hp).1, rfl⟩
  have fl : (regF (tenL (absL L))).length ≤ 60000 := by
    unfold regF
    have h1 := regF_len (fun p hp => (gt p hp).1) kl
    have h2 := shortL_len (tenL (absL L)).length
    rw [List.length_append]; omega
  refine Bytes_ok R4 nmB (fun p hp => (gt p hp).1.wf) fun s5 h5 R5 X5 => ?_
  have z5 := X5.size
  refine From_ok R5.slc R5.pb R5.cap (regF_B gt) fl (fun rr m' L' h6 R6 I6 X6 => ?_) fun h6 X6 no => absurd I0 (no _)
  have z6 := X6.size
  have X46 := X5.trans (X6.mono z5)
  have z46 := X46.size
  have eA : tenL (absL L') = absQ qs := by rw [eq4, ← I6.inj I0]; exact tenL_sorted I6.2.1
  have gw : ∀ p ∈ absQ qs, Wf p := fun p hp => by rw [eq4] at hp; exact (gt p hp).1.wf
  have gs : ∀ p ∈ absQ qs, p.1.size ≤ 100000 := fun p hp => by
    rw [eq4] at hp
    exact Nat.le_trans (gt p hp).1.small (by omega)
  refine RBytes_ok (S4.ext X46) gs gw fun s7 h7 R7 X7 => ?_
  have z7 := X7.size
  have X57 : Ext h5.size h5 h7 := X6.trans (X7.mono z6)
  have X47 := X46.trans (X7.mono z46)
  rw [eq4] at R7
  refine Same_ok (R5.ext X57 fun g hg => (R5.bd hg).2).slc R5.pb R7.slc R7.pb (by omega) ?_
  rw [show decide (regF (tenL (absL L)) = regF (tenL (absL L))) = true from by simp, if_neg (by simp), if_pos (by simp)]
  obtain ⟨s8, cs8, T8⟩ := (S4.ext X47).ten
  have nmL : ∀ p ∈ L', p.1.size ≤ 100000 := fun p hp => Nat.le_trans (I6.wf.2.2.2 _ (absL_mem hp)) (by omega)
  refine ⟨s8, cs8, Tenants_ok (R6.ext X7) nmL fun s9 h9 T9 X9 => ?_⟩
  have z9 := X9.size
  have n6 := R6.n
  refine ⟨X9.cellAt cs8, STenants_ok T9 (T8.ext X9) (by rw [tenL_len, absL_len]; omega) (R6.ext X7).kl fun h10 X10 => ?_⟩
  rw [decide_eq_true eA, if_pos rfl]
  refine awake25_ok fun h11 X11 => ?_
  unfold law25_RegPlays_j3
  have Xa := X9.trans (X10.mono z9)
  have Xb := Xa.trans (X11.mono Xa.size)
  have Xc := X47.trans (Xb.mono X47.size)
  exact H h11 (X4.trans (Xc.mono X4.size))
theorem RPlays_all {W : Heap} {s : Slc} {name : ByteArray} {ys : List S_api_Command} {k : Bool → Heap → Prop} (L : LsAt S_api_Command.cs 17 W s ys) (hm : s.len ≤ maxLen) (o : ∀ y ∈ ys, Ok_S_api_Command W y)
    (H : ∀ h', Ext W.size W h' → k true h') : law25_RegPlays s name k W := by
  obtain ⟨l, S, nb⟩ := CmdsN.of L hm o
  exact RPlays_ok S nb H
end Go.Q.Yb
