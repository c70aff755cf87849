/- A part of the proof of statements of this seat: lemmas, no statement of their own. -/
import Derived.Test.YtcmbgfmbmbgbiaaYbRgL
set_option linter.unusedVariables false
set_option linter.unusedSimpArgs false
namespace Go.Q.Yb
theorem RegAt.kl {b : Nat} {h : Heap} {r m : Nat} {L : List (ByteArray × TZ)} (R : RegAt b h r m L) : ∀ x ∈ tenL (absL L), x.2.2.2.length ≤ 1000000 := fun x hx => by
  have h1 := tenL_mem hx
  rw [absL_get] at h1
  cases hg : mget L x.1 with
  | none => rw [hg] at h1; cases h1
  | some q =>
    rw [hg] at h1
    have h2 := Option.some.inj h1
    obtain ⟨_, _, h3⟩ := R.T _ (mget_mem hg)
    have h4 := R.hb
    rw [← h2]
    show (q.2.map absK).length ≤ _
    rw [List.length_map]
    simp only at h3; omega
theorem cmdC {h : Heap} {b : Nat} {c : S_api_Command} (P : Blk h b (S_api_Command.cs c) 32) : CellsAt h ⟨b, 0, none⟩ (S_api_Command.cs c) := P.part (n := 17) rfl
theorem Apart_ok {W : Heap} {s : Slc} {l : List (S_api_Command × List Int)} {a b : S_api_Command} {wa wb : List Int} {k : Bool → Heap → Prop}
    (S : Cmds W s l) (A : CmdAt W a wa) (B : CmdAt W b wb) (H : ∀ h', Ext W.size W h' → k true h') : law25_RegApart s a b k W := by
  have n1 := S.len
  have m1 : s.len ≤ 9223372036854775807 := S.2.2
  unfold law25_RegApart
  refine ⟨_, _, rfl, rfl, _, _, rfl, rfl, ?_⟩
  have P := Blk.push W (S_api_Command.cs a) 32
  have W2 := Ext.push W (.cells (S_api_Command.cs a).toArray 32) (Nat.le_refl _)
  have pl := P.lt
  generalize W.push (.cells (S_api_Command.cs a).toArray 32) = h2 at *
  have z2 := W2.size
  have Q := Blk.push h2 (S_api_Command.cs b) 32
  have W3 := Ext.push h2 (.cells (S_api_Command.cs b).toArray 32) (Nat.le_refl _)
  have ql := Q.lt
  generalize h2.push (.cells (S_api_Command.cs b).toArray 32) = h4 at *
  have P4 := P.ext W3 pl
  have X4 : Ext W.size W h4 := W2.trans (W3.mono z2)
  have z4 := W3.size
  generalize h2.size = b3 at *
  generalize eW : W.size = b1 at *
  have S4 := S.ext (by rw [eW]; exact X4)
  have A4 := A.ext (by rw [eW]; exact X4)
  have B4 := B.ext (by rw [eW]; exact X4)
  have dead : ∀ {h'}, Ext b1 W h' → law25_RegApart_g2 s ⟨b1, 0, none⟩ ⟨b3, 0, none⟩ true k h' := fun X => by
    unfold law25_RegApart_g2
    rw [if_pos rfl]
    exact awake25_ok fun h'' X2 => H h'' (X.trans (X2.mono (by have := X.size; omega)))
  have dead1 : ∀ {h'}, Ext b1 W h' → law25_RegApart_g1 s ⟨b1, 0, none⟩ ⟨b3, 0, none⟩ true k h' := fun X => by
    unfold law25_RegApart_g1
    rw [if_pos rfl]
    exact dead X
  refine G25_ok (N := 20) S4 (by omega) fun r1 hr1 => ?_
  cases r1 with
  | true => rw [if_pos rfl]; exact dead1 X4
  | false =>
  rw [if_neg (by simp)]
  obtain ⟨ll, sm⟩ := hr1 rfl
  refine ⟨a, cmdC P4, b, cmdC Q, _, _, rfl, rfl, ?_⟩
  have U := Blk.push h4 (S_api_Command.cs a ++ S_api_Command.cs b) 32
  have W5 := Ext.push h4 (.cells (S_api_Command.cs a ++ S_api_Command.cs b).toArray 32) (Nat.le_refl _)
  generalize h4.push (.cells (S_api_Command.cs a ++ S_api_Command.cs b).toArray 32) = h5 at *
  have z5 := W5.size
  have X5 : Ext b1 W h5 := X4.trans (W5.mono (by omega))
  have P5 := P4.ext W5 (by omega)
  have Q5 := Q.ext W5 (by omega)
  have A5 := A4.ext W5
  have B5 := B4.ext W5
  have S5 := S4.ext W5
  have S2 : Cmds h5 ⟨some ⟨h4.size, 0, none⟩, 2, 2⟩ [(a, wa), (b, wb)] := by
    refine ⟨⟨rfl, fun i x hx => ⟨_, rfl, ?_⟩⟩, fun p hp => ?_, by simp only [maxLen]; omega⟩
    · rw [add_mk, Nat.zero_add]
      match i, hx with
      | 0, hx => cases hx; exact U.part (n := 17) rfl
      | 1, hx => cases hx; exact U.part (n := 17) rfl
    · rcases List.mem_cons.1 hp with rfl | hp
      · exact A5
      · simp at hp; subst hp; exact B5
  refine G25_ok (N := 2) S2 (by omega) fun r2 hr2 => ?_
  cases r2 with
  | true => exact dead1 X5
  | false =>
  obtain ⟨_, sm2⟩ := hr2 rfl
  obtain ⟨ta, la⟩ := sm2 (a, wa) (by simp)
  obtain ⟨tb, lb⟩ := sm2 (b, wb) (by simp)
  dsimp only at ta la tb lb
  unfold law25_RegApart_g1
  rw [if_neg (by simp)]
  refine ⟨a.f_Tenant, by rw [add_mk, P5.cell]; rfl, b.f_Tenant, by rw [add_mk, Q5.cell]; rfl, ?_⟩
  rw [ba_eq]
  by_cases ne : a.f_Tenant = b.f_Tenant
  · rw [show decide (a.f_Tenant = b.f_Tenant) = true from decide_eq_true ne]
    exact dead X5
  rw [show decide (a.f_Tenant = b.f_Tenant) = false from decide_eq_false ne]
  unfold law25_RegApart_g2
  rw [if_neg (by simp)]
  refine New_ok fun r m h6 R6 r0 m0 X6 => ?_
  have z6 := X6.size
  refine New_ok fun r' m' h7 R7' r0' m0' X7 => ?_
  have z7 := X7.size
  have R7 := R6.ext X7
  have ml := R6.M.lt
  have hmm : m ≠ m' := by omega
  have X57 : Ext h5.size h5 h7 := X6.trans (X7.mono z6)
  unfold law25_RegApart_l3
  refine ⟨fun i h' => 0 ≤ i ∧ i ≤ l.length ∧ Ext h5.size h5 h' ∧ ∃ LA LB, RegAt i.toNat h' r m LA ∧ RegAt i.toNat h' r' m' LB ∧ absL LA = absL LB ∧ (∀ p ∈ LA, p.1.size ≤ 100) ∧ (∀ p ∈ LB, p.1.size ≤ 100), fun i _ => (l.length - i).toNat,
    ⟨by omega, by omega, X57, [], [], R7, R7', rfl, by simp, by simp⟩, ?_⟩
  rintro i h8 ⟨i0, i1, X8, LA, LB, RA, RB, eAB, nA, nB⟩
  have z8 := X8.size
  unfold law25_RegApart_l3b
  by_cases hi : i < l.length
  · rw [if_pos (by rw [decide_eq_true_eq]; omega)]
    have hx : l[i.toNat]? = some (l[i.toNat]'(by omega)) := by simp
    generalize l[i.toNat]'(by omega) = p at *
    obtain ⟨sp, sw⟩ := sm p (List.mem_of_getElem? hx)
    obtain ⟨ad, had, C, K⟩ := S5.at X8 hx
    refine ⟨ad, had, i0, by omega, p.1, C, Apply2_ok RA (by omega) K (by omega) (by omega) fun LA' h9 RA' eA' mA' U9 => ?_⟩
    have X9 : Ext h5.size h5 h9 := X8.trans (U9.ext (by omega) z8)
    obtain ⟨ad2, had2, C2, K2⟩ := S5.at X9 hx
    have RB9 := RB.other RA.map (fun e => hmm e.symm) U9
    refine ⟨ad2, had2, i0, by omega, p.1, C2, Apply2_ok RB9 (by omega) K2 (by omega) (by omega) fun LB' h10 RB' eB' mB' U10 => ?_⟩
    have RA10 := RA'.other RB9.map hmm U10
    refine ⟨_, rfl, ?_⟩
    rw [wrapI64 (by omega) (by omega)]
    have z9 := X9.size
    dsimp only
    rw [show (i + 1).toNat = i.toNat + 1 from by omega]
    refine ⟨⟨by omega, by omega, X9.trans (U10.ext (by omega) z9), LA', LB', RA10, RB', by rw [eA', eB', eAB], fun q hq => ?_, fun q hq => ?_⟩, by omega⟩
    · rcases mA' q hq with h | h
      · exact nA q h
      · rw [h]; omega
    · rcases mB' q hq with h | h
      · exact nB q h
      · rw [h]; omega
  rw [if_neg (by rw [decide_eq_true_eq]; omega)]
  refine Tenants_ok RA (fun p hp => Nat.le_trans (nA p hp) (by omega)) fun s9 h9 T9 X9 => ?_
  have z9 := X9.size
  have X59 := X8.trans (X9.mono z8)
  have l9 : s9.len = (absL LA).length := by rw [T9.len, tenL_len]
  by_cases h6' : (absL LA).length > 6
  · rw [if_pos (by rw [decide_eq_true_eq]; omega)]
    exact awake25_ok fun h' X' => H h' (X5.trans ((X59.trans (X'.mono X59.size)).mono (by have := X5.size; omega)))
  rw [if_neg (by rw [decide_eq_true_eq]; omega)]
  have PP : ∀ {h'}, Ext h5.size h5 h' → Blk h' b1 (S_api_Command.cs a) 32 := fun X => P5.ext X P5.lt
  have QQ : ∀ {h'}, Ext h5.size h5 h' → Blk h' b3 (S_api_Command.cs b) 32 := fun X => Q5.ext X Q5.lt
  have RA9 := RA.ext X9
  have RB9 := RB.ext X9
  refine ⟨a, cmdC (PP X59), b, cmdC (QQ X59), Apply2_ok RA9 (by omega) (A5.ext X59) (by omega) (by omega) fun L1 h10 R1 e1 m1 U10 => ?_⟩
  have z59 := X59.size
  have X510 := X59.trans (U10.ext (by omega) z59)
  have RB10 := RB9.other RA9.map (fun e => hmm e.symm) U10
  have z510 := X510.size
  refine ⟨cmdC (QQ X510), Apply2_ok R1 (by omega) (B5.ext X510) (by omega) (by omega) fun L2 h11 R2 e2 m2 U11 => ?_⟩
  have X511 := X510.trans (U11.ext (by omega) z510)
  have z511 := X511.size
  have RB11 := RB10.other R1.map (fun e => hmm e.symm) U11
  refine ⟨b, cmdC (QQ X511), a, cmdC (PP X511), Apply2_ok RB11 (by omega) (B5.ext X511) (by omega) (by omega) fun L3 h12 R3 e3 m3 U12 => ?_⟩
  have X512 := X511.trans (U12.ext (by omega) z511)
  have z512 := X512.size
  have R212 := R2.other RB11.map hmm U12
  refine ⟨cmdC (PP X512), Apply2_ok R3 (by omega) (A5.ext X512) (by omega) (by omega) fun L4 h13 R4 e4 m4 U13 => ?_⟩
  have X513 := X512.trans (U13.ext (by omega) z512)
  have z513 := X513.size
  have R213 := R212.other R3.map hmm U13
  have nd : ((absL LA).map (·.1)).Nodup := by rw [absL_keys]; exact RA.nd
  obtain ⟨g1, g2⟩ := apart (wa := wa) (wb := wb) ne (by omega) nd
  obtain ⟨g3, _⟩ := apart (wa := wb) (wb := wa) (a := b) (b := a) (fun e => ne e.symm) (by omega) nd
  have q1 : (stepR (absL L3) a wa).1 = (stepR (absL LA) a wa).1 := by rw [e3, ← eAB]; exact g1
  have q2 : (stepR (absL L1) b wb).1 = (stepR (absL LB) b wb).1 := by rw [e1, ← eAB]; exact g3
  have q3 : tenL (absL L2) = tenL (absL L4) := by rw [e2, e4, e1, e3, ← eAB]; exact g2
  rw [q1, q2, if_pos (by simp)]
  have n2 : ∀ p ∈ L2, p.1.size ≤ 100000 := fun p hp => by
    rcases m2 p hp with h | h
    · rcases m1 p h with h | h
      · exact Nat.le_trans (nA p h) (by omega)
      · rw [h]; omega
    · rw [h]; omega
  have n4 : ∀ p ∈ L4, p.1.size ≤ 100000 := fun p hp => by
    rcases m4 p hp with h | h
    · rcases m3 p h with h | h
      · exact Nat.le_trans (nB p h) (by omega)
      · rw [h]; omega
    · rw [h]; omega
  refine Tenants_ok R213 n2 fun s14 h14 T14 X14 => ?_
  refine Tenants_ok (R4.ext X14) n4 fun s15 h15 T15 X15 => ?_
  have tl : (tenL (absL L2)).length ≤ 1000000 := by
    have := R2.n
    rw [tenL_len, absL_len]; omega
  refine STenants_ok (T14.ext X15) T15 tl R2.kl fun h16 X16 => ?_
  rw [show decide (tenL (absL L2) = tenL (absL L4)) = true from decide_eq_true q3]
  unfold law25_RegApart_g4
  rw [if_pos rfl]
  refine awake25_ok fun h17 X17 => ?_
  unfold law25_RegApart_g5
  have X1416 := X15.trans (X16.mono X15.size)
  have XX := X14.trans ((X1416.trans (X17.mono X1416.size)).mono X14.size)
  exact H h17 (X5.trans ((X513.trans (XX.mono z513)).mono (by have := X5.size; omega)))
end Go.Q.Yb
