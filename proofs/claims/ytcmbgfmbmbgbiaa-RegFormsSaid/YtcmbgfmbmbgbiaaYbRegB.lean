/- A part of the proof of statements of this seat: lemmas, no statement of their own. -/
import Derived.Test.YtcmbgfmbmbgbiaaYbRegA6
import Derived.Test.YtcmbgfmbmbgbiaaYbEven3
import Derived.Test.YtcmbgfmbmbgbiaaYbOpen
set_option linter.unusedVariables false
set_option linter.unusedSimpArgs false
namespace Go.Q.Yb
theorem zCmdAt (h : Heap) : CmdAt h zCmd [] := ⟨⟨fun _ => rfl, fun a ha => by cases ha⟩, rfl, (by intro b hb; cases hb), by decide, by decide⟩
theorem RForms_ok {c : S_api_Command} {wr l : List Int} {p1 : Slc} {k : Bool → Heap → Prop} {h : Heap} (A : CmdAt h c wr) (nb : isB c.f_Nonce) (S : SlcAt h p1 (b8 l)) (hl : p1.len = l.length) (hcap : p1.len ≤ p1.cap) (hB : isB l) (H : ∀ h', Ext h.size h h' → k true h') : law25_RegForms c p1 k h := by
  unfold law25_RegForms
  refine ⟨_, _, rfl, rfl, ?_⟩
  have P := Blk.push h (S_api_Command.cs c) 32
  have W := Ext.push h (.cells (S_api_Command.cs c).toArray 32) (Nat.le_refl _)
  obtain ⟨h2, e2⟩ : ∃ y, y = h.push (.cells (S_api_Command.cs c).toArray 32) := ⟨_, rfl⟩
  rw [← e2] at P W ⊢
  have z2 := W.size
  have pl := P.lt
  refine ⟨c, CellsAt.of_blk P, _, _, rfl, rfl, ?_⟩
  have C3 := Blk.push h2 (S_api_Command.cs c) 32
  have W3 := Ext.push h2 (.cells (S_api_Command.cs c).toArray 32) (Nat.le_refl _)
  obtain ⟨h3, e3⟩ : ∃ y, y = h2.push (.cells (S_api_Command.cs c).toArray 32) := ⟨_, rfl⟩
  rw [← e3] at C3 W3 ⊢
  have X3 : Ext h.size h h3 := W.trans (W3.mono z2)
  have z3 := X3.size
  have A3 := A.ext X3
  have P3 := P.ext W3 pl
  refine g25_ok rfl rfl (CellsAt.of_blk C3) A.wl fun r hr => ?_
  by_cases hg : (r || decide ((p1.len : Int) > 300)) = true
  · rw [if_pos hg]
    exact awake25_ok fun h' X => H h' (X3.trans (X.mono z3))
  rw [if_neg hg]
  have hg' : r = false ∧ l.length ≤ 300 := by
    cases r with
    | true => exact absurd rfl hg
    | false =>
      refine ⟨rfl, ?_⟩
      simp only [Bool.false_or, decide_eq_true_eq] at hg
      omega
  obtain ⟨c1, c2⟩ := hr hg'.1
  have Sm : CmdSm c wr := ⟨by omega, by omega⟩
  refine ⟨c, CellsAt.of_blk P3, rPut_ok A3 Sm fun s4 h4 R4 X4 => ?_⟩
  have z4 := X4.size
  have cap4 := Row.cap R4
  refine rGet_full R4.slc R4.pb cap4 A.wb nb A.ep A.hz Sm fun s5 h5 R5 X5 => ?_
  have z5 := X5.size
  refine ⟨_, _, rfl, rfl, ?_⟩
  obtain ⟨x, ex⟩ : ∃ x : S_api_Command, x = ⟨c.f_Kind % 256, c.f_Tenant, c.f_Epoch, nrm 12 c.f_Nonce, s5, c.f_Horizon⟩ := ⟨_, rfl⟩
  dsimp only
  rw [← ex]
  have Q := Blk.push h5 (S_api_Command.cs zCmd) 32
  have W6 := (Ext.push h5 (.cells (S_api_Command.cs zCmd).toArray 32) (Nat.le_refl _)).trans (Ext.sets _ (a := ⟨h5.size, 0, none⟩) 0 (S_api_Command.cs x) (Nat.le_refl _))
  refine ⟨_, WrsAt.of_blk Q (by rw [ccs_len]; omega), rfl, ?_⟩
  have Q2 := Q.sets_all (vs := S_api_Command.cs x) rfl
  generalize setsH (h5.push (.cells (S_api_Command.cs zCmd).toArray 32)) ⟨h5.size, 0, none⟩ 0 (S_api_Command.cs x) = h6 at *
  have z6 := W6.size
  have ql := Q2.lt
  have X36 : Ext h3.size h3 h6 := X4.trans ((X5.trans (W6.mono z5)).mono z4)
  have P6 := P3.ext X36 P3.lt
  have A6 := A3.ext X36
  have R46 := R4.ext (X5.trans (W6.mono z5)) fun g hg => (R4.bd hg).2
  have R56 := R5.ext W6 fun g hg => (R5.bd hg).2
  have X06 : Ext h.size h h6 := X3.trans (X36.mono z3)
  have Ax : CmdAt h6 x wr := ⟨by rw [ex]; exact R56.slc, by rw [ex]; exact R56.pb, A.wb, by rw [ex]; exact A.ep, by rw [ex]; exact A.hz⟩
  have cx : cmdL x wr = cmdL c wr := by
    rw [ex]; unfold cmdL
    dsimp only
    rw [show c.f_Kind % 256 % 256 = c.f_Kind % 256 from by omega, nrm_id (nrm_len _ _)]
  have Smx : CmdSm x wr := ⟨by rw [ex]; exact Sm.t, Sm.w⟩
  have fl : (cmdL c wr).length ≤ 300000 := cmdL_len Sm
  have common : ∀ (y : S_api_Command) (e : Int) (h7 : Heap), Ext h6.size h6 h7 → (∀ h8, Ext h7.size h7 h8 → Blk h8 h7.size (S_api_Command.cs y) 32 → law25_RegForms_g4 p1 ⟨h7.size, 0, none⟩ e false k h8) →
      (∃ (b20 : Nat) (h21 : Heap), b20 = h7.size ∧ h21 = h7.push (.cells (S_api_Command.cs zCmd).toArray 32) ∧ (∃ h22 : Heap, WrsAt h21 (⟨b20, 0, none⟩ : Addr) 17 ∧ h22 = setsH h21 (⟨b20, 0, none⟩ : Addr) 0 (S_api_Command.cs y) ∧ (∃ v23 : S_api_Command, CellsAt h22 (⟨h.size, 0, none⟩ : Addr) (S_api_Command.cs v23) ∧ (ref25_Put v23 (fun (r24 : Slc) h25 => ref01_Same s4 r24 (fun (r26 : Bool) h27 => if ((!r26) || ((0 : Int) != 0)) then (law25_RegForms_g1 p1 (⟨h.size, 0, none⟩ : Addr) (⟨h5.size, 0, none⟩ : Addr) (⟨b20, 0, none⟩ : Addr) e true k h27) else (∃ v50 : Int, cellH h27 (⟨h.size, 0, none⟩ : Addr) = some (.int .i64 v50) ∧ (if (decide (v50 ≥ 0)) then (∃ v56 : Int, cellH h27 (⟨h.size, 0, none⟩ : Addr) = some (.int .i64 v56) ∧ (law25_RegForms_g8 p1 (⟨h.size, 0, none⟩ : Addr) s4 (⟨h5.size, 0, none⟩ : Addr) (⟨b20, 0, none⟩ : Addr) e false (decide (v56 < 256)) k h27)) else (law25_RegForms_g8 p1 (⟨h.size, 0, none⟩ : Addr) s4 (⟨h5.size, 0, none⟩ : Addr) (⟨b20, 0, none⟩ : Addr) e false false k h27)))) h25) h22)))) := by
    intro y e h7 X7 F
    have z7 := X7.size
    refine ⟨_, _, rfl, rfl, ?_⟩
    have T := Blk.push h7 (S_api_Command.cs zCmd) 32
    have W8 := (Ext.push h7 (.cells (S_api_Command.cs zCmd).toArray 32) (Nat.le_refl _)).trans (Ext.sets _ (a := ⟨h7.size, 0, none⟩) 0 (S_api_Command.cs y) (Nat.le_refl _))
    refine ⟨_, WrsAt.of_blk T (by rw [ccs_len]; omega), rfl, ?_⟩
    have T2 := T.sets_all (vs := S_api_Command.cs y) rfl
    generalize setsH (h7.push (.cells (S_api_Command.cs zCmd).toArray 32)) ⟨h7.size, 0, none⟩ 0 (S_api_Command.cs y) = h8 at *
    have z8 := W8.size
    have tl := T2.lt
    have X68 : Ext h6.size h6 h8 := X7.trans (W8.mono z7)
    refine ⟨c, CellsAt.of_blk (P6.ext X68 P6.lt), RPut_ok (A6.ext X68) Sm fun s9 h9 R9 X9 => ?_⟩
    have z9 := X9.size
    have X69 : Ext h6.size h6 h9 := X68.trans (X9.mono X68.size)
    refine Same_ok (R46.ext X69 fun g hg => (R46.bd hg).2).slc R46.pb R9.slc R9.pb (by omega) ?_
    rw [show decide (cmdL c wr = cmdL c wr) = true from by simp, if_neg (by decide)]
    have last : ∀ h10, Ext h9.size h9 h10 → law25_RegForms_g1 p1 ⟨h.size, 0, none⟩ ⟨h5.size, 0, none⟩ ⟨h7.size, 0, none⟩ e false k h10 := fun h10 X10 => by
      have X610 : Ext h6.size h6 h10 := X69.trans (X10.mono X69.size)
      have Pc := P6.ext X610 P6.lt
      have Px := Q2.ext X610 ql
      unfold law25_RegForms_g1
      rw [if_neg (by simp)]
      refine ⟨c.f_Tenant, by rw [add_mk, Px.cell, ex]; rfl, c.f_Tenant, by rw [add_mk, Pc.cell]; rfl, ?_⟩
      rw [show (!(c.f_Tenant.toList == c.f_Tenant.toList)) = false from by simp]
      unfold law25_RegForms_g2
      rw [if_neg (by simp)]
      refine ⟨c.f_Horizon, by rw [add_mk, Px.cell, ex]; rfl, c.f_Horizon, by rw [add_mk, Pc.cell]; rfl, ?_⟩
      rw [show (c.f_Horizon != c.f_Horizon) = false from by simp]
      unfold law25_RegForms_g3
      rw [if_neg (by simp)]
      refine ⟨c.f_Epoch, by rw [add_mk, Px.cell, ex]; rfl, c.f_Epoch, by rw [add_mk, Pc.cell]; rfl, ?_⟩
      rw [show (c.f_Epoch != c.f_Epoch) = false from by simp]
      have X810 := X9.trans (X10.mono z9)
      exact F h10 (W8.trans (X810.mono z8)) (T2.ext X810 tl)
    have g8 : ∀ b, law25_RegForms_g8 p1 ⟨h.size, 0, none⟩ s4 ⟨h5.size, 0, none⟩ ⟨h7.size, 0, none⟩ e false b k h9 := fun b => by
      unfold law25_RegForms_g8
      cases b with
      | true =>
        rw [if_pos rfl]
        refine ⟨x, CellsAt.of_blk (Q2.ext X69 ql), RPut_ok (Ax.ext X69) Smx fun s10 h10 R10 X10 => ?_⟩
        rw [cx] at R10
        have X610 : Ext h6.size h6 h10 := X69.trans (X10.mono X69.size)
        refine Same_ok R10.slc R10.pb (R46.ext X610 fun g hg => (R46.bd hg).2).slc R46.pb (by omega) ?_
        rw [show decide (cmdL c wr = cmdL c wr) = true from by simp]
        unfold law25_RegForms_g9
        exact last h10 X10
      | false =>
        rw [if_neg (by simp)]
        unfold law25_RegForms_g9
        exact last h9 (Ext.refl _ _)
    have P9 := P6.ext X69 P6.lt
    refine ⟨c.f_Kind, by rw [P9.cell]; rfl, ?_⟩
    by_cases h0 : c.f_Kind ≥ 0
    · rw [if_pos (by simpa using h0)]
      exact ⟨c.f_Kind, by rw [P9.cell]; rfl, g8 _⟩
    · rw [if_neg (by simpa using h0)]
      exact g8 _
  refine rGet_ok (S.ext X06) hl hcap hB (by omega) (fun y wy h7 HA yB Sy yk ey X7 => ?_) fun h7 X7 => ?_
  · have z7 := X7.size
    refine common y 0 h7 X7 fun h8 X8 T8 => ?_
    have z8 := X8.size
    unfold law25_RegForms_g4
    rw [if_neg (by simp), if_neg (by decide)]
    have X08 : Ext h.size h h8 := X06.trans ((X7.trans (X8.mono z7)).mono X06.size)
    have Ay : CmdAt h8 y wy := HA.now.ext X8
    refine ⟨y, CellsAt.of_blk T8, RPut_ok Ay Sy fun s9 h9 R9 X9 => ?_⟩
    have X09 : Ext h.size h h9 := X08.trans (X9.mono X08.size)
    rw [← ey] at R9
    refine Same_ok R9.slc R9.pb (S.ext X09) hl (by omega) ?_
    rw [show decide (l = l) = true from by simp, if_pos rfl]
    refine awake25_ok fun h10 X10 => ?_
    unfold law25_RegForms_g7
    exact H h10 (X09.trans (X10.mono X09.size))
  · have z7 := X7.size
    refine common zCmd 4 h7 X7 fun h8 X8 T8 => ?_
    have z8 := X8.size
    unfold law25_RegForms_g4
    rw [if_neg (by simp), if_pos (by decide), if_pos (by decide)]
    have X08 : Ext h.size h h8 := X06.trans ((X7.trans (X8.mono z7)).mono X06.size)
    have Sz : CmdSm zCmd [] := ⟨by decide, by decide⟩
    refine ⟨zCmd, CellsAt.of_blk T8, RPut_ok (zCmdAt _) Sz fun s9 h9 R9 X9 => ?_⟩
    have X09 : Ext h.size h h9 := X08.trans (X9.mono X08.size)
    refine RPut_ok (zCmdAt _) Sz fun s10 h10 R10 X10 => ?_
    have X010 : Ext h.size h h10 := X09.trans (X10.mono X09.size)
    refine Same_ok (R9.ext X10 fun g hg => (R9.bd hg).2).slc R9.pb R10.slc R10.pb (by have := cmdL_len Sz; omega) ?_
    rw [show decide (cmdL zCmd [] = cmdL zCmd []) = true from by simp]
    unfold law25_RegForms_g5
    rw [if_pos rfl]
    refine awake25_ok fun h11 X11 => ?_
    unfold law25_RegForms_g6
    exact H h11 (X010.trans (X11.mono X010.size))
theorem RForms_all {c : S_api_Command} {p1 : Slc} {l : List Int} {k : Bool → Heap → Prop} {h : Heap} (o : Ok_S_api_Command h c) (S : SlcAt h p1 (l.map (Value.int .u8))) (hl : p1.len = l.length) (hcap : p1.len ≤ p1.cap) (hB : ∀ n ∈ l, (Lit.int .u8 n).wf = true) (H : ∀ h', Ext h.size h h' → k true h') : law25_RegForms c p1 k h := by
  obtain ⟨wr, A, nb⟩ := CmdAt.of o
  exact RForms_ok A nb S hl hcap (wf_isB hB) H
end Go.Q.Yb
