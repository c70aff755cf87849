/- A part of the proof of statements of this seat: lemmas, no statement of their own. -/
import Derived.Test.YtgldbcbnficihaaYaPlay3
set_option linter.unusedVariables false
set_option linter.unusedSimpArgs false
namespace Go.Q.Ya
variable {B bg bx : Nat} {h h0 : Heap} {ix tm : Int} {es : List Ent}
/-- all that is asked of both is answered alike -/
theorem j4p_ok {ask most tmQ : Int} {t3 : Slc} {i : Int} {k : Bool → Heap → Prop} {nx1 nx3 : Int → Heap → Prop} (P : PS B h bg bx ix tm es) (hB : B ≤ h.size) (oke : esOk es) (x0 : 0 ≤ ix) (x1 : ix ≤ 4611686018427387904) (hl : es.length ≤ 10000)
    (a0 : 0 ≤ ask) (a1 : ask < 9223372036854775808) (i0 : 0 ≤ i) (i1 : i ≤ 1000) (H : ∀ h', PS B h' bg bx ix tm es → Ext h.size h h' → nx3 (i + 1) h') : law23_RlogPlays_j4 tmQ t3 ask most (some ⟨bg, 0, none⟩) ⟨bx, 0, none⟩ i k nx1 nx3 h := by
  obtain ⟨sg, vg, sx, vx, L, R, d⟩ := P
  unfold law23_RlogPlays_j4
  refine Base_ok L (Last_ok L x0 x1 (by omega) (rLast_ok R x0 x1 (by omega) ?_))
  refine ⟨_, R.c0, ?_⟩
  rw [if_neg (by simp)]
  refine ⟨_, R.c1, ?_⟩
  rw [if_neg (by simp), if_neg (by simp), if_neg (by simp)]
  refine ⟨_, R.c2, ?_⟩
  refine Entries_ok L oke (by omega) fun s1 h1 v1 O1 X1 => ?_
  have L1 := L.ext X1
  have R1 := R.ext hB X1
  have z1 := X1.size
  refine ⟨R1.c2, entSame_ok O1.ents R1.e.ents oke (by omega) ?_⟩
  rw [show (!decide (es = es)) = false from by simp]
  unfold law23_RlogPlays_j5
  rw [if_neg (by simp)]
  refine Term_ok L1 x0 x1 (by omega) a0 (by omega) (rTerm_ok R1 x0 x1 (by omega) a0 (by omega) ?_)
  refine From_ok L1 oke x0 x1 (by omega) a0 a1 fun s2 h2 E2 X2 => ?_
  have z2 := X2.size
  refine rFrom_ok (R1.ext (by omega) X2) (by omega) x0 x1 (by omega) a0 a1 fun s3 h3 E3 X3 => ?_
  have z3 := X3.size
  dsimp only
  rw [if_neg (by simp)]
  have okf : esOk (fromRes ix tm es ask most).1 := by
    unfold fromRes
    split
    · intro e he; cases he
    · split
      · intro e he; cases he
      · exact fun e he => oke e (List.mem_of_mem_drop (List.mem_of_mem_take he))
  have lf : (fromRes ix tm es ask most).1.length ≤ 1099511627776 := by
    unfold fromRes
    split
    · simp
    · split
      · simp
      · simp only [List.length_take, List.length_drop]; omega
  refine entSame_ok (E2.ext X3) E3 okf lf ?_
  rw [show (!decide ((fromRes ix tm es ask most).1 = (fromRes ix tm es ask most).1)) = false from by simp]
  unfold law23_RlogPlays_g6
  rw [if_neg (by simp)]
  have L3 := (L1.ext X2).ext X3
  have R3 := (R1.ext (by omega) X2).ext (by omega) X3
  refine Newer_ok L3 x0 x1 (by omega) (rNewer_ok R3 x0 x1 (by omega) ?_)
  rw [show ∀ b : Bool, (!(b == b)) = false from by decide]
  unfold law23_RlogPlays_g7
  rw [if_neg (by simp)]
  refine Match_ok L3 x0 x1 (by omega) a0 (by omega) ?_
  rw [show ∀ b : Bool, (!(b == b)) = false from by decide]
  unfold law23_RlogPlays_g8
  rw [if_neg (by simp), wrapI64 (by omega) (by omega)]
  exact ⟨_, rfl, H h3 ⟨sg, vg, sx, vx, L3, R3, d⟩ (X1.trans ((X2.mono z1).trans (X3.mono (by omega))))⟩
theorem appRes_len {p t : Int} {more : List Ent} (hl : es.length ≤ 100) : (appRes ix tm es p t more).1.length ≤ 100 := by
  unfold appRes
  split
  · exact hl
  · split
    · exact hl
    · dsimp only; omega
theorem appRes_ok {p t : Int} {more : List Ent} (oke : esOk es) (okm : esOk more) : esOk (appRes ix tm es p t more).1 := by
  unfold appRes
  split
  · exact oke
  · split
    · exact oke
    · exact appN_ok oke okm _
theorem l3p_ok {p3 : Slc} {acts : List Act} {ask most tmQ : Int} {k : Bool → Heap → Prop} {nx1 : Int → Heap → Prop} (A : ArgA B h0 p3 acts) (sm : ∀ (j : Nat) x, j < 20 → acts[j]? = some x → small x.2 ∧ x.1.f_Index ≤ 2305843009213693952) (la : acts.length ≤ 9223372036854775807)
    (hB0 : B ≤ h0.size) (X0 : Ext B h0 h) (P : PS B h bg bx ix tm es) (oke : esOk es) (x0 : 0 ≤ ix) (x1 : ix ≤ 2305843009213693952) (hl : es.length ≤ 100)
    (a0 : 0 ≤ ask) (a1 : ask < 9223372036854775808) (H : ∀ h', Ext B h0 h' → k true h') : law23_RlogPlays_l3 tmQ p3 ask most (some ⟨bg, 0, none⟩) ⟨bx, 0, none⟩ 0 k nx1 h := by
  refine ⟨fun i h' => 0 ≤ i ∧ i ≤ acts.length + 1 ∧ i ≤ 21 ∧ (∃ ix tm es, PS B h' bg bx ix tm es ∧ esOk es ∧ 0 ≤ ix ∧ ix ≤ 2305843009213693952 ∧ es.length ≤ 100) ∧ Ext B h0 h', fun i _ => (acts.length + 1 - i).toNat, ⟨by omega, by omega, by omega, ⟨ix, tm, es, P, oke, x0, x1, hl⟩, X0⟩, ?_⟩
  clear P oke x0 x1 hl X0
  rintro i h1 ⟨i0, i1, i2, ⟨ix, tm, es, P, oke, x0, x1, hl⟩, X1⟩
  have z1 : B ≤ h1.size := by have := X1.size; omega
  unfold law23_RlogPlays_l3b
  by_cases hc : i ≤ acts.length ∧ i ≤ 20
  · rw [if_pos (by simp [A.l]; omega)]
    have fin : ∀ {ix tm : Int} {es : List Ent} {h2 : Heap}, PS B h2 bg bx ix tm es → esOk es → 0 ≤ ix → ix ≤ 2305843009213693952 → es.length ≤ 100 → Ext B h1 h2 → law23_RlogPlays_j4 tmQ p3 ask most (some ⟨bg, 0, none⟩) ⟨bx, 0, none⟩ i k nx1 (fun i' h' => (0 ≤ i' ∧ i' ≤ acts.length + 1 ∧ i' ≤ 21 ∧ (∃ ix tm es, PS B h' bg bx ix tm es ∧ esOk es ∧ 0 ≤ ix ∧ ix ≤ 2305843009213693952 ∧ es.length ≤ 100) ∧ Ext B h0 h') ∧ (acts.length + 1 - i').toNat < (acts.length + 1 - i).toNat) h2 := fun {ix tm es h2} P ok y0 y1 hl X => by
      have z2 := X.size
      refine j4p_ok P (by omega) ok y0 (by omega) (by omega) a0 a1 i0 (by omega) fun h3 P3 X3 => ?_
      exact ⟨⟨by omega, by omega, by omega, ⟨ix, tm, es, P3, ok, y0, y1, hl⟩, X1.trans (X.trans (X3.mono (by omega)))⟩, by omega⟩
    by_cases hi : i > 0
    · rw [if_pos (by simpa using hi), wrapI64 (x := i - 1) (by omega) (by omega)]
      obtain ⟨j, hj⟩ : ∃ j : Nat, (j : Int) = i - 1 := ⟨(i - 1).toNat, by omega⟩
      rw [← hj, Int.toNat_natCast]
      have hx : acts[j]? = some (acts[j]'(by omega)) := by simp
      have smx := sm j _ (by omega) hx
      generalize acts[j]'(by omega) = x at *
      obtain ⟨a, ha, C⟩ := A.get hx
      obtain ⟨ok, E, okm, lm, vm, ME⟩ := A.e j x hx
      refine ⟨a, ha, by omega, by rw [A.l]; omega, x.1, C h1 X1, _, _, rfl, rfl, ?_⟩
      have P0 := Blk.push h1 (S_quaestorlaw23_Act.cs ⟨0, 0, 0, ⟨none, 0, 0⟩⟩) 70
      have K2 := P0.sets_all (vs := S_quaestorlaw23_Act.cs x.1) (by simp [S_quaestorlaw23_Act.cs])
      have W := (Ext.push h1 (.cells (S_quaestorlaw23_Act.cs ⟨0, 0, 0, ⟨none, 0, 0⟩⟩).toArray 70) (Nat.le_refl _)).trans (Ext.sets _ (a := ⟨h1.size, 0, none⟩) 0 (S_quaestorlaw23_Act.cs x.1) (Nat.le_refl _))
      refine ⟨_, WrsAt.of_blk P0 (by simp [S_quaestorlaw23_Act.cs]), rfl, ?_⟩
      generalize setsH (h1.push (.cells (S_quaestorlaw23_Act.cs ⟨0, 0, 0, ⟨none, 0, 0⟩⟩).toArray 70)) ⟨h1.size, 0, none⟩ 0 (S_quaestorlaw23_Act.cs x.1) = h2 at *
      have z2 := W.size
      have X2 : Ext B h1 h2 := W.mono z1
      have P2 := P.ext z1 W
      have g0 : ∀ {h'}, Blk h' h1.size (S_quaestorlaw23_Act.cs x.1) 70 → cellH h' ⟨h1.size, 0, none⟩ = some (.int .i64 x.1.f_Kind) := fun K => by rw [K.cell]; rfl
      have g1 : ∀ {h'}, Blk h' h1.size (S_quaestorlaw23_Act.cs x.1) 70 → cellH h' ((⟨h1.size, 0, none⟩ : Addr).add 1) = some (.int .u64 x.1.f_Index) := fun K => by rw [add_mk, K.cell]; rfl
      have g2 : ∀ {h'}, Blk h' h1.size (S_quaestorlaw23_Act.cs x.1) 70 → cellH h' ((⟨h1.size, 0, none⟩ : Addr).add 2) = some (.int .u64 x.1.f_Term) := fun K => by rw [add_mk, K.cell]; rfl
      have g3 : ∀ {h'}, Blk h' h1.size (S_quaestorlaw23_Act.cs x.1) 70 → cellH h' ((⟨h1.size, 0, none⟩ : Addr).add 3) = some (Slc.v x.1.f_L) := fun K => by rw [add_mk, K.cell]; rfl
      refine ⟨_, g0 K2, Pick_ok (by omega) (by omega) fun r r0 r1 => ?_⟩
      by_cases hr : r = 3
      · rw [if_pos (by simpa using hr)]
        refine ⟨_, g1 K2, _, g1 K2, ?_⟩
        refine P2.cut (by omega) x0 (by omega) ok.1.1 ok.1.2 (by omega) fun h3 X3 k3 go => ?_
        refine ⟨g1 (k3 _ _ K2), go fun h4 P4 X4 => ?_⟩
        rw [if_neg (by simp)]
        have hb : 0 ≤ (cutRes ix tm es x.1.f_Index).1 ∧ (cutRes ix tm es x.1.f_Index).1 ≤ 2305843009213693952 ∧ esOk (cutRes ix tm es x.1.f_Index).2.2.1 ∧ (cutRes ix tm es x.1.f_Index).2.2.1.length ≤ 100 := by
          unfold cutRes
          split
          · exact ⟨x0, x1, oke, hl⟩
          · exact ⟨ok.1.1, smx.2, fun e he => oke e (List.mem_of_mem_drop he), by simp only [List.length_drop]; omega⟩
        exact fin P4 hb.2.2.1 hb.1 hb.2.1 hb.2.2.2 (X2.trans X4)
      · rw [if_neg (by simpa using hr)]
        refine ⟨_, g1 K2, _, g2 K2, _, g3 K2, ?_⟩
        have l1 := smx.1.1
        refine P2.append (by omega) (fun h' X => E h' (X1.trans (X2.trans X))) (okm smx.1) (fun h' X => ME h' (X1.trans (X2.trans X))) oke x0 (by omega) ok.1.1 (by have := smx.2; omega) (by omega) (by omega) fun h3 X3 k3 go => ?_
        refine ⟨_, g1 (k3 _ _ K2), _, g2 (k3 _ _ K2), _, g3 (k3 _ _ K2), go fun h4 P4 X4 => ?_⟩
        rw [if_neg (by simp)]
        exact fin P4 (appRes_ok oke (okm smx.1)) x0 x1 (appRes_len hl) (X2.trans X4)
    · rw [if_neg (by simpa using hi)]
      exact fin P oke x0 x1 hl (Ext.refl _ _)
  · rw [if_neg (by simp [A.l]; omega)]
    exact awake23_ok fun h2 X => H h2 (X1.trans (X.mono z1))
theorem RlogPlays_ok {p2 p3 : Slc} {acts : List Act} {ask most tm : Int} {k : Bool → Heap → Prop} (C : ArgE h.size h p2 es) (A : ArgA h.size h p3 acts) (la : acts.length ≤ 9223372036854775807) (x0 : 0 ≤ ix) (a0 : 0 ≤ ask)
    (H : ∀ h', Ext h.size h h' → k true h') : law23_RlogPlays ix tm p2 p3 ask most k h := by
  unfold law23_RlogPlays
  refine Great_ok C.ents C.l fun r hr => ?_
  by_cases hc : (r = true ∨ ix > 1152921504606846976) ∨ ask > 2305843009213693952
  · rw [if_pos (by simpa using hc)]
    exact awake23_ok H
  · rw [if_neg (by simpa using hc)]
    have sm := hr (by cases r <;> simp_all)
    refine ⟨fun i h' => 0 ≤ i ∧ i ≤ acts.length ∧ i ≤ 20 ∧ (∀ (j : Nat) x, j < i → acts[j]? = some x → small x.2 ∧ x.1.f_Index ≤ 2305843009213693952) ∧ h' = h, fun i _ => (acts.length - i).toNat, ⟨by omega, by omega, by omega, fun j x hj => by omega, rfl⟩, ?_⟩
    rintro i h' ⟨i0, i1, i2, sj, e⟩
    subst e
    unfold law23_RlogPlays_l1b
    by_cases hi : i < acts.length ∧ i < 20
    · rw [if_pos (by simp [A.l]; omega)]
      obtain ⟨j, hj⟩ : ∃ j : Nat, (j : Int) = i := ⟨i.toNat, by omega⟩
      rw [← hj, Int.toNat_natCast]
      have hx : acts[j]? = some (acts[j]'(by omega)) := by simp
      generalize acts[j]'(by omega) = x at *
      obtain ⟨a, ha, C3⟩ := A.get hx
      obtain ⟨ok, E, okm, lm, vm, ME⟩ := A.e j x hx
      have C3 := C3 _ (Ext.refl _ _)
      refine ⟨a, ha, by omega, by rw [A.l]; omega, _, C3 3 _ rfl, Great_ok (E _ (Ext.refl _ _)) lm fun q hq => ?_⟩
      cases q with
      | true =>
        rw [if_pos rfl]
        unfold law23_RlogPlays_g2
        rw [if_pos rfl]
        exact awake23_ok H
      | false =>
        rw [if_neg (by simp)]
        refine ⟨a, ha, by omega, by rw [A.l]; omega, _, C3 1 _ rfl, ?_⟩
        unfold law23_RlogPlays_g2
        by_cases hb : x.1.f_Index > 2305843009213693952
        · rw [if_pos (by simpa using hb)]
          exact awake23_ok H
        · rw [if_neg (by simpa using hb), wrapI64 (by omega) (by omega)]
          refine ⟨_, rfl, ⟨by omega, by omega, by omega, fun j' x' hj' hx' => ?_, rfl⟩, by dsimp only; omega⟩
          by_cases he : j' = j
          · subst he; rw [hx] at hx'; cases hx'
            exact ⟨hq rfl, by omega⟩
          · exact sj j' x' (by omega) hx'
    · rw [if_neg (by simp [A.l]; omega)]
      obtain ⟨vx, low, RX⟩ := RE.of_arg C
      have l1 := sm.1
      refine New_ok C.ents (C.ok sm) (by omega) fun b h1 s1 v1 L1 X1 => ?_
      refine ⟨_, _, rfl, rfl, ?_⟩
      have P2 := Blk.push h1 [.int .u64 ix, .int .u64 tm, Slc.v p2] 73
      have W := Ext.push h1 (.cells (S_quaestorref23_Log.cs ⟨ix, tm, p2⟩).toArray 73) (Nat.le_refl _)
      have z1 := X1.size
      have XW := X1.trans (W.mono z1)
      refine l3p_ok (B := h'.size) (h0 := h') (es := es) A (fun j x hj hx => sj j x (by have := (List.getElem?_eq_some_iff.1 hx).1; omega) hx) la (Nat.le_refl _) XW ⟨s1, v1, p2, vx, L1.ext W, ⟨P2, RX _ XW, z1⟩, fun h0 g hg hh => ?_⟩ (C.ok sm) x0 (by omega) l1 a0 (by omega) H
      have := low h0 g hg
      have := (L1.o.r.bd hh).1; omega
end Go.Q.Ya
