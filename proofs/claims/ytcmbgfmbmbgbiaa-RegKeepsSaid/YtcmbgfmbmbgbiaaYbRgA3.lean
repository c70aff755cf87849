/- A part of the proof of statements of this seat: lemmas, no statement of their own. -/
import Derived.Test.YtcmbgfmbmbgbiaaYbRgA2
set_option linter.unusedVariables false
set_option linter.unusedSimpArgs false
namespace Go.Q.Yb
/-- a tenant, and its keys -/
abbrev TZ := S_api_Tenant × List Z
abbrev zTZ : TZ := (zT, [])
structure RegAt (b : Nat) (h : Heap) (r m : Nat) (L : List (ByteArray × TZ)) : Prop where
  P : Blk h r [.map (some m)] 212
  ne : r ≠ m
  M : MapAt (K := ByteArray) (V := S_api_Tenant) .string Value.string vT h (some m) (L.map fun q => (q.1, q.2.1))
  T : ∀ q ∈ L, q.2.1.f_Name = q.1 ∧ (∀ h', Upd m h h' → KAt h' q.2.1.f_Keys q.2.2) ∧ q.2.2.length ≤ b
  n : L.length ≤ 8
  hb : b ≤ 1000
section
variable {b : Nat} {h h' : Heap} {r m : Nat} {L : List (ByteArray × TZ)}
theorem RegAt.ext (R : RegAt b h r m L) (X : Ext h.size h h') : RegAt b h' r m L :=
  ⟨R.P.ext X R.P.lt, R.ne, R.M.ext X R.M.lt, fun q hq => by obtain ⟨a, b, c⟩ := R.T q hq; exact ⟨a, fun h2 U => b h2 ((Upd.of_ext X).trans U), c⟩, R.n, R.hb⟩
theorem RegAt.look (R : RegAt b h r m L) (k : ByteArray) : mget (L.map fun q => (q.1, q.2.1)) k = (mget L k).map (·.1) := mget_map (fun q : TZ => q.1) k L
theorem RegAt.key (R : RegAt b h r m L) (k : ByteArray) : KAt h ((mget L k).getD zTZ).1.f_Keys ((mget L k).getD zTZ).2 ∧ ((mget L k).getD zTZ).2.length ≤ b := by
  cases hg : mget L k with
  | none => exact ⟨⟨⟨rfl, fun i x hx => by simp at hx⟩, fun z hz => by cases hz⟩, Nat.zero_le _⟩
  | some q => obtain ⟨_, b, c⟩ := R.T _ (mget_mem hg); exact ⟨b h (Upd.refl _ _), c⟩
theorem getD_map (o : Option TZ) : (o.map (·.1)).getD zT = (o.getD zTZ).1 := by cases o <;> rfl
theorem isSome_map (o : Option TZ) : (o.map (·.1)).isSome = o.isSome := by cases o <;> rfl
def staleA (c : S_api_Command) (t : TZ) : Bool :=
  if c.f_Kind = 1 then c.f_Epoch != 1 else if c.f_Kind = 2 then (if epA t.2 = 4294967295 then true else c.f_Epoch != IntKind.u32.wrap (epA t.2 + 1)) else if c.f_Kind = 3 then decide (c.f_Epoch > epA t.2) else if c.f_Kind = 4 then decide (c.f_Horizon < t.1.f_Horizon) else false
def askA (c : S_api_Command) (L : List (ByteArray × TZ)) : Int :=
  if c.f_Kind = 0 then 0 else if c.f_Kind = 1 ∧ (mget L c.f_Tenant).isSome = true then 7 else if c.f_Kind = 1 ∧ L.length ≥ 8 then 8 else if c.f_Kind ≠ 1 ∧ (mget L c.f_Tenant).isSome = false then 16
  else if ((mget L c.f_Tenant).getD zTZ).1.f_Shredded = true ∧ c.f_Kind ≠ 5 then 17 else if staleA c ((mget L c.f_Tenant).getD zTZ) = true then 13 else 0
theorem asks_ok {c : S_api_Command} {k : Int → Heap → Prop} (R : RegAt b h r m L) (H : ∀ h', Ext h.size h h' → k (askA c L) h') : reg_Reg_asks (some ⟨r, 0, none⟩) c k h := by
  unfold reg_Reg_asks
  refine ⟨_, _, rfl, rfl, ?_⟩
  have P := Blk.push h (S_api_Command.cs c) 32
  have W := Ext.push h (.cells (S_api_Command.cs c).toArray 32) (Nat.le_refl _)
  obtain ⟨h2, e2⟩ : ∃ y, y = h.push (.cells (S_api_Command.cs c).toArray 32) := ⟨_, rfl⟩
  rw [← e2] at P W ⊢
  have z2 := W.size
  have pl := P.lt
  have R2 := R.ext W
  refine ⟨_, rfl, some m, by rw [R2.P.cell]; rfl, c.f_Tenant, by rw [add_mk, P.cell]; rfl, _, R2.M, _, _, rfl, rfl, ?_⟩
  have Q := Blk.push h2 (S_api_Tenant.cs zT) 130
  have W3 := Ext.push h2 (.cells (S_api_Tenant.cs zT).toArray 130) (Nat.le_refl _)
  obtain ⟨h3, e3⟩ : ∃ y, y = h2.push (.cells (S_api_Tenant.cs zT).toArray 130) := ⟨_, rfl⟩
  rw [← e3] at Q W3 ⊢
  have z3 := W3.size
  have ql := Q.lt
  have P3 := P.ext W3 pl
  have R3 := R2.ext W3
  refine ⟨R3.M, by rw [add_mk, P3.cell]; rfl, by rw [R3.P.cell]; rfl, _, WrsAt.of_blk Q (by rw [tcs_len]; omega), rfl, ?_⟩
  rw [R2.look, getD_map, isSome_map]
  obtain ⟨KA, k1000⟩ := R.key c.f_Tenant
  have hb := R.hb
  have eA : ∀ t, ((mget L c.f_Tenant).getD zTZ) = t → (mget L c.f_Tenant).getD zTZ = t := fun _ h => h
  obtain ⟨t, et⟩ : ∃ t, t = (mget L c.f_Tenant).getD zTZ := ⟨_, rfl⟩
  obtain ⟨is, eis⟩ : ∃ b, b = (mget L c.f_Tenant).isSome := ⟨_, rfl⟩
  have eask : askA c L = if c.f_Kind = 0 then 0 else if c.f_Kind = 1 ∧ is = true then 7 else if c.f_Kind = 1 ∧ L.length ≥ 8 then 8 else if c.f_Kind ≠ 1 ∧ is = false then 16 else if t.1.f_Shredded = true ∧ c.f_Kind ≠ 5 then 17 else if staleA c t = true then 13 else 0 := by rw [et, eis]; rfl
  rw [← et] at KA k1000 ⊢
  rw [← eis]
  have Q2 := Q.sets_all (vs := S_api_Tenant.cs t.1) rfl
  have X4 : Ext h.size h3 (setsH h3 ⟨h2.size, 0, none⟩ 0 (S_api_Tenant.cs t.1)) := Ext.sets _ _ _ (by dsimp only; omega)
  have P4 : Blk (setsH h3 ⟨h2.size, 0, none⟩ 0 (S_api_Tenant.cs t.1)) h.size (S_api_Command.cs c) 32 := P3.old (setsH_other _ _ (by dsimp only; omega))
  have R4 : RegAt b (setsH h3 ⟨h2.size, 0, none⟩ 0 (S_api_Tenant.cs t.1)) r m L := by
    have X := (W.trans (W3.mono z2)).trans X4
    exact R.ext X
  generalize setsH h3 ⟨h2.size, 0, none⟩ 0 (S_api_Tenant.cs t.1) = h4 at *
  have z4 := X4.size
  have X04 : Ext h.size h h4 := (W.trans (W3.mono z2)).trans X4
  have q4 := Q2.lt
  have p4 := P4.lt
  have fin : ∀ h', Ext h4.size h4 h' → k (askA c L) h' := fun h' X => H h' (X04.trans (X.mono (by omega)))
  rw [eask] at fin
  have now := fin h4 (Ext.refl _ _)
  have c0 : cellH h4 (⟨h.size, 0, none⟩ : Addr) = some (.int .i64 c.f_Kind) := by rw [P4.cell]; rfl
  refine ⟨_, c0, ?_⟩
  by_cases k0 : c.f_Kind = 0
  · rw [if_pos (by simp [k0])]; rw [if_pos k0] at now; exact now
  rw [if_neg (by simpa using k0)]
  simp only [if_neg k0] at fin now
  refine ⟨_, c0, ?_⟩
  by_cases k7 : c.f_Kind = 1 ∧ is = true
  · rw [if_pos (by simp [k7.1, k7.2])]; rw [if_pos k7] at now; exact now
  rw [if_neg (by simpa using k7)]
  simp only [if_neg k7] at fin now
  refine ⟨_, c0, ?_⟩
  have j3 : ∀ {h' : Heap} {b : Bool}, Ext h4.size h4 h' → (∀ h', Ext h4.size h4 h' → k (if b = true then 13 else 0) h') → reg_Reg_asks_j3 b k h' := fun {h' b} X F => by
    have := F h' X
    unfold reg_Reg_asks_j3
    cases b with
    | true => rw [if_pos rfl]; exact this
    | false => rw [if_neg (by simp)]; exact this
  have g1 : ∀ b, b = decide (c.f_Kind = 1 ∧ L.length ≥ 8) → reg_Reg_asks_g1 ⟨h.size, 0, none⟩ ⟨h2.size, 0, none⟩ is b k h4 := fun b hb => by
    unfold reg_Reg_asks_g1
    by_cases k8 : c.f_Kind = 1 ∧ L.length ≥ 8
    · rw [hb, if_pos (by simpa using k8)]; rw [if_pos k8] at now; exact now
    rw [hb, if_neg (by simpa using k8)]
    simp only [if_neg k8] at fin now
    refine ⟨_, c0, ?_⟩
    by_cases k16 : c.f_Kind ≠ 1 ∧ is = false
    · rw [if_pos (by simp [k16.1, k16.2])]; rw [if_pos k16] at now; exact now
    rw [if_neg (by simpa using k16)]
    simp only [if_neg k16] at fin now
    have g2 : ∀ b, b = decide (t.1.f_Shredded = true ∧ c.f_Kind ≠ 5) → reg_Reg_asks_g2 ⟨h.size, 0, none⟩ ⟨h2.size, 0, none⟩ b k h4 := fun b hb => by
      unfold reg_Reg_asks_g2
      by_cases k17 : t.1.f_Shredded = true ∧ c.f_Kind ≠ 5
      · rw [hb, if_pos (by simpa using k17)]; rw [if_pos k17] at now; exact now
      rw [hb, if_neg (by simpa using k17)]
      simp only [if_neg k17] at fin now
      refine ⟨_, c0, ?_⟩
      unfold staleA at fin now
      by_cases k1 : c.f_Kind = 1
      · simp only [if_pos k1] at fin
        rw [if_pos (by simp [k1])]
        exact ⟨c.f_Epoch, by rw [add_mk, P4.cell]; rfl, j3 (Ext.refl _ _) fin⟩
      simp only [if_neg k1] at fin
      rw [if_neg (by simpa using k1)]
      by_cases k2 : c.f_Kind = 2
      · simp only [if_pos k2] at fin
        rw [if_pos (by simp [k2])]
        refine ⟨t.1, CellsAt.of_blk Q2, Epoch_ok (KA.ext X04) (by omega) fun h5 X5 => ?_⟩
        by_cases km : epA t.2 = 4294967295
        · simp only [if_pos km] at fin
          rw [if_pos (by simp [km])]
          exact j3 X5 fin
        · simp only [if_neg km] at fin
          rw [if_neg (by simpa using km)]
          have P5 := P4.ext X5 p4
          refine ⟨c.f_Epoch, by rw [add_mk, P5.cell]; rfl, t.1, CellsAt.of_blk (Q2.ext X5 q4), Epoch_ok ((KA.ext X04).ext X5) (by omega) fun h6 X6 => ?_⟩
          have X46 := X5.trans (X6.mono X5.size)
          exact ⟨by rw [add_mk, (P4.ext X46 p4).cell]; rfl, j3 X46 fin⟩
      simp only [if_neg k2] at fin
      rw [if_neg (by simpa using k2)]
      by_cases k3 : c.f_Kind = 3
      · simp only [if_pos k3] at fin
        rw [if_pos (by simp [k3])]
        refine ⟨c.f_Epoch, by rw [add_mk, P4.cell]; rfl, t.1, CellsAt.of_blk Q2, Epoch_ok (KA.ext X04) (by omega) fun h5 X5 => ?_⟩
        exact ⟨by rw [add_mk, (P4.ext X5 p4).cell]; rfl, j3 X5 fin⟩
      simp only [if_neg k3] at fin
      rw [if_neg (by simpa using k3)]
      by_cases k4 : c.f_Kind = 4
      · simp only [if_pos k4] at fin
        rw [if_pos (by simp [k4])]
        exact ⟨c.f_Horizon, by rw [add_mk, P4.cell]; rfl, t.1.f_Horizon, by rw [add_mk, Q2.cell]; rfl, j3 (Ext.refl _ _) fin⟩
      · simp only [if_neg k4] at fin
        rw [if_neg (by simpa using k4)]
        exact j3 (Ext.refl _ _) fin
    refine ⟨t.1.f_Shredded, by rw [add_mk, Q2.cell]; rfl, ?_⟩
    cases hs : t.1.f_Shredded with
    | true =>
      rw [if_pos rfl]
      exact ⟨_, c0, g2 _ (by by_cases k5 : c.f_Kind = 5 <;> simp [hs, k5])⟩
    | false =>
      rw [if_neg (by simp)]
      exact g2 _ (by simp [hs])
  by_cases k1 : c.f_Kind = 1
  · rw [if_pos (by simp [k1])]
    refine ⟨some m, by rw [R4.P.cell]; rfl, _, R4.M, ?_⟩
    rw [List.length_map]
    exact g1 _ (by rw [decide_eq_decide]; exact ⟨fun hh => ⟨k1, by omega⟩, fun hh => by have := hh.2; omega⟩)
  · rw [if_neg (by simpa using k1)]
    exact g1 _ (by simp [k1])
end
/-! ### keys are dropped -/
def oldK (e : Int) (z : Z) : Bool := decide (z.1.f_Epoch < e)
theorem A1_ok {w : S_api_Wrapped} {b : Nat} {c : S_api_Command} {k : Bool → Heap → Prop} {h : Heap} (P : Blk h b (S_api_Command.cs c) 32) (H : ∀ h', Ext h.size h h' → k (decide (w.f_Epoch < c.f_Epoch)) h') : reg_Reg_Apply_1 w ⟨b, 0, none⟩ k h := by
  unfold reg_Reg_Apply_1
  have W := Ext.push h (.cells (S_api_Wrapped.cs w).toArray 132) (Nat.le_refl _)
  have Q := Blk.push h (S_api_Wrapped.cs w) 132
  exact ⟨_, _, rfl, rfl, w.f_Epoch, by rw [Q.cell]; rfl, c.f_Epoch, by rw [add_mk, (P.ext W P.lt).cell]; rfl, H _ W⟩
theorem Idx_ok {s : Slc} {zs : List Z} {b : Nat} {c : S_api_Command} {k : Int → Heap → Prop} {h : Heap} (K : LsAt S_api_Wrapped.cs 14 h s (zs.map (·.1))) (hz : zs.length ≤ 1000000) (P : Blk h b (S_api_Command.cs c) 32)
    (H1 : ∀ i h', i < zs.length → (∀ j z, j < i → zs[j]? = some z → oldK c.f_Epoch z = false) → (∀ z, zs[i]? = some z → oldK c.f_Epoch z = true) → Ext h.size h h' → k (i : Int) h')
    (H2 : ∀ h', (∀ z ∈ zs, oldK c.f_Epoch z = false) → Ext h.size h h' → k (-1) h') : slices_IndexFunc_api_Wrapped_api_Wrapped__reg_Reg_Apply_1 s ⟨b, 0, none⟩ k h := by
  have sl : s.len = zs.length := by have := K.l; simpa using this
  unfold slices_IndexFunc_api_Wrapped_api_Wrapped__reg_Reg_Apply_1
  refine ⟨fun i h' => 0 ≤ i ∧ i ≤ zs.length ∧ (∀ j z, j < i.toNat → zs[j]? = some z → oldK c.f_Epoch z = false) ∧ Ext h.size h h', fun i _ => (zs.length - i).toNat, ⟨by omega, by omega, fun j z hj => by simp at hj, Ext.refl _ _⟩, ?_⟩
  rintro i h1 ⟨i0, i1, ha, X⟩
  have z1 := X.size
  unfold slices_IndexFunc_api_Wrapped_api_Wrapped__reg_Reg_Apply_1_l1b
  by_cases hi : i < zs.length
  · rw [if_pos (by rw [decide_eq_true_eq]; omega)]
    have hx : zs[i.toNat]? = some (zs[i.toNat]'(by omega)) := by simp
    generalize zs[i.toNat]'(by omega) = z at *
    obtain ⟨a, h3, C⟩ := (K.ext X).at' i.toNat z.1 (by rw [List.getElem?_map, hx]; rfl)
    refine ⟨a, h3, i0, by omega, z.1, C, A1_ok (P.ext X P.lt) fun h4 X4 => ?_⟩
    have X04 := X.trans (X4.mono z1)
    by_cases hb : z.1.f_Epoch < c.f_Epoch
    · rw [if_pos (by simpa using hb)]
      have := H1 i.toNat h4 (by omega) ha (fun y hy => by rw [hx] at hy; cases hy; simpa [oldK] using hb) X04
      rw [Int.toNat_of_nonneg i0] at this; exact this
    · rw [if_neg (by simpa using hb), wrapI64 (by omega) (by omega)]
      refine ⟨⟨by omega, by omega, fun j y hj hy => ?_, X04⟩, by dsimp only; omega⟩
      rcases Nat.lt_or_ge j i.toNat with h | h
      · exact ha j y h hy
      · have : j = i.toNat := by omega
        subst this
        rw [hx] at hy; cases hy; simpa [oldK] using hb
  · rw [if_neg (by rw [decide_eq_true_eq]; omega)]
    refine ⟨_, rfl, H2 _ (fun z hz => ?_) X⟩
    obtain ⟨j, hj⟩ := List.getElem?_of_mem hz
    exact ha j z (by have := (List.getElem?_eq_some_iff.1 hj).1; omega) hj
end Go.Q.Yb
