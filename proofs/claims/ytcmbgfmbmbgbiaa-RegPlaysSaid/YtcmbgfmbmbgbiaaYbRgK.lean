/- A part of the proof of statements of this seat: lemmas, no statement of their own. -/
import Derived.Test.YtcmbgfmbmbgbiaaYbRg2
import Derived.Test.YtcmbgfmbmbgbiaaYbRgAx
set_option linter.unusedVariables false
set_option linter.unusedSimpArgs false
namespace Go.Q.Yb
/-! ### what is told of a registry -/
abbrev AT := Int × Bool × List AK
noncomputable instance : DecidableEq AT := fun a b => Classical.propDecidable _
abbrev AG := List (ByteArray × AT)
abbrev zAT : AT := (0, false, [])
def absL (L : List (ByteArray × TZ)) : AG := L.map fun q => (q.1, absT q.2)
def tenL (A : AG) : AG := (srtS (A.map (·.1))).map fun n => (n, (mget A n).getD zAT)
abbrev tcs (q : TZ) : List Value := S_api_Tenant.cs q.1
theorem tcs4 (q : TZ) : (tcs q).length = 4 := rfl
def TenAt (h : Heap) (s : Slc) (ts : AG) : Prop := ∃ qs : List TZ, LsAt tcs 4 h s qs ∧ (∀ q ∈ qs, KAt h q.1.f_Keys q.2) ∧ qs.map (fun q => (q.1.f_Name, absT q)) = ts
theorem TenAt.ext {h h' : Heap} {s : Slc} {ts : AG} (T : TenAt h s ts) (X : Ext h.size h h') : TenAt h' s ts := by
  obtain ⟨qs, a, b, c⟩ := T
  exact ⟨qs, a.ext X, fun q hq => (b q hq).ext X, c⟩
theorem TenAt.len {h : Heap} {s : Slc} {ts : AG} (T : TenAt h s ts) : s.len = ts.length := by
  obtain ⟨qs, a, b, c⟩ := T
  rw [← c, List.length_map]; exact a.l
theorem srtS_perm (l : List ByteArray) : (srtS l).Perm l := by
  unfold srtS
  refine ((List.mergeSort_perm _ _).map _).trans ?_
  rw [List.map_map]
  have : (l.map ((fun l : List UInt8 => (⟨l.toArray⟩ : ByteArray)) ∘ fun t => t.data.toList)) = l := by
    refine (List.map_congr_left fun t _ => ?_).trans (List.map_id' _)
    show (⟨t.data.toList.toArray⟩ : ByteArray) = t
    cases t; simp
  rw [this]
theorem srtS_len (l : List ByteArray) : (srtS l).length = l.length := (srtS_perm l).length_eq
theorem absL_get (L : List (ByteArray × TZ)) (n : ByteArray) : mget (absL L) n = (mget L n).map absT := mget_map absT n L
theorem absL_keys (L : List (ByteArray × TZ)) : (absL L).map (·.1) = L.map (·.1) := by unfold absL; rw [List.map_map]; rfl
theorem KOwn.keepE {B : Nat} {h h' : Heap} {s : Slc} {zs : List Z} (K : KOwn B h s zs) (e : ∀ g E w t ys, Row B h E w t ys → E ≠ 130 → t.blk = some g → h'[g]? = h[g]?) : KOwn B h' s zs :=
  ⟨K.1.keep fun g hg => e g _ _ _ _ K.1 (by decide) hg, K.2.1, fun z hz => by obtain ⟨a, b⟩ := K.2.2 z hz; exact ⟨a.keep fun g hg => e g _ _ _ _ a (by decide) hg, b⟩⟩
section
variable {b : Nat} {h : Heap} {r m : Nat} {L : List (ByteArray × TZ)}
theorem Tenants_ok {k : Slc → Heap → Prop} (R : RegAt b h r m L) (nm : ∀ p ∈ L, p.1.size ≤ 100000) (H : ∀ s h', TenAt h' s (tenL (absL L)) → Ext h.size h h' → k s h') : reg_Reg_Tenants (some ⟨r, 0, none⟩) k h := by
  unfold reg_Reg_Tenants
  rw [if_neg (by simp)]
  refine ⟨_, rfl, some m, by rw [R.P.cell]; rfl, ?_⟩
  unfold maps_Keys_map_string_api_Tenant_string_api_Tenant
  have W := Ext.push h (.cells #[.map (some m)] 210) (Nat.le_refl _)
  have Q : Blk (h.push (.cells #[.map (some m)] 210)) h.size [.map (some m)] 210 := Blk.push h [.map (some m)] 210
  generalize h.push (.cells #[.map (some m)] 210) = h2 at *
  have z2 := W.size
  have R2 := R.ext W
  have hn := R.n
  have keysE : (L.map fun q => (q.1, q.2.1)).map (·.1) = L.map (·.1) := by rw [List.map_map]; rfl
  refine ⟨h.size, m, L.map fun q => (q.1, q.2.1), rfl, by rw [Q.cell]; rfl, R2.M, fun p hp => ?_, by rw [List.length_map]; omega, fun sk h6 R6 skl X6 => ?_⟩
  · obtain ⟨q, hq, rfl⟩ := List.mem_map.1 hp
    have := nm q hq
    simp only [maxLen]; omega
  rw [keysE] at R6
  rw [List.length_map] at skl
  have z6 := X6.size
  have X06 : Ext h.size h h6 := W.trans (X6.mono z2)
  have ks : (srtS (L.map (·.1))).length = L.length := by rw [srtS_len, List.length_map]
  have tl : (tenL (absL L)).length = L.length := by unfold tenL; rw [List.length_map, absL_keys, ks]
  refine ⟨fun q h' => 0 ≤ q.2 ∧ q.2 ≤ L.length ∧ (∃ qs : List TZ, Row h6.size h' 130 4 q.1 (qs.flatMap tcs) ∧ q.1.len = q.2.toNat ∧ (∀ x ∈ qs, KOwn h6.size h' x.1.f_Keys x.2) ∧ qs.map (fun q => (q.1.f_Name, absT q)) = (tenL (absL L)).take q.2.toNat) ∧ Ext h6.size h6 h', fun q _ => (L.length - q.2).toNat,
    ⟨by dsimp only; omega, by dsimp only; omega, ⟨[], by simpa using Row.nil _ _ _ _, rfl, by simp, by simp⟩, Ext.refl _ _⟩, ?_⟩
  rintro t i h7 ⟨i0, i1, ⟨qs, Rq, ql, Kq, aq⟩, X7⟩
  dsimp only at i0 i1 Rq ql aq
  have z7 := X7.size
  have R7 : Row h2.size h7 9 1 sk ((srtS (L.map (·.1))).map Value.string) := R6.ext X7 fun g hg => (R6.bd hg).2
  have RR := R.ext (X06.trans (X7.mono X06.size))
  unfold reg_Reg_Tenants_l1b
  by_cases hi : i < L.length
  · rw [if_pos (by rw [decide_eq_true_eq]; omega)]
    have hx : (srtS (L.map (·.1)))[i.toNat]? = some ((srtS (L.map (·.1)))[i.toNat]'(by omega)) := by simp
    generalize (srtS (L.map (·.1)))[i.toNat]'(by omega) = n at *
    obtain ⟨ad, ha, hcell⟩ := R7.at (j := i.toNat) (by omega)
    rw [List.getElem?_map, hx] at hcell
    -- the tenant of that name
    have hn : n ∈ L.map (·.1) := (srtS_perm _).mem_iff.1 (List.mem_of_getElem? hx)
    obtain ⟨q, hq⟩ : ∃ q, mget L n = some q := by
      obtain ⟨p, hp, e⟩ := List.mem_map.1 hn
      have : ∀ L : List (ByteArray × TZ), p ∈ L → ∃ q, mget L n = some q := fun L => by
        induction L with
        | nil => intro h; simp at h
        | cons y r ih =>
          intro hm
          unfold mget
          by_cases hy : y.1 = n
          · exact ⟨_, if_pos hy⟩
          · rw [if_neg hy]
            rcases List.mem_cons.1 hm with rfl | hm
            · exact absurd e hy
            · exact ih hm
      exact this L hp
    obtain ⟨tn, _, _⟩ := R.T _ (mget_mem hq)
    refine ⟨ad, ha, i0, by omega, n, by rw [Nat.mul_one]; exact hcell, _, rfl, some m, by rw [RR.P.cell]; rfl, _, RR.M, ?_⟩
    rw [RR.look, getD_map]
    obtain ⟨KA, kb⟩ := RR.key n
    have hb := R.hb
    refine Copied_ok KA (by omega) fun s zs' h8 O8 ab X8 => ?_
    have z8 := X8.size
    rw [hq] at ab ⊢
    have Rq8 := Rq.ext X8 fun g hg => (Rq.bd hg).2
    have Kq8 : ∀ x ∈ qs, KOwn h6.size h8 x.1.f_Keys x.2 := fun x hx => (Kq x hx).step z8 fun g _ g2 => X8.block g g2
    have O8' := O8.mono z7
    refine ⟨_, _, rfl, rfl, ?_⟩
    refine App.row (Rq8.pushed _) (by simp; omega) rfl rfl (oneC (by kernel_rfl)) (by omega) (by simp only [maxLen]; omega) fun t9 h9 R9 l9 z9 F9 _ => ?_
    simp at z9
    have F : ∀ g, g < h8.size → t.blk ≠ some g → h9[g]? = h8[g]? := fun g hg hs => by rw [F9 g (by simp; omega) hs, Array.getElem?_push, if_neg (by omega)]
    have kp : ∀ {s zs}, KOwn h6.size h8 s zs → KOwn h6.size h9 s zs := fun K => K.keepE fun g E w u ys Ru hE hu => F g (Ru.bd hu).2 (Row.ne_row Ru Rq8 hE hu)
    rw [wrapI64 (by omega) (by omega)]
    refine ⟨⟨by dsimp only; omega, by dsimp only; omega, ⟨qs ++ [({ q.1 with f_Keys := s }, zs')], ?_, by dsimp only; rw [l9]; omega, fun x hx => ?_, ?_⟩, X7.trans ⟨by omega, fun g hg => by rw [F g (by omega) (fun e => by have := (Rq.bd e).1; omega), X8.block g (by omega)]⟩⟩, by dsimp only; omega⟩
    · rw [List.flatMap_append]
      simpa [tcs] using R9
    · rcases List.mem_append.1 hx with hx | hx
      · exact kp (Kq8 x hx)
      · simp at hx; subst hx
        exact kp O8'
    · dsimp only
      rw [List.map_append, aq, show (i + 1).toNat = i.toNat + 1 from by omega, List.take_add_one]
      congr 1
      have : (tenL (absL L))[i.toNat]? = some (n, absT q) := by
        unfold tenL
        rw [absL_keys, List.getElem?_map, hx]
        show some (n, (mget (absL L) n).getD zAT) = _
        rw [absL_get, hq]; rfl
      rw [this]
      show [(q.1.f_Name, absT ({ q.1 with f_Keys := s }, zs'))] = [(n, absT q)]
      have e1 : q.1.f_Name = n := tn
      have e2 : absT ({ q.1 with f_Keys := s }, zs') = absT q := by
        show (q.1.f_Horizon, q.1.f_Shredded, zs'.map absK) = (q.1.f_Horizon, q.1.f_Shredded, q.2.map absK)
        rw [ab]; rfl
      rw [e1, e2]
  · rw [if_neg (by rw [decide_eq_true_eq]; omega)]
    rw [List.take_of_length_le (by omega)] at aq
    have ql2 : qs.length = t.len := by
      have := congrArg List.length aq
      rw [List.length_map, tl] at this
      omega
    exact H t h7 ⟨qs, LsAt.of_slc tcs4 Rq.slc ql2.symm (by omega), fun x hx => (Kq x hx).held.now, aq⟩ (X06.trans (X7.mono X06.size))
theorem Tenants_nil {k : Slc → Heap → Prop} (H : k ⟨none, 0, 0⟩ h) : reg_Reg_Tenants none k h := by
  unfold reg_Reg_Tenants
  rw [if_pos (by simp)]; exact H
end
/-! ### the same? -/
theorem ba_eq (a b : ByteArray) : (a.toList == b.toList) = decide (a = b) := by
  rw [ByteArray.toList_eq, ByteArray.toList_eq]
  by_cases h : a = b
  · simp [h]
  · have : ¬ a.data.toList = b.data.toList := fun e => h (by
      cases a; cases b
      simp only [ByteArray.mk.injEq]
      exact Array.toList_inj.1 e)
    rw [show decide (a = b) = false from by simpa using h]
    simpa using this
section
variable {h : Heap}
theorem STenant_ok {p q : TZ} {k : Bool → Heap → Prop} (Kp : KAt h p.1.f_Keys p.2) (Kq : KAt h q.1.f_Keys q.2) (hl : p.2.length ≤ 1000000) (H : ∀ h', Ext h.size h h' → k (decide ((p.1.f_Name, absT p) = (q.1.f_Name, absT q))) h') : ref25_SameTenant p.1 q.1 k h := by
  have lp := Kp.len
  have lq := Kq.len
  unfold ref25_SameTenant
  refine ⟨_, _, rfl, rfl, ?_⟩
  have P := Blk.push h (S_api_Tenant.cs p.1) 130
  have W := Ext.push h (.cells (S_api_Tenant.cs p.1).toArray 130) (Nat.le_refl _)
  have pl := P.lt
  generalize h.push (.cells (S_api_Tenant.cs p.1).toArray 130) = h2 at *
  have z2 := W.size
  refine ⟨_, _, rfl, rfl, ?_⟩
  have Q := Blk.push h2 (S_api_Tenant.cs q.1) 130
  have W3 := Ext.push h2 (.cells (S_api_Tenant.cs q.1).toArray 130) (Nat.le_refl _)
  generalize h2.push (.cells (S_api_Tenant.cs q.1).toArray 130) = h3 at *
  have P3 := P.ext W3 pl
  have X3 : Ext h.size h h3 := W.trans (W3.mono z2)
  have Kp3 := Kp.ext X3
  have Kq3 := Kq.ext X3
  have F := H h3 X3
  have cp : ∀ i, cellH h3 ((⟨h.size, 0, none⟩ : Addr).add i) = (S_api_Tenant.cs p.1)[i]? := fun i => by rw [add_mk, Nat.zero_add, P3.cell]
  have cq : ∀ i, cellH h3 ((⟨h2.size, 0, none⟩ : Addr).add i) = (S_api_Tenant.cs q.1)[i]? := fun i => by rw [add_mk, Nat.zero_add, Q.cell]
  have cp1 := cp 1
  have cq1 := cq 1
  have no : ∀ (h : ¬ (p.1.f_Name, absT p) = (q.1.f_Name, absT q)), k false h3 := fun hne => by
    rw [show decide ((p.1.f_Name, absT p) = (q.1.f_Name, absT q)) = false from by simpa using hne] at F; exact F
  have g3t : ¬ (p.1.f_Name, absT p) = (q.1.f_Name, absT q) → ref25_SameTenant_g3 ⟨h.size, 0, none⟩ ⟨h2.size, 0, none⟩ true k h3 := fun hne => by
    unfold ref25_SameTenant_g3; rw [if_pos rfl]; exact no hne
  have g2t : ¬ (p.1.f_Name, absT p) = (q.1.f_Name, absT q) → ref25_SameTenant_g2 ⟨h.size, 0, none⟩ ⟨h2.size, 0, none⟩ true k h3 := fun hne => by
    unfold ref25_SameTenant_g2; rw [if_pos rfl]; exact g3t hne
  have g1t : ¬ (p.1.f_Name, absT p) = (q.1.f_Name, absT q) → ref25_SameTenant_g1 ⟨h.size, 0, none⟩ ⟨h2.size, 0, none⟩ true k h3 := fun hne => by
    unfold ref25_SameTenant_g1; rw [if_pos rfl]; exact g2t hne
  refine ⟨p.1.f_Name, by rw [P3.cell]; rfl, q.1.f_Name, by rw [Q.cell]; rfl, ?_⟩
  rw [ba_eq]
  rcases Classical.em (¬ (p.1.f_Name = q.1.f_Name)) with hnm | hnm
  · rw [if_pos (by simpa using hnm)]
    exact g1t fun e => hnm (Prod.mk.inj e).1
  replace hnm : p.1.f_Name = q.1.f_Name := Classical.not_not.1 hnm
  rw [if_neg (by simpa using hnm)]
  refine ⟨p.1.f_Horizon, cp 2, q.1.f_Horizon, cq 2, ?_⟩
  rcases Classical.em (¬ (p.1.f_Horizon = q.1.f_Horizon)) with hh | hh
  · rw [show (p.1.f_Horizon != q.1.f_Horizon) = true from by simpa using hh]
    exact g1t fun e => hh (congrArg (fun x : ByteArray × AT => x.2.1) e)
  replace hh : p.1.f_Horizon = q.1.f_Horizon := Classical.not_not.1 hh
  rw [show (p.1.f_Horizon != q.1.f_Horizon) = false from by simpa using hh]
  unfold ref25_SameTenant_g1
  rw [if_neg (by simp)]
  refine ⟨p.1.f_Shredded, cp 3, q.1.f_Shredded, cq 3, ?_⟩
  rcases Classical.em (¬ (p.1.f_Shredded = q.1.f_Shredded)) with hs | hs
  · rw [show (!(p.1.f_Shredded == q.1.f_Shredded)) = true from by simpa using hs]
    exact g2t fun e => hs (congrArg (fun x : ByteArray × AT => x.2.2.1) e)
  replace hs : p.1.f_Shredded = q.1.f_Shredded := Classical.not_not.1 hs
  rw [show (!(p.1.f_Shredded == q.1.f_Shredded)) = false from by simpa using hs]
  unfold ref25_SameTenant_g2
  rw [if_neg (by simp)]
  refine ⟨p.1.f_Keys, cp 1, q.1.f_Keys, cq 1, ?_⟩
  rcases Classical.em (¬ (p.2.length = q.2.length)) with hk | hk
  · rw [show (((p.1.f_Keys.len : Nat) : Int) != ((q.1.f_Keys.len : Nat) : Int)) = true from by simp; omega]
    exact g3t fun e => hk (by
      have := congrArg (fun x : ByteArray × AT => x.2.2.2.length) e
      simpa [absT] using this)
  replace hk : p.2.length = q.2.length := Classical.not_not.1 hk
  rw [show (((p.1.f_Keys.len : Nat) : Int) != ((q.1.f_Keys.len : Nat) : Int)) = false from by simp; omega]
  unfold ref25_SameTenant_g3
  rw [if_neg (by simp)]
  refine ⟨fun i h' => 0 ≤ i ∧ i ≤ p.2.length ∧ (p.2.take i.toNat).map absK = (q.2.take i.toNat).map absK ∧ h' = h3, fun i _ => (p.2.length - i).toNat, ⟨by omega, by omega, by simp, rfl⟩, ?_⟩
  rintro i h' ⟨i0, i1, ha, e⟩
  subst e
  unfold ref25_SameTenant_l4b
  refine ⟨p.1.f_Keys, cp 1, ?_⟩
  by_cases hi : i < p.2.length
  · rw [if_pos (by rw [decide_eq_true_eq]; omega)]
    have hx : p.2[i.toNat]? = some (p.2[i.toNat]'(by omega)) := by simp
    have hy : q.2[i.toNat]? = some (q.2[i.toNat]'(by omega)) := by simp
    generalize p.2[i.toNat]'(by omega) = x at *
    generalize q.2[i.toNat]'(by omega) = y at *
    obtain ⟨a, ha1, C⟩ := Kp3.1.at' i.toNat x.1 (by rw [List.getElem?_map, hx]; rfl)
    obtain ⟨c, hc1, D⟩ := Kq3.1.at' i.toNat y.1 (by rw [List.getElem?_map, hy]; rfl)
    have C0 := C 0 (.int .u32 x.1.f_Epoch) rfl
    have D0 := D 0 (.int .u32 y.1.f_Epoch) rfl
    rw [show (a.add (i.toNat * 14)).add 0 = a.add (i.toNat * 14) from by simp [Addr.add]] at C0
    rw [show (c.add (i.toNat * 14)).add 0 = c.add (i.toNat * 14) from by simp [Addr.add]] at D0
    have ne : ¬ absK x = absK y → ¬ (p.1.f_Name, absT p) = (q.1.f_Name, absT q) := fun hne e => hne (by
      have h1 : p.2.map absK = q.2.map absK := congrArg (fun x : ByteArray × AT => x.2.2.2) e
      have h2 := congrArg (fun l => l[i.toNat]?) h1
      simp only [List.getElem?_map, hx, hy, Option.map_some] at h2
      exact Option.some.inj h2)
    have j5 : ∀ b, (b = true → ¬ absK x = absK y) → (b = false → absK x = absK y) → ref25_SameTenant_j5 ⟨h.size, 0, none⟩ ⟨h2.size, 0, none⟩ i b k (fun q_1 h'_1 => (0 ≤ q_1 ∧ q_1 ≤ (p.2.length : Int) ∧ (p.2.take q_1.toNat).map absK = (q.2.take q_1.toNat).map absK ∧ h'_1 = h') ∧ ((p.2.length : Int) - q_1).toNat < ((p.2.length : Int) - i).toNat) h' := fun b b1 b2 => by
      unfold ref25_SameTenant_j5
      cases b with
      | true => rw [if_pos rfl]; exact no (ne (b1 rfl))
      | false =>
        rw [if_neg (by simp)]
        refine ⟨_, rfl, ?_⟩
        rw [wrapI64 (by omega) (by omega)]
        refine ⟨⟨by omega, by omega, ?_, rfl⟩, by omega⟩
        rw [show (i + 1).toNat = i.toNat + 1 from by omega, List.take_add_one, List.take_add_one, hx, hy, List.map_append, List.map_append, ha]
        simp [b2 rfl]
    have CN : CellsAt h' ((a.add (i.toNat * 14)).add 1) (arr 12 .u8 x.1.f_Nonce) := fun j v hj => by
      have hjl : j < 12 := by have := (List.getElem?_eq_some_iff.1 hj).1; rw [arr_len] at this; exact this
      have := C (1 + j) v (by
        show ([Value.int .u32 x.1.f_Epoch] ++ arr 12 .u8 x.1.f_Nonce ++ [Slc.v x.1.f_B])[1 + j]? = _
        rw [List.append_assoc, List.getElem?_append_right (by simp), List.getElem?_append_left (by simp [arr_len]; omega)]
        simpa using hj)
      rw [add_add2]; exact this
    have DN : CellsAt h' ((c.add (i.toNat * 14)).add 1) (arr 12 .u8 y.1.f_Nonce) := fun j v hj => by
      have hjl : j < 12 := by have := (List.getElem?_eq_some_iff.1 hj).1; rw [arr_len] at this; exact this
      have := D (1 + j) v (by
        show ([Value.int .u32 y.1.f_Epoch] ++ arr 12 .u8 y.1.f_Nonce ++ [Slc.v y.1.f_B])[1 + j]? = _
        rw [List.append_assoc, List.getElem?_append_right (by simp), List.getElem?_append_left (by simp [arr_len]; omega)]
        simpa using hj)
      rw [add_add2]; exact this
    have CB : cellH h' ((a.add (i.toNat * 14)).add 13) = some (Slc.v x.1.f_B) := C 13 _ rfl
    have DB : cellH h' ((c.add (i.toNat * 14)).add 13) = some (Slc.v y.1.f_B) := D 13 _ rfl
    refine ⟨p.1.f_Keys, cp 1, a, ha1, i0, by omega, x.1.f_Epoch, C0, q.1.f_Keys, cq 1, c, hc1, i0, by omega, y.1.f_Epoch, D0, ?_⟩
    rcases Classical.em (¬ (x.1.f_Epoch = y.1.f_Epoch)) with he | he
    · rw [if_pos (by simpa using he), if_pos rfl]
      exact j5 true (fun _ e => he (congrArg (·.1) e)) fun h => by cases h
    replace he : x.1.f_Epoch = y.1.f_Epoch := Classical.not_not.1 he
    rw [if_neg (by simpa using he)]
    refine ⟨p.1.f_Keys, cp 1, a, ha1, i0, by omega, x.1.f_Nonce, CN, q.1.f_Keys, cq 1, c, hc1, i0, by omega, y.1.f_Nonce, DN, ?_⟩
    show (if (!(nrm 12 x.1.f_Nonce == nrm 12 y.1.f_Nonce)) = true then _ else _)
    rcases Classical.em (¬ (nrm 12 x.1.f_Nonce = nrm 12 y.1.f_Nonce)) with hn | hn
    · rw [if_pos (by simpa using hn)]
      exact j5 true (fun _ e => hn (congrArg (fun x : AK => x.2.1) e)) fun h => by cases h
    replace hn : nrm 12 x.1.f_Nonce = nrm 12 y.1.f_Nonce := Classical.not_not.1 hn
    rw [if_neg (by simpa using hn)]
    obtain ⟨x1, x2, _, x4⟩ := Kp3.2 x (List.mem_of_getElem? hx)
    obtain ⟨y1, y2, _, y4⟩ := Kq3.2 y (List.mem_of_getElem? hy)
    refine ⟨p.1.f_Keys, cp 1, a, ha1, i0, by omega, x.1.f_B, CB, q.1.f_Keys, cq 1, c, hc1, i0, by omega, y.1.f_B, DB, Same_ok x1 x2 y1 y2 (by omega) ?_⟩
    by_cases hb : x.2 = y.2
    · rw [show (!decide (x.2 = y.2)) = false from by simpa using hb]
      exact j5 false (fun h => by cases h) fun _ => by unfold absK; rw [he, hn, hb]
    · rw [show (!decide (x.2 = y.2)) = true from by simpa using hb]
      exact j5 true (fun _ e => hb (congrArg (fun x : AK => x.2.2) e)) fun h => by cases h
  · rw [if_neg (by rw [decide_eq_true_eq]; omega)]
    rw [List.take_of_length_le (by omega), List.take_of_length_le (by omega)] at ha
    rw [show decide ((p.1.f_Name, absT p) = (q.1.f_Name, absT q)) = true from by simp [absT, hnm, hh, hs, ha]] at F
    exact F
theorem STenants_ok {s t : Slc} {ts us : AG} {k : Bool → Heap → Prop} (S : TenAt h s ts) (T : TenAt h t us) (hl : ts.length ≤ 1000000) (hk : ∀ x ∈ ts, x.2.2.2.length ≤ 1000000) (H : ∀ h', Ext h.size h h' → k (decide (ts = us)) h') : ref25_SameTenants s t k h := by
  have ls := S.len
  have lt := T.len
  unfold ref25_SameTenants
  rcases Classical.em (¬ (ts.length = us.length)) with hlen | hlen
  · rw [if_pos (by simp; omega)]
    have := H h (Ext.refl _ _)
    rw [show decide (ts = us) = false from by simp only [decide_eq_false_iff_not]; exact fun e => hlen (congrArg _ e)] at this
    exact this
  replace hlen : ts.length = us.length := Classical.not_not.1 hlen
  rw [if_neg (by simp; omega)]
  obtain ⟨ps, pL, pK, pe⟩ := S
  obtain ⟨qs, qL, qK, qe⟩ := T
  have lps : ps.length = ts.length := by rw [← pe, List.length_map]
  have lqs : qs.length = us.length := by rw [← qe, List.length_map]
  refine ⟨fun i h' => 0 ≤ i ∧ i ≤ ts.length ∧ ts.take i.toNat = us.take i.toNat ∧ Ext h.size h h', fun i _ => (ts.length - i).toNat, ⟨by omega, by omega, by simp, Ext.refl _ _⟩, ?_⟩
  rintro i h' ⟨i0, i1, ha, X⟩
  unfold ref25_SameTenants_l1b
  by_cases hi : i < ts.length
  · rw [if_pos (by rw [decide_eq_true_eq]; omega)]
    have hx : ps[i.toNat]? = some (ps[i.toNat]'(by omega)) := by simp
    have hy : qs[i.toNat]? = some (qs[i.toNat]'(by omega)) := by simp
    generalize ps[i.toNat]'(by omega) = x at *
    generalize qs[i.toNat]'(by omega) = y at *
    have tx : ts[i.toNat]? = some (x.1.f_Name, absT x) := by rw [← pe, List.getElem?_map, hx]; rfl
    have uy : us[i.toNat]? = some (y.1.f_Name, absT y) := by rw [← qe, List.getElem?_map, hy]; rfl
    obtain ⟨a, ha1, C⟩ := (pL.ext X).at' i.toNat x hx
    obtain ⟨c, hc1, D⟩ := (qL.ext X).at' i.toNat y hy
    have kx := hk _ (List.mem_of_getElem? tx)
    refine ⟨a, ha1, i0, by omega, x.1, C, c, hc1, i0, by omega, y.1, D, STenant_ok ((pK x (List.mem_of_getElem? hx)).ext X) ((qK y (List.mem_of_getElem? hy)).ext X) (by simpa [absT] using kx) fun h2 X2 => ?_⟩
    have X02 := X.trans (X2.mono X.size)
    by_cases he : (x.1.f_Name, absT x) = (y.1.f_Name, absT y)
    · rw [if_neg (by simpa using he)]
      refine ⟨_, rfl, ?_⟩
      rw [wrapI64 (by omega) (by omega)]
      refine ⟨⟨by omega, by omega, ?_, X02⟩, by dsimp only; omega⟩
      rw [show (i + 1).toNat = i.toNat + 1 from by omega, List.take_add_one, List.take_add_one, tx, uy, ha, he]
    · rw [show decide ((x.1.f_Name, absT x) = (y.1.f_Name, absT y)) = false from decide_eq_false he, if_pos (show (!false) = true from rfl)]
      have := H h2 X02
      rw [show decide (ts = us) = false from by
        simp only [decide_eq_false_iff_not]
        intro e
        rw [e, uy] at tx
        exact he (Option.some.inj tx).symm] at this
      exact this
  · rw [if_neg (by rw [decide_eq_true_eq]; omega)]
    rw [List.take_of_length_le (by omega), List.take_of_length_le (by omega)] at ha
    have := H h' X
    rw [show decide (ts = us) = true from by simpa using ha] at this
    exact this
end
end Go.Q.Yb
