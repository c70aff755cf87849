/- A part of the proof of statements of this seat: lemmas, no statement of their own. -/
import Derived.Test.YtcmbgfmbmbgbiaaYbRgLx
import Derived.Test.YtcmbgfmbmbgbiaaYbRgO
set_option linter.unusedVariables false
set_option linter.unusedSimpArgs false
namespace Go.Q.Yb
section
variable {b : Nat} {h : Heap} {r m : Nat} {L : List (ByteArray × TZ)}
theorem RegAt.mlt (R : RegAt b h r m L) : m < h.size := by
  obtain ⟨es, ck, e⟩ := R.map
  exact (Array.getElem?_eq_some_iff.1 e).1
theorem Copy_ok {k : Option Addr → Heap → Prop} (R : RegAt b h r m L) (H : ∀ r' m' h', RegAt b h' r' m' L → h.size ≤ m' → Ext h.size h h' → k (some ⟨r', 0, none⟩) h') : reg_Reg_Copy (some ⟨r, 0, none⟩) k h := by
  unfold reg_Reg_Copy
  rw [if_neg (by simp)]
  refine ⟨_, rfl, some m, by rw [R.P.cell]; rfl, ?_⟩
  have hM := R.M
  obtain ⟨es, ck, h1, rest⟩ := hM
  have ml := R.mlt
  refine ⟨m, es, ck, rfl, h1, _, _, rfl, rfl, ?_⟩
  have W := Ext.push h (.map es ck) (Nat.le_refl _)
  have M2 : MapAt (K := ByteArray) (V := S_api_Tenant) .string Value.string vT (h.push (.map es ck)) (some h.size) (L.map fun q => (q.1, q.2.1)) := ⟨es, ck, by simp, rest⟩
  have s2 : (h.push (.map es ck)).size = h.size + 1 := by simp
  generalize h.push (.map es ck) = h2 at *
  have P := Blk.push h2 (S_reg_Reg.cs ⟨some h.size⟩) 212
  have W3 := Ext.push h2 (.cells (S_reg_Reg.cs ⟨some h.size⟩).toArray 212) (Nat.le_refl _)
  have e3 : (h2.push (.cells (S_reg_Reg.cs ⟨some h.size⟩).toArray 212))[h.size]? = h2[h.size]? := W3.block _ (by omega)
  generalize h2.push (.cells (S_reg_Reg.cs ⟨some h.size⟩).toArray 212) = h3 at *
  have X3 : Ext h.size h h3 := W.trans (W3.mono (by omega))
  have z3 := X3.size
  refine H h2.size h.size h3 ⟨P, by omega, M2.old e3, fun q hq => ?_, R.n, R.hb⟩ (Nat.le_refl _) X3
  obtain ⟨a, t, c⟩ := R.T q hq
  refine ⟨a, fun h' U => ?_, c⟩
  refine (t h (Upd.refl _ _)).mp fun g hg _ => ?_
  rw [U.block g (by omega) (by omega), X3.block g hg]
end
section
variable {h : Heap} {s : Slc} {ts : AG}
theorem TenAt.mp {h' : Heap} (T : TenAt h s ts) (e : ∀ g, g < h.size → (∀ es ck, h[g]? ≠ some (.map es ck)) → h'[g]? = h[g]?) : TenAt h' s ts := by
  obtain ⟨qs, L, K, eq⟩ := T
  have cell : ∀ {a v}, cellH h a = some v → cellH h' a = some v := fun {a v} hc => by rw [cellH_of (e _ (cellH_lt hc) (cell_notMap hc))]; exact hc
  refine ⟨qs, ⟨L.l, fun i x hx => ?_⟩, fun q hq => (K q hq).mp e, eq⟩
  obtain ⟨a, ha, C⟩ := L.at' i x hx
  exact ⟨a, ha, fun j v hj => cell (C j v hj)⟩
theorem TenAt.at (T : TenAt h s ts) {i : Nat} {y : ByteArray × AT} (hy : ts[i]? = some y) : ∃ (q : TZ) (a : Addr), s.a = some a ∧ CellsAt h (a.add (i * 4)) (S_api_Tenant.cs q.1) ∧ KAt h q.1.f_Keys q.2 ∧ y = (q.1.f_Name, absT q) := by
  obtain ⟨qs, L, K, eq⟩ := T
  rw [← eq, List.getElem?_map] at hy
  cases hx : qs[i]? with
  | none => rw [hx] at hy; cases hy
  | some q =>
    rw [hx] at hy
    obtain ⟨a, ha, C⟩ := L.at' i q hx
    exact ⟨q, a, ha, C, K q (List.mem_of_getElem? hx), (Option.some.inj hy).symm⟩
theorem add0 (a : Addr) : a.add 0 = a := by simp [Addr.add]
variable {p0 : Slc} {rg : Option Addr} {i4 : Int} {k : Bool → Heap → Prop} {nx1 : Int → Heap → Prop}
theorem K3_ok {s7 s19 : Slc} {t7 t19 : AG} {j : Nat} {x : ByteArray × AT} {nx2 : Int → Heap → Prop} (T7 : TenAt h s7 t7) (T19 : TenAt h s19 t19) (hx : t7[j]? = some x) (jl : j < 1000000) (l19 : t19.length ≤ 1000000)
    (mono : ∀ y ∈ t19, y.1 = x.1 → x.2.1 ≤ y.2.1 ∧ (x.2.2.1 = true → y.2.2.1 = true)) (ex : ∃ y ∈ t19, y.1 = x.1) (H : ∀ h', Ext h.size h h' → nx2 (j + 1) h') : law25_RegKeeps_l3 p0 rg i4 s7 s19 j false 0 k nx1 nx2 h := by
  have n7 := T7.len
  have n19 := T19.len
  have jl7 : j < t7.length := (List.getElem?_eq_some_iff.1 hx).1
  unfold law25_RegKeeps_l3
  refine ⟨fun q h' => 0 ≤ q.2 ∧ q.2 ≤ t19.length ∧ ((∃ y ∈ t19.take q.2.toNat, y.1 = x.1) → q.1 = true) ∧ Ext h.size h h', fun q _ => (t19.length - q.2).toNat, ⟨by simp, by simp, by simp, Ext.refl _ _⟩, ?_⟩
  rintro f i h1 ⟨i0, i1, hf, X⟩
  dsimp only at i0 i1 hf
  have zx := X.size
  unfold law25_RegKeeps_l3b
  by_cases hi : i < t19.length
  · rw [if_pos (by rw [decide_eq_true_eq]; omega)]
    have hy : t19[i.toNat]? = some (t19[i.toNat]'(by omega)) := by simp
    have hym := List.mem_of_getElem? hy
    generalize t19[i.toNat]'(by omega) = y at *
    obtain ⟨q, a, ha, C, _, eq⟩ := (T19.ext X).at hy
    refine ⟨a, ha, i0, by omega, q.1, C, _, _, rfl, rfl, ?_⟩
    have Q := Blk.push h1 (S_api_Tenant.cs zT) 130
    have W := (Ext.push h1 (.cells (S_api_Tenant.cs zT).toArray 130) (Nat.le_refl _)).trans (Ext.sets _ (a := ⟨h1.size, 0, none⟩) 0 (S_api_Tenant.cs q.1) (Nat.le_refl _))
    refine ⟨_, WrsAt.of_blk Q (by rw [tcs_len]; omega), rfl, ?_⟩
    have Q2 := Q.sets_all (vs := S_api_Tenant.cs q.1) rfl
    dsimp only
    generalize setsH (h1.push (.cells (S_api_Tenant.cs zT).toArray 130)) ⟨h1.size, 0, none⟩ 0 (S_api_Tenant.cs q.1) = h2 at *
    have X2 : Ext h.size h h2 := X.trans (W.mono zx)
    obtain ⟨o, c, hc, D, _, oeq⟩ := (T7.ext X2).at hx
    have D0 := D 0 (.string o.1.f_Name) rfl
    rw [add0] at D0
    have next : ∀ f' : Bool, (y.1 = x.1 → f' = true) → (f = true → f' = true) → (fun (q : Bool × Int) h' => (0 ≤ q.2 ∧ q.2 ≤ t19.length ∧ ((∃ y ∈ t19.take q.2.toNat, y.1 = x.1) → q.1 = true) ∧ Ext h.size h h') ∧ ((t19.length : Int) - q.2).toNat < ((t19.length : Int) - i).toNat) (f', IntKind.i64.wrap (i + 1)) h2 := fun f' h1 h2' => by
      rw [wrapI64 (by omega) (by omega)]
      refine ⟨⟨by dsimp only; omega, by dsimp only; omega, ?_, X2⟩, by dsimp only; omega⟩
      rintro ⟨z, hz, e⟩
      dsimp only at hz
      rw [show (i + 1).toNat = i.toNat + 1 from by omega, List.take_add_one, hy] at hz
      simp only [Option.toList_some, List.mem_append, List.mem_singleton] at hz
      rcases hz with hz | rfl
      · exact h2' (hf ⟨z, hz, e⟩)
      · exact h1 e
    refine ⟨q.1.f_Name, by rw [Q2.cell]; rfl, c, hc, by omega, by omega, o.1.f_Name, by rw [Int.toNat_natCast]; exact D0, ?_⟩
    rw [ba_eq]
    have yn : y.1 = q.1.f_Name := by rw [eq]
    have xn : x.1 = o.1.f_Name := by rw [oeq]
    by_cases hn : q.1.f_Name = o.1.f_Name
    · rw [if_neg (by simpa using hn)]
      obtain ⟨m1, m2⟩ := mono y hym (by rw [yn, xn, hn])
      have yh : y.2.1 = q.1.f_Horizon := by rw [eq]; rfl
      have xh : x.2.1 = o.1.f_Horizon := by rw [oeq]; rfl
      have ys : y.2.2.1 = q.1.f_Shredded := by rw [eq]; rfl
      have xs : x.2.2.1 = o.1.f_Shredded := by rw [oeq]; rfl
      refine ⟨q.1.f_Horizon, by rw [add_mk, Q2.cell]; rfl, c, hc, by omega, by omega, o.1.f_Horizon, by rw [Int.toNat_natCast]; exact D 2 _ rfl, ?_⟩
      rw [if_neg (by rw [decide_eq_true_eq]; omega)]
      refine ⟨c, hc, by omega, by omega, o.1.f_Shredded, by rw [Int.toNat_natCast]; exact D 3 _ rfl, ?_⟩
      have fin : law25_RegKeeps_g6 p0 rg i4 s7 s19 j true i false false k nx1 nx2 (fun q h' => (0 ≤ q.2 ∧ q.2 ≤ t19.length ∧ ((∃ y ∈ t19.take q.2.toNat, y.1 = x.1) → q.1 = true) ∧ Ext h.size h h') ∧ ((t19.length : Int) - q.2).toNat < ((t19.length : Int) - i).toNat) h2 := by
        unfold law25_RegKeeps_g6 law25_RegKeeps_g5 law25_RegKeeps_j4
        rw [if_neg (by simp)]
        exact ⟨_, rfl, next true (fun _ => rfl) fun _ => rfl⟩
      cases hs : o.1.f_Shredded with
      | false => rw [if_neg (by simp)]; exact fin
      | true =>
        rw [if_pos rfl]
        refine ⟨q.1.f_Shredded, by rw [add_mk, Q2.cell]; rfl, ?_⟩
        rw [show q.1.f_Shredded = true from by rw [← ys]; exact m2 (by rw [xs]; exact hs)]
        exact fin
    · rw [if_pos (by simpa using hn)]
      unfold law25_RegKeeps_j4
      exact ⟨_, rfl, next f (fun e => absurd (by rw [← yn, ← xn, e]) hn) id⟩
  · rw [if_neg (by rw [decide_eq_true_eq]; omega)]
    rw [List.take_of_length_le (by omega)] at hf
    rw [hf ex, if_neg (by simp)]
    refine ⟨_, rfl, ?_⟩
    rw [wrapI64 (by omega) (by omega)]
    exact H h1 X
theorem K8_ok {s19 : Slc} {t19 : AG} {j : Nat} {y : ByteArray × AT} {nx2 nx7 : Int → Heap → Prop} (T19 : TenAt h s19 t19) (hy : t19[j]? = some y) (jl : j < 1000000) (kl : y.2.2.2.length ≤ 1000000)
    (K : KI y.2) (H : nx7 (j + 1) h) : law25_RegKeeps_l8 p0 rg i4 s19 j 1 k nx1 nx2 nx7 h := by
  have n19 := T19.len
  have jl7 : j < t19.length := (List.getElem?_eq_some_iff.1 hy).1
  obtain ⟨q, a, ha, C, A, eq⟩ := T19.at hy
  obtain ⟨_, ao, a0, a1, hk⟩ := K
  have ke : y.2.2.2 = q.2.map absK := by rw [eq]; rfl
  have al := A.len
  rw [ke, List.length_map] at kl a1
  rw [ke] at hk
  unfold law25_RegKeeps_l8
  refine ⟨fun i h' => 1 ≤ i ∧ (i = 1 ∨ i ≤ q.2.length) ∧ h' = h, fun i _ => (q.2.length - i).toNat, ⟨by omega, by omega, rfl⟩, ?_⟩
  rintro i h1 ⟨i0, i1, e⟩
  subst e
  unfold law25_RegKeeps_l8b
  have c1 : cellH h1 ((a.add ((j : Int).toNat * 4)).add 1) = some (Slc.v q.1.f_Keys) := by rw [Int.toNat_natCast]; exact C 1 _ rfl
  refine ⟨a, ha, by omega, by omega, q.1.f_Keys, c1, ?_⟩
  by_cases hi : i < q.2.length
  · rw [if_pos (by rw [decide_eq_true_eq]; omega)]
    have hx : q.2[i.toNat]? = some (q.2[i.toNat]'(by omega)) := by simp
    have hw : q.2[(i - 1).toNat]? = some (q.2[(i - 1).toNat]'(by omega)) := by simp
    generalize q.2[i.toNat]'(by omega) = x at *
    generalize q.2[(i - 1).toNat]'(by omega) = w at *
    obtain ⟨d, hd, D⟩ := A.1.at' i.toNat x.1 (by rw [List.getElem?_map, hx]; rfl)
    obtain ⟨f, hf, E⟩ := A.1.at' (i - 1).toNat w.1 (by rw [List.getElem?_map, hw]; rfl)
    have D0 := D 0 (.int .u32 x.1.f_Epoch) rfl
    have E0 := E 0 (.int .u32 w.1.f_Epoch) rfl
    rw [add0] at D0 E0
    rw [wrapI64 (by omega) (by omega)]
    refine ⟨a, ha, by omega, by omega, q.1.f_Keys, c1, d, hd, by omega, by omega, x.1.f_Epoch, D0, a, ha, by omega, by omega, q.1.f_Keys, c1, f, hf, by omega, by omega, w.1.f_Epoch, E0, ?_⟩
    have h1 := hk i.toNat (absK x) (by rw [List.getElem?_map, hx]; rfl)
    have h2 := hk (i - 1).toNat (absK w) (by rw [List.getElem?_map, hw]; rfl)
    have h1' : x.1.f_Epoch = ao + i.toNat := h1
    have h2' : w.1.f_Epoch = ao + (i - 1).toNat := h2
    rw [if_neg (by
      rw [wrapU32 (by omega) (by omega)]
      simp only [bne_iff_ne, ne_eq, Decidable.not_not]
      omega)]
    refine ⟨_, rfl, ?_⟩
    rw [wrapI64 (by omega) (by omega)]
    exact ⟨⟨by omega, by omega, rfl⟩, by dsimp only; omega⟩
  · rw [if_neg (by rw [decide_eq_true_eq]; omega)]
    refine ⟨_, rfl, ?_⟩
    rw [wrapI64 (by omega) (by omega)]
    exact H
theorem K7_ok {s19 : Slc} {t19 : AG} {nx2 : Int → Heap → Prop} (T19 : TenAt h s19 t19) (l19 : t19.length ≤ 1000000) (kl : ∀ y ∈ t19, y.2.2.2.length ≤ 1000000) (ii : 0 ≤ i4 ∧ i4 < 1000000)
    (K : ∀ y ∈ t19, KI y.2) (H : nx1 (i4 + 1) h) : law25_RegKeeps_l7 p0 rg i4 s19 0 k nx1 nx2 h := by
  have n19 := T19.len
  unfold law25_RegKeeps_l7
  refine ⟨fun i h' => 0 ≤ i ∧ i ≤ t19.length ∧ h' = h, fun i _ => (t19.length - i).toNat, ⟨by omega, by omega, rfl⟩, ?_⟩
  rintro i h1 ⟨i0, i1, e⟩
  subst e
  unfold law25_RegKeeps_l7b
  by_cases hi : i < t19.length
  · rw [if_pos (by rw [decide_eq_true_eq]; omega)]
    have hy : t19[i.toNat]? = some (t19[i.toNat]'(by omega)) := by simp
    have hym := List.mem_of_getElem? hy
    generalize t19[i.toNat]'(by omega) = y at *
    obtain ⟨q, a, ha, C, A, eq⟩ := T19.at hy
    have c3 := C 3 (.bool q.1.f_Shredded) rfl
    have c1 := C 1 (Slc.v q.1.f_Keys) rfl
    refine ⟨a, ha, i0, by omega, q.1.f_Shredded, c3, a, ha, i0, by omega, q.1.f_Keys, c1, ?_⟩
    have K1 := (K y hym).1
    have ys : y.2.2.1 = q.1.f_Shredded := by rw [eq]; rfl
    have yk : y.2.2.2 = q.2.map absK := by rw [eq]; rfl
    rw [ys, yk, List.map_eq_nil_iff] at K1
    have al := A.len
    rw [if_neg (by
      cases hs : q.1.f_Shredded with
      | true => have := K1.1 hs; rw [al, this]; simp
      | false =>
        have : q.2 ≠ [] := fun e => by have := K1.2 e; rw [hs] at this; cases this
        have := List.length_pos_iff.2 this
        rw [show (((q.1.f_Keys.len : Nat) : Int) == 0) = false from by rw [beq_eq_false_iff_ne]; omega]; simp)]
    have := K8_ok (p0 := p0) (rg := rg) (i4 := i4) (k := k) (nx1 := nx1) (nx2 := nx2) (nx7 := fun s h' => (0 ≤ s ∧ s ≤ (t19.length : Int) ∧ h' = h1) ∧ ((t19.length : Int) - s).toNat < ((t19.length : Int) - i).toNat) T19 hy (by omega) (kl y hym) (K y hym) ⟨⟨by omega, by omega, rfl⟩, by omega⟩
    rw [show ((i.toNat : Nat) : Int) = i from by omega] at this
    exact this
  · rw [if_neg (by rw [decide_eq_true_eq]; omega)]
    refine ⟨_, rfl, ?_⟩
    rw [wrapI64 (by omega) (by omega)]
    exact H
theorem K2_ok {s7 s19 : Slc} {t7 t19 : AG} (T7 : TenAt h s7 t7) (T19 : TenAt h s19 t19) (l7 : t7.length ≤ 1000000) (l19 : t19.length ≤ 1000000) (kl : ∀ y ∈ t19, y.2.2.2.length ≤ 1000000) (ii : 0 ≤ i4 ∧ i4 < 1000000)
    (K : ∀ y ∈ t19, KI y.2)
    (mono : ∀ x ∈ t7, ∀ y ∈ t19, y.1 = x.1 → x.2.1 ≤ y.2.1 ∧ (x.2.2.1 = true → y.2.2.1 = true)) (ex : ∀ x ∈ t7, ∃ y ∈ t19, y.1 = x.1) (H : ∀ h', Ext h.size h h' → nx1 (i4 + 1) h') : law25_RegKeeps_l2 p0 rg i4 s7 s19 0 k nx1 h := by
  have n7 := T7.len
  unfold law25_RegKeeps_l2
  refine ⟨fun i h' => 0 ≤ i ∧ i ≤ t7.length ∧ Ext h.size h h', fun i _ => (t7.length - i).toNat, ⟨by omega, by omega, Ext.refl _ _⟩, ?_⟩
  rintro i h1 ⟨i0, i1, X⟩
  have zx := X.size
  unfold law25_RegKeeps_l2b
  by_cases hi : i < t7.length
  · rw [if_pos (by rw [decide_eq_true_eq]; omega)]
    have hx : t7[i.toNat]? = some (t7[i.toNat]'(by omega)) := by simp
    have hxm := List.mem_of_getElem? hx
    generalize t7[i.toNat]'(by omega) = x at *
    have := K3_ok (p0 := p0) (rg := rg) (i4 := i4) (k := k) (nx1 := nx1) (nx2 := fun s h' => (0 ≤ s ∧ s ≤ (t7.length : Int) ∧ Ext h.size h h') ∧ ((t7.length : Int) - s).toNat < ((t7.length : Int) - i).toNat) (T7.ext X) (T19.ext X) hx (by omega) l19 (mono x hxm) (ex x hxm) fun h' X' => ⟨⟨by omega, by omega, X.trans (X'.mono zx)⟩, by omega⟩
    rw [show ((i.toNat : Nat) : Int) = i from by omega] at this
    exact this
  · rw [if_neg (by rw [decide_eq_true_eq]; omega)]
    exact K7_ok (T19.ext X) l19 kl ii K (H h1 X)
end
/-! ### of a registry that is none -/
theorem BytesNil_ok {k : Slc → Heap → Prop} {h : Heap} (H : ∀ s h', s.len = 1 → SlcAt h' s (b8 [0]) → Ext h.size h h' → k s h') : reg_Reg_Bytes none k h := by
  unfold reg_Reg_Bytes
  refine Tenants_nil ?_
  refine PutShort_ok (l := []) rfl ⟨fun _ => rfl, fun a ha => by cases ha⟩ (by simp) (by decide) (by decide) fun s h1 R X => ?_
  unfold reg_Reg_Bytes_l1
  refine ⟨fun q h' => q = (s, 0) ∧ h' = h1, fun _ _ => 0, ⟨rfl, rfl⟩, ?_⟩
  rintro s' i h' ⟨e, e2⟩
  cases e; subst e2
  unfold reg_Reg_Bytes_l1b
  rw [if_neg (by simp)]
  exact H s h' (by have := R.pb; exact this) R.slc X
theorem KeepsNil_ok {k : Bool → Heap → Prop} {nx1 : Int → Heap → Prop} {h : Heap} (H : ∀ h', Ext h.size h h' → k true h') :
    reg_Reg_Tenant none (⟨#[116]⟩ : ByteArray) (fun (r54 : S_api_Tenant × Int) h55 => ∃ (b56 : Nat) (h57 : Heap), b56 = h55.size ∧ h57 = h55.push (.cells (S_api_Tenant.cs (⟨ByteArray.empty, (⟨none, 0, 0⟩ : Slc), 0, false⟩ : S_api_Tenant)).toArray 130) ∧ (∃ h58 : Heap, WrsAt h57 (⟨b56, 0, none⟩ : Addr) 4 ∧ h58 = setsH h57 (⟨b56, 0, none⟩ : Addr) 0 (S_api_Tenant.cs r54.1) ∧ (reg_Reg_Apply none (⟨0, ByteArray.empty, 0, ([] : List Int), (⟨none, 0, 0⟩ : Slc), 0⟩ : S_api_Command) (fun (r59 : Int) h60 => if (r59 == 1) then (reg_Reg_Tenants none (fun (r73 : Slc) h74 => law25_RegKeeps_g9 none r54.2 ((r73.len : Int) == 0) k nx1 h74) h60) else (law25_RegKeeps_g9 none r54.2 false k nx1 h60)) h58))) h := by
  unfold reg_Reg_Tenant
  refine ⟨_, _, rfl, rfl, ?_⟩
  rw [if_pos (by rfl)]
  have Q := Blk.push h (S_api_Tenant.cs zT) 130
  have W := (Ext.push h (.cells (S_api_Tenant.cs zT).toArray 130) (Nat.le_refl _)).trans (Ext.sets _ (a := ⟨h.size, 0, none⟩) 0 (S_api_Tenant.cs zT) (Nat.le_refl _))
  refine ⟨_, WrsAt.of_blk Q (by rw [tcs_len]; omega), rfl, zT, ?_⟩
  have Q2 := Q.sets_all (vs := S_api_Tenant.cs zT) rfl
  show CellsAt (setsH (h.push (.cells (S_api_Tenant.cs zT).toArray 130)) ⟨h.size, 0, none⟩ 0 (S_api_Tenant.cs zT)) _ _ ∧ _
  generalize setsH (h.push (.cells (S_api_Tenant.cs zT).toArray 130)) ⟨h.size, 0, none⟩ 0 (S_api_Tenant.cs zT) = h2 at *
  have z2 := W.size
  refine ⟨Q2.part (n := 4) rfl, _, _, rfl, rfl, ?_⟩
  have Q3 := Blk.push h2 (S_api_Tenant.cs zT) 130
  have W3 := (Ext.push h2 (.cells (S_api_Tenant.cs zT).toArray 130) (Nat.le_refl _)).trans (Ext.sets _ (a := ⟨h2.size, 0, none⟩) 0 (S_api_Tenant.cs zT) (Nat.le_refl _))
  refine ⟨_, WrsAt.of_blk Q3 (by rw [tcs_len]; omega), rfl, ?_⟩
  dsimp only
  generalize setsH (h2.push (.cells (S_api_Tenant.cs zT).toArray 130)) ⟨h2.size, 0, none⟩ 0 (S_api_Tenant.cs zT) = h3 at *
  have X3 : Ext h.size h h3 := W.trans (W3.mono z2)
  have z3 := X3.size
  unfold reg_Reg_Apply
  refine ⟨_, _, rfl, rfl, ?_⟩
  rw [if_pos (by rfl)]
  have W4 := Ext.push h3 (.cells (S_api_Command.cs (⟨0, ByteArray.empty, 0, ([] : List Int), (⟨none, 0, 0⟩ : Slc), 0⟩ : S_api_Command)).toArray 32) (Nat.le_refl _)
  generalize h3.push (.cells (S_api_Command.cs (⟨0, ByteArray.empty, 0, ([] : List Int), (⟨none, 0, 0⟩ : Slc), 0⟩ : S_api_Command)).toArray 32) = h4 at *
  have X4 : Ext h.size h h4 := X3.trans (W4.mono z3)
  have z4 := X4.size
  unfold reg_Reg_Apply_g1
  rw [if_pos rfl]
  dsimp only
  rw [if_pos (by decide)]
  refine Tenants_nil ?_
  unfold law25_RegKeeps_g9
  rw [if_pos (by decide)]
  unfold reg_Reg_Epoch
  rw [if_pos (by rfl)]
  unfold law25_RegKeeps_g10
  dsimp only
  rw [if_pos (by decide)]
  unfold reg_Reg_Copy
  rw [if_pos (by rfl)]
  unfold law25_RegKeeps_g11
  dsimp only
  rw [if_pos (by rfl)]
  refine BytesNil_ok fun s h5 sl S X5 => ?_
  have z5 := X5.size
  refine ⟨_, _, rfl, rfl, ?_⟩
  have B := Blk.push h5 [.int .u8 0] 5
  have W6 := Ext.push h5 (.cells ([.int .u8 0] : List Value).toArray 5) (Nat.le_refl _)
  generalize h5.push (.cells ([.int .u8 0] : List Value).toArray 5) = h6 at *
  have X6 : Ext h.size h h6 := X4.trans ((X5.trans (W6.mono z5)).mono z4)
  refine Same_ok (l := [0]) (m := [0]) (S.ext W6) sl (SlcAt.of_blk (ys := []) B) rfl (by decide) ?_
  rw [show decide (([0] : List Int) = [0]) = true from rfl]
  unfold law25_RegKeeps_g12
  rw [if_pos rfl]
  refine awake25_ok fun h7 X7 => ?_
  unfold law25_RegKeeps_g13
  exact H h7 (X6.trans (X7.mono X6.size))
theorem Keeps_ok {W : Heap} {s : Slc} {l : List (S_api_Command × List Int)} {k : Bool → Heap → Prop} (S : Cmds W s l) (H : ∀ h', Ext W.size W h' → k true h') : law25_RegKeeps s k W := by
  have n1 := S.len
  have m1 : s.len ≤ 9223372036854775807 := S.2.2
  unfold law25_RegKeeps
  refine G25_ok (N := 30) S (by omega) fun r1 hr1 => ?_
  cases r1 with
  | true => rw [if_pos rfl]; exact awake25_ok fun h' X => H h' X
  | false =>
  rw [if_neg (by simp)]
  obtain ⟨ll, sm⟩ := hr1 rfl
  refine New_ok fun r m h2 R2 r0 m0 X2 => ?_
  unfold law25_RegKeeps_l1
  refine ⟨fun i h' => 0 ≤ i ∧ i ≤ l.length ∧ Ext W.size W h' ∧ ∃ L, RegAt i.toNat h' r m L ∧ (∀ p ∈ L, p.1.size ≤ 100) ∧ ∀ n t, mget (absL L) n = some t → KI t, fun i _ => (l.length - i).toNat,
    ⟨by omega, by omega, X2, [], R2, by simp, fun n t ht => by cases ht⟩, ?_⟩
  rintro i h3 ⟨i0, i1, X3, L, R, nm, KL⟩
  have z3 := X3.size
  unfold law25_RegKeeps_l1b
  by_cases hi : i < l.length
  · rw [if_pos (by rw [decide_eq_true_eq]; omega)]
    have hx : l[i.toNat]? = some (l[i.toNat]'(by omega)) := by simp
    generalize l[i.toNat]'(by omega) = p at *
    obtain ⟨sp, sw⟩ := sm p (List.mem_of_getElem? hx)
    refine Tenants_ok R (fun p hp => Nat.le_trans (nm p hp) (by omega)) fun s7 h8 T7 X8 => ?_
    have z8 := X8.size
    have R8 := R.ext X8
    refine Copy_ok R8 fun r9 m9 h10 C10 m9l X10 => ?_
    have z10 := X10.size
    have R10 := R8.ext X10
    have ml := R8.mlt
    have X010 : Ext W.size W h10 := X3.trans ((X8.trans (X10.mono z8)).mono z3)
    obtain ⟨ad, had, C, K⟩ := S.at X010 hx
    refine ⟨ad, had, i0, by omega, p.1, C, Apply2_ok R10 (by omega) K (by omega) (by omega) fun L' h14 R' eL mL U14 => ?_⟩
    have C14 := C10.other R10.map (by omega) U14
    have X014 := X010.trans (U14.ext m0 (by omega))
    have z14 := U14.size
    have T714 : TenAt h14 s7 (tenL (absL L)) := (T7.ext X10).mp fun g hg hm => U14.block g hg fun e => by
      obtain ⟨es, ck, h⟩ := R10.map
      exact hm es ck (e ▸ h)
    refine Tenants_ok C14 (fun p hp => Nat.le_trans (nm p hp) (by omega)) fun s15 h16 T15 X16 => ?_
    have z16 := X16.size
    have ln : (tenL (absL L)).length ≤ 1000000 := by
      have := R.n
      rw [tenL_len, absL_len]; omega
    refine STenants_ok T15 (T714.ext X16) ln R.kl fun h18 X18 => ?_
    rw [if_neg (by simp)]
    have X1418 := X16.trans (X18.mono z16)
    have nm' : ∀ p ∈ L', p.1.size ≤ 100 := fun q hq => by
      rcases mL q hq with h | h
      · exact nm q h
      · rw [h]; omega
    obtain ⟨k1, k2⟩ := step_keep (wr := p.2) K.ep KL
    rw [← eL] at k1 k2
    refine Tenants_ok (R'.ext X1418) (fun p hp => Nat.le_trans (nm' p hp) (by omega)) fun s19 h20 T19 X20 => ?_
    have X1420 := X1418.trans (X20.mono X1418.size)
    have ln' : (tenL (absL L')).length ≤ 1000000 := by
      have := R'.n
      rw [tenL_len, absL_len]; omega
    refine K2_ok (T714.ext X1420) T19 ln ln' R'.kl (by omega) (fun y hy => k1 _ _ (tenL_mem hy)) (fun x hx y hy e => ?_) (fun x hx => ?_) fun h21 X21 => ?_
    · obtain ⟨t', h1, h2, h3⟩ := k2 _ _ (tenL_mem hx)
      have h4 := tenL_mem hy
      rw [e, h1] at h4
      cases h4
      exact ⟨h2, h3⟩
    · obtain ⟨t', h1, _⟩ := k2 _ _ (tenL_mem hx)
      exact ⟨_, tenL_of h1, rfl⟩
    · have X1421 := X1420.trans (X21.mono X1420.size)
      have z014 := X014.size
      dsimp only
      rw [show (i + 1).toNat = i.toNat + 1 from by omega]
      exact ⟨⟨by omega, by omega, X014.trans (X1421.mono z014), L', R'.ext X1421, nm', k1⟩, by omega⟩
  · rw [if_neg (by rw [decide_eq_true_eq]; omega)]
    exact KeepsNil_ok fun h' X' => H h' (X3.trans (X'.mono z3))
theorem Keeps_all {W : Heap} {s : Slc} {ys : List S_api_Command} {k : Bool → Heap → Prop} (L : LsAt S_api_Command.cs 17 W s ys) (hm : s.len ≤ maxLen) (o : ∀ y ∈ ys, Ok_S_api_Command W y)
    (H : ∀ h', Ext W.size W h' → k true h') : law25_RegKeeps s k W := by
  obtain ⟨l, S⟩ := Cmds.of L hm o
  exact Keeps_ok S H
end Go.Q.Yb
