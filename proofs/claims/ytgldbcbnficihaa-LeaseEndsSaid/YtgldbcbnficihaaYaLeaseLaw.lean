/- A part of the proof of statements of this seat: lemmas, no statement of their own. -/
import Derived.Test.YtgldbcbnficihaaYaLease
import Derived.Test.YtgldbcbnficihaaQArg
set_option linter.unusedVariables false
set_option linter.unusedSimpArgs false
namespace Go.Q.Ya
/-- a lease at block b -/
def Lz (h : Heap) (b : Nat) (nd nx bd : Int) : Prop := Blk h b [.int .u16 nd, .int .u64 nx, .int .u64 bd] 83
def mn (p : Int) : Int := if 4611686018427387904 < p then 4611686018427387904 else p
theorem New_ok {p0 p1 : Int} {k : Option Addr → Heap → Prop} {h : Heap} (H : ∀ h', Lz h' h.size p0 (mn p1) (mn p1) → h'.size = h.size + 1 → Ext h.size h h' → k (some ⟨h.size, 0, none⟩) h') : lease_New p0 p1 k h :=
  ⟨_, rfl, _, _, rfl, rfl, H _ (Blk.push _ _ _) (by simp) (Ext.push _ _ (Nat.le_refl _))⟩
theorem Wants_ok {b : Nat} {nd nx bd p1 : Int} {k : Int × Int → Heap → Prop} {h : Heap} (L : Lz h b nd nx bd) (h0 : 0 ≤ bd) (h1 : bd ≤ 4611686018427387904) (h2 : 0 ≤ p1)
    (H : if 4611686018427387904 - bd < p1 then k (0, 12) h else k (bd + p1, 0) h) : lease_Lease_Wants (some ⟨b, 0, none⟩) p1 k h := by
  unfold lease_Lease_Wants
  simp only [Option.isNone_some, Bool.false_eq_true, if_false]
  refine ⟨_, rfl, bd, by simp [L.cell], ?_⟩
  rw [wrapU64 (by omega) (by omega)]
  split at H
  · rw [if_pos (by simp; omega)]; exact H
  · rw [if_neg (by simp; omega)]
    exact ⟨bd, by simp [L.cell], _, rfl, by rw [wrapU64 (by omega) (by omega)]; exact H⟩
theorem Grant_ok {b : Nat} {nd nx bd p1 : Int} {k : Int → Heap → Prop} {h : Heap} (L : Lz h b nd nx bd) (h0 : bd ≤ p1) (h1 : p1 ≤ 4611686018427387904)
    (H : ∀ h', Lz h' b nd nx p1 → h'.size = h.size → Ext b h h' → k 0 h') : lease_Lease_Grant (some ⟨b, 0, none⟩) p1 k h := by
  unfold lease_Lease_Grant
  simp only [Option.isNone_some, Bool.false_eq_true, if_false]
  refine ⟨_, rfl, bd, by simp [L.cell], ?_⟩
  rw [if_neg (by simp; omega), if_neg (by simp; omega)]
  refine ⟨_, by simpa using L.wr (by simp), rfl, H _ ?_ setH_size (Ext.set _ _ (by simp))⟩
  have := Blk.set (i := 2) (v := .int .u64 p1) L
  simpa [Lz] using this
theorem Take_ok {b : Nat} {nd nx bd : Int} {k : Int × Int → Heap → Prop} {h : Heap} (L : Lz h b nd nx bd) (h0 : 0 ≤ nx) (h1 : bd ≤ 4611686018427387904)
    (H1 : nx < bd → ∀ h', Lz h' b nd (nx + 1) bd → h'.size = h.size → Ext b h h' → (∀ i, i ≠ b → h'[i]? = h[i]?) → k (nx, 0) h')
    (H2 : bd ≤ nx → bd = 4611686018427387904 → k (0, 12) h) (H3 : bd ≤ nx → bd ≠ 4611686018427387904 → k (0, 14) h) : lease_Lease_Take (some ⟨b, 0, none⟩) k h := by
  unfold lease_Lease_Take
  simp only [Option.isNone_some, Bool.false_eq_true, if_false]
  refine ⟨_, rfl, nx, by simp [L.cell], bd, by simp [L.cell], ?_⟩
  by_cases hlt : nx < bd
  · rw [if_pos (by simpa using hlt)]
    have S := Blk.set (i := 1) (v := .int .u64 (nx + 1)) L
    refine ⟨nx, by simp [L.cell], _, by simpa using L.wr (by simp), rfl, nx + 1, ?_, _, rfl, ?_⟩
    · rw [wrapU64 (by omega) (by omega)]
      simp [S.cell]
    · rw [wrapU64 (by omega) (by omega), wrapU64 (by omega) (by omega)]
      rw [show nx + 1 - 1 = nx from by omega]
      exact H1 hlt _ (by simpa [Lz] using S) setH_size (Ext.set _ _ (by simp)) (fun i hi => setH_other (by simpa using hi))
  · rw [if_neg (by simpa using hlt)]
    refine ⟨bd, by simp [L.cell], ?_⟩
    by_cases hc : bd = 4611686018427387904
    · rw [if_pos (by simpa using hc)]; exact H2 (by omega) hc
    · rw [if_neg (by simpa using hc)]; exact H3 (by omega) hc
theorem awake12 {k : Bool → Heap → Prop} {h : Heap} (H : ∀ h', Ext h.size h h' → k true h') : law12_awake k h := by
  unfold law12_awake
  refine New_ok fun h1 L1 s1 x1 => ?_
  refine Grant_ok L1 (by decide) (by decide) fun h2 L2 s2 x2 => ?_
  refine Take_ok L2 (by decide) (by decide) (fun _ h3 L3 s3 x3 _ => ?_) (fun q => absurd q (by decide)) (fun q => absurd q (by decide))
  refine Take_ok L3 (by decide) (by decide) (fun _ h4 L4 s4 x4 _ => ?_) (fun q => absurd q (by decide)) (fun q => absurd q (by decide))
  refine Take_ok L4 (by decide) (by decide) (fun q => absurd q (by decide)) (fun _ q => absurd q (by decide)) (fun _ _ => ?_)
  exact H _ (x1.trans (x2.trans (x3.trans x4)))
/-! ### LeaseOnce -/
theorem j2_ok {a0 a1 : Int} {a2 a3 s : Slc} {a11 a9 : Int} {k : Bool → Heap → Prop} {nx1 : Int × Slc × Int → Heap → Prop} {h : Heap} (b0 : 0 ≤ a11) (b1 : a11 < 8) (H : nx1 (a9, s, a11 + 1) h) : law12_LeaseOnce_j2 a0 a1 a2 a3 a11 a9 s k nx1 h :=
  ⟨_, rfl, by rw [wrapI64 (by omega) (by omega)]; exact H⟩
/-- the numbers that were taken: unlike, from p on, below n -/
def Tk (p n : Int) (xs : List Int) : Prop := xs.Nodup ∧ ∀ x ∈ xs, p ≤ x ∧ x < n
theorem Tk.snoc {p n : Int} {xs : List Int} (t : Tk p n xs) (h : p ≤ n) : Tk p (n + 1) (xs ++ [n]) := by
  refine ⟨?_, fun x hx => ?_⟩
  · rw [List.nodup_append]
    refine ⟨t.1, by simp, fun a ha b hb => ?_⟩
    simp at hb; subst hb
    have := t.2 a ha; omega
  · rcases List.mem_append.1 hx with hx | hx
    · have := t.2 x hx; omega
    · simp at hx; omega
theorem Tk.mono {p n m : Int} {xs : List Int} (t : Tk p n xs) (h : n ≤ m) : Tk p m xs := ⟨t.1, fun x hx => by have := t.2 x hx; omega⟩
abbrev iv (xs : List Int) : List Value := xs.map (Value.int .u64)
/-- the search: the number is new; it is appended -/
theorem l5_ok {B : Nat} {a0 p : Int} {a2 a3 all : Slc} {bd a11 a15 nx : Int} {q : Option Addr} {k : Bool → Heap → Prop} {nx1 : Int × Slc × Int → Heap → Prop} {nx3 : Slc × Int → Heap → Prop} {h : Heap} {xs : List Int}
    (R : Row B h 23 1 all (iv xs)) (T : Tk p nx xs) (hB : B ≤ h.size) (hl : xs.length ≤ 1000) (b0 : 0 ≤ a15) (b1 : a15 < 20)
    (H : ∀ s' h', Row B h' 23 1 s' (iv (xs ++ [nx])) → h.size ≤ h'.size → (∀ i, i < h.size → all.blk ≠ some i → h'[i]? = h[i]?) → (s'.blk = all.blk ∨ ∃ g, s'.blk = some g ∧ h.size ≤ g) → nx3 (s', a15 + 1) h') :
    law12_LeaseOnce_l5 a0 p a2 a3 bd all a11 q a15 nx 0 k nx1 nx3 h := by
  have hlen : all.len = xs.length := by have := R.1; simp at this; omega
  refine ⟨fun j h' => 0 ≤ j ∧ j ≤ xs.length ∧ h' = h, fun j _ => xs.length - j.toNat, ⟨by omega, by omega, rfl⟩, ?_⟩
  rintro j h' ⟨j0, j1, rfl⟩
  unfold law12_LeaseOnce_l5b
  by_cases hj : j < xs.length
  · rw [if_pos (by simp [hlen]; omega)]
    obtain ⟨a, ha, hc⟩ := R.at (j := j.toNat) (by omega)
    have hjl : j.toNat < xs.length := by omega
    refine ⟨a, ha, j0, by omega, xs[j.toNat], by rw [Nat.mul_one, hc]; simp [hjl], ?_⟩
    have hx := T.2 _ (List.getElem_mem hjl)
    rw [if_neg (by simp; omega)]
    exact ⟨_, rfl, by rw [wrapI64 (by omega) (by omega)]; exact ⟨by omega, by omega, rfl⟩, by rw [wrapI64 (by omega) (by omega)]; show xs.length - (j + 1).toNat < xs.length - j.toNat; omega⟩
  · rw [if_neg (by simp [hlen]; omega)]
    refine ⟨_, _, rfl, rfl, ?_⟩
    refine App.row (R.pushed _) (by simp; omega) rfl rfl (by simp [Value.oneCell']) (by omega) (by simp only [maxLen]; omega) fun s' h2 R' hs hsz ho hg => ?_
    refine ⟨_, rfl, ?_⟩
    rw [wrapI64 (by omega) (by omega)]
    refine H s' h2 (by simpa using R') (by simp at hsz; omega) (fun i hi hne => ?_) ?_
    · rw [ho i (by simp; omega) hne, Array.getElem?_push, if_neg (by omega)]
    · rcases hg with hg | hg
      · exact .inl hg
      · exact .inr ⟨_, hg, by simp⟩
theorem Row.ne_blk {B b E E' w : Nat} {h : Heap} {s : Slc} {xs cs : List Value} (R : Row B h E w s xs) (L : Blk h b cs E') (hE : E ≠ E') : s.blk ≠ some b := by
  intro hb
  rcases R.2.2 with ⟨k, _⟩ | ⟨g, cur, h1, h2, h3, _⟩
  · simp [Slc.blk, k] at hb
  · simp [Slc.blk, h1] at hb
    subst hb
    have e := h3.symm.trans L
    simp at e
    exact hE e.2
/-- what holds in the loop over the numbers -/
def I3 (B b : Nat) (nd p bd : Int) (n0 : Nat) (h0 : Heap) (s : Slc × Int) (h : Heap) : Prop :=
  ∃ xs nx, Lz h b nd nx bd ∧ Row B h 23 1 s.1 (iv xs) ∧ Tk p nx xs ∧ p ≤ nx ∧ nx ≤ bd ∧ 0 ≤ s.2 ∧ s.2 ≤ 20 ∧ xs.length ≤ n0 + s.2.toNat ∧ Ext B h0 h
theorem l3_ok {B b n0 : Nat} {a0 p nd : Int} {a2 a3 all : Slc} {bd a11 nx : Int} {k : Bool → Heap → Prop} {nx1 : Int × Slc × Int → Heap → Prop} {h : Heap} {xs zs : List Int}
    (L : Lz h b nd nx bd) (R : Row B h 23 1 all (iv xs)) (T : Tk p nx xs) (c0 : 0 ≤ p) (c1 : p ≤ nx) (c2 : nx ≤ bd) (c3 : bd ≤ 4611686018427387904) (hB : B ≤ b) (hl : xs.length ≤ n0) (hn : n0 ≤ 200)
    (A : ArgI .u8 B h a3 zs) (i0 : 0 ≤ a11) (i1 : a11 < 8)
    (H : ∀ s' h' xs', Row B h' 23 1 s' (iv xs') → Tk p bd xs' → xs'.length ≤ n0 + 20 → Ext B h h' → nx1 (bd, s', a11 + 1) h') :
    law12_LeaseOnce_l3 a0 p a2 a3 bd a11 (some ⟨b, 0, none⟩) all 0 k nx1 h := by
  refine ⟨I3 B b nd p bd n0 h, fun s _ => 20 - s.2.toNat, ⟨xs, nx, L, R, T, c1, c2, by simp, by simp, by omega, Ext.refl _ _⟩, ?_⟩
  rintro all a15 h1 ⟨xs, nx, L, R, T, c1, c2, d0, d1, hl, X⟩
  simp only at R d0 d1 hl
  have stop : nx1 (bd, all, a11 + 1) h1 := H _ _ _ R (T.mono c2) (by omega) X
  unfold law12_LeaseOnce_l3b
  by_cases hi : a11 < a3.len
  · rw [if_pos (by simpa using hi)]
    have hlen := A.1
    obtain ⟨x, hx, hc⟩ := (A.ext X).get (i := a11.toNat) (by omega)
    have hw := wf_u8 (A.2.1 (zs.getD a11.toNat 0) (by rw [List.getD_eq_getElem?_getD, List.getElem?_eq_getElem (by omega)]; exact List.getElem_mem _))
    refine ⟨x, hx, i0, hi, _, by rw [Nat.mul_one]; exact hc, ?_⟩
    have hm : Int.tmod (zs.getD a11.toNat 0) 20 = (zs.getD a11.toNat 0) % 20 := Int.tmod_eq_emod_of_nonneg (by omega)
    rw [hm, wrapI64 (by omega) (by omega)]
    unfold law12_LeaseOnce_g4
    by_cases hk : a15 < (zs.getD a11.toNat 0) % 20
    · rw [if_pos (by simpa using hk)]
      refine Take_ok L (by omega) c3 (fun hlt h2 L2 s2 x2 o2 => ?_) (fun _ _ => ?_) (fun _ _ => ?_)
      · rw [if_neg (by simp), if_neg (by simp; omega)]
        have hne := Row.ne_blk R L (by decide)
        have R2 : Row B h2 23 1 all (iv xs) := R.keep fun g hg => o2 g (fun e => hne (by rw [hg, e]))
        have hBh : B ≤ h2.size := by have := L2.lt; omega
        refine l5_ok R2 T hBh (by omega) d0 (by omega) fun s' h3 R3 s3 o3 g3 => ?_
        have hne2 := Row.ne_blk R2 L2 (by decide)
        have L3 : Lz h3 b nd (nx + 1) bd := Blk.old L2 (o3 b L2.lt hne2)
        have X3 : Ext B h2 h3 := ⟨s3, fun i hi' => o3 i (by omega) (fun e => by have := (R2.bd e).1; omega)⟩
        refine ⟨⟨xs ++ [nx], nx + 1, L3, R3, T.snoc c1, by omega, by omega, by simp; omega, by simp; omega, by simp; omega, X.trans ((x2.mono hB).trans X3)⟩, ?_⟩
        show 20 - (a15 + 1).toNat < 20 - a15.toNat
        omega
      · rw [if_pos (by simp)]; exact j2_ok i0 i1 stop
      · rw [if_pos (by simp)]; exact j2_ok i0 i1 stop
    · rw [if_neg (by simpa using hk)]
      exact j2_ok i0 i1 stop
  · rw [if_neg (by simpa using hi)]
    unfold law12_LeaseOnce_g4
    rw [if_neg (by simp)]
    exact j2_ok i0 i1 stop
def I1 (B : Nat) (p : Int) (n : Nat) (h0 : Heap) (s : Int × Slc × Int) (h : Heap) : Prop :=
  ∃ xs, Row B h 23 1 s.2.1 (iv xs) ∧ Tk p s.1 xs ∧ p ≤ s.1 ∧ s.1 ≤ p + 255 * s.2.2 ∧ 0 ≤ s.2.2 ∧ s.2.2 ≤ n ∧ xs.length ≤ 20 * s.2.2.toNat ∧ Ext B h0 h
theorem LeaseOnce_ok {p0 p1 : Int} {p2 p3 : Slc} {z2 z3 : List Int} {h : Heap} (c0 : 0 ≤ p1) (A2 : ArgI .u8 h.size h p2 z2) (A3 : ArgI .u8 h.size h p3 z3) :
    law12_LeaseOnce p0 p1 p2 p3 (fun r h' => r = true ∧ Ext h.size h h') h := by
  unfold law12_LeaseOnce
  split
  · exact awake12 fun h' x => ⟨rfl, x⟩
  · rename_i hc
    simp only [Bool.or_eq_true, decide_eq_true_eq, not_or, Int.not_lt, gt_iff_lt] at hc
    obtain ⟨⟨c1, c2⟩, c3⟩ := hc
    refine ⟨I1 h.size p1 p2.len h, fun s _ => p2.len - s.2.2.toNat, ⟨[], Row.nil _ _ _ _, ⟨by simp, by simp⟩, by simp, by simp, by simp, by simp, by simp, Ext.refl _ _⟩, ?_⟩
    rintro bd all i h1 ⟨xs, R, T, b0, b1, i0, i1, hl, X⟩
    simp only at R T b0 b1 i0 i1 hl
    unfold law12_LeaseOnce_l1b
    by_cases hi : i < p2.len
    · rw [if_pos (by simpa using hi)]
      have hBh := X.size
      refine New_ok fun h2 L2 s2 x2 => ?_
      have hmn : mn bd = bd := by unfold mn; rw [if_neg (by omega)]
      rw [hmn] at L2
      have X2 := X.trans (x2.mono hBh)
      have hlen := A2.1
      obtain ⟨x, hx, hc⟩ := (A2.ext X2).get (i := i.toNat) (by omega)
      have hw := wf_u8 (A2.2.1 (z2.getD i.toNat 0) (by rw [List.getD_eq_getElem?_getD, List.getElem?_eq_getElem (by omega)]; exact List.getElem_mem _))
      refine ⟨x, hx, i0, hi, _, by rw [Nat.mul_one]; exact hc, ?_⟩
      rw [wrapU64 (by omega) (by omega)]
      refine Wants_ok L2 (by omega) (by omega) (by omega) ?_
      rw [if_neg (by omega), if_neg (by simp)]
      refine Grant_ok L2 (by omega) (by omega) fun h3 L3 s3 x3 => ?_
      rw [if_neg (by simp)]
      have X3 := X2.trans (x3.mono (by omega))
      have R3 : Row h.size h3 23 1 all (iv xs) := by
        refine R.keep fun g hg => ?_
        have := (R.bd hg).2
        rw [x3.block g (by omega), x2.block g (by omega)]
      refine l3_ok (n0 := 20 * i.toNat) L3 R3 T c0 b0 (by omega) (by omega) (by omega) (by omega) (by omega) (A3.ext X3) i0 (by omega) fun s' h4 xs' R4 T4 l4 x4 => ?_
      refine ⟨⟨xs', R4, T4, by dsimp only; omega, by dsimp only; omega, by dsimp only; omega, by dsimp only; omega, by dsimp only; omega, X3.trans x4⟩, ?_⟩
      show p2.len - (i + 1).toNat < p2.len - i.toNat
      omega
    · rw [if_neg (by simpa using hi)]
      exact awake12 fun h' x => ⟨rfl, X.trans (x.mono X.size)⟩
end Go.Q.Ya
