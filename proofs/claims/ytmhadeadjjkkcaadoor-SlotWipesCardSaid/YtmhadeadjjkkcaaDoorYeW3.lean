/- A part of the proof of statements of this seat: lemmas, no statement of their own. -/
import Derived.Test.YtmhadeadjjkkcaaDoorYeW2
import Derived.Test.YtmhadeadjjkkcaaDoorYeFj
set_option linter.unusedVariables false
set_option linter.unusedSimpArgs false
set_option maxRecDepth 100000
/- Slot: SlotWhole walked. -/
namespace Go.Q.Ye
theorem Addr.add_zero' (a : Addr) : a.add 0 = a := by unfold Addr.add; split <;> simp_all
/-- rows of bytes that came in -/
structure Rws (h : Heap) (s : Slc) (bss : List (List Int)) (ys : List Slc) : Prop where
  ly : s.len = ys.length
  lb : ys.length = bss.length
  at' : ∀ (i : Nat) y, ys[i]? = some y → ∃ a, s.a = some a ∧ cellH h (a.add (i * 1)) = some (Slc.v y)
  row : ∀ (i : Nat) y bs, ys[i]? = some y → bss[i]? = some bs → SlcAt h y (b8 bs) ∧ y.len = bs.length ∧ y.len ≤ y.cap ∧ isB bs
theorem isB_wf {zs : List Int} (h : ∀ n ∈ zs, (Lit.int .u8 n).wf = true) : isB zs := fun b hb => wf_u8 (h b hb)
theorem Rws.get {h : Heap} {s : Slc} {bss : List (List Int)} {ys : List Slc} (R : Rws h s bss ys) {i : Int} (i0 : 0 ≤ i) (i1 : i < s.len) : ∃ y bs a, ys[i.toNat]? = some y ∧ bss[i.toNat]? = some bs ∧ s.a = some a ∧ cellH h (a.add (i.toNat * 1)) = some (Slc.v y) ∧ SlcAt h y (b8 bs) ∧ y.len = bs.length ∧ y.len ≤ y.cap ∧ isB bs := by
  have := R.ly; have := R.lb
  have h1 : i.toNat < ys.length := by omega
  have h2 : i.toNat < bss.length := by omega
  have e1 := List.getElem?_eq_getElem h1
  have e2 := List.getElem?_eq_getElem h2
  obtain ⟨a, ha, hc⟩ := R.at' _ _ e1
  exact ⟨_, _, a, e1, e2, ha, hc, R.row _ _ _ e1 e2⟩
/-- what is held of the pair between two rounds -/
structure Held (hb : Heap) (d rn rs pr : Nat) (last : Slc) (so : Bool) (i : Int) (h : Heap) (X : DK) (c : Nat) (slot : Int) : Prop where
  E : Ext hb.size hb h
  D : DAt hb.size c h d rn rs X
  P : PairAt h pr d 0 6
  g : GoodX X
  sf : X.safe = []
  fu : X.fuse = 0
  dd : X.dead = false
  gr : grD X 0 12 ≤ i
  c : (c : Int) ≤ 700 * i
  b : BP X 0 6 slot
  so : (slot = -1 ∧ so = false) ∨ (0 ≤ slot ∧ so = true ∧ SlcAt h last (b8 (outW X (0 + slot * 6))) ∧ last.len = (outW X (0 + slot * 6)).length ∧ ∀ a, last.a = some a → a.block ≠ d)
theorem good_eq {X Y : DK} (hn : Y.now = X.now) (hs : Y.safe = X.safe) (g : GoodX X) : GoodX Y := by unfold GoodX at *; rw [hn, hs]; exact g
theorem rd_now {X Y : DK} (hn : Y.now = X.now) (p : Int) : readD Y p = readD X p := by unfold readD; rw [hn]
theorem ext_le {X : DK} {l : List Int} {n : Int} (h : GoodX X) (p : Int) (e : (fst1 X p).f_size ≤ n) (n0 : 0 ≤ n) : ((outW X p).length : Int) ≤ n := by
  unfold outW; rw [List.length_take]; omega
theorem out_le {X : DK} (g : GoodX X) (p : Int) : (outW X p).length ≤ 4294967296 := by
  have := (hd_bd g p).2.1
  unfold outW; rw [List.length_take]; omega
theorem g6_ok {t0 t1 t2 t11 t17 : Slc} {t8 t9 : Option Addr} {t12 : Bool} {i : Int} {dead old next : Bool} {e : Int} {k : Bool → Heap → Prop} {nx1 : Int → Heap → Prop} {nx2 : (Slc × Bool × Int) → Heap → Prop} {h : Heap}
    (hok : next = true ∨ (dead = true ∧ old = true)) (i0 : -1000 ≤ i ∧ i ≤ 1000) (H0 : e = 0 → nx2 (t17, true, i + 1) h) (H1 : e ≠ 0 → nx2 (t11, t12, i + 1) h) : law10_SlotWhole_g6 t0 t1 t2 t8 t9 t11 t12 i dead t17 e old next k nx1 nx2 h := by
  unfold law10_SlotWhole_g6
  rw [if_neg (by rcases hok with h | ⟨h1, h2⟩ <;> simp_all)]
  by_cases q : e = 0
  · rw [if_pos (by simpa using q)]
    unfold law10_SlotWhole_j3
    rw [wrapI64 (by omega) (by omega)]
    exact ⟨_, rfl, H0 q⟩
  · rw [if_neg (by simpa using q)]
    unfold law10_SlotWhole_j3
    rw [wrapI64 (by omega) (by omega)]
    exact ⟨_, rfl, H1 q⟩
theorem j4_ok {hb h : Heap} {d rn rs pr c : Nat} {p0 p1 p2 last : Slc} {bss : List (List Int)} {ys : List Slc} {ft : List Int} {so : Bool} {i : Int} {X : DK} {slot : Int} {k : Bool → Heap → Prop} {nx1 : Int → Heap → Prop} {nx2 : (Slc × Bool × Int) → Heap → Prop}
    (r : R0 hb) (R : Rws hb p0 bss ys) (i0 : 0 ≤ i) (i1 : i < p0.len) (i8 : i < 8) (sh : ∀ (j : Nat) bs, bss[j]? = some bs → bs.length ≤ 600) (F2 : SlcAt hb p2 (b8 ft)) (l2 : p2.len = ft.length)
    (E : Ext hb.size hb h) (D : DAt hb.size c h d rn rs X) (P : PairAt h pr d 0 6) (g : GoodX X) (sf : X.safe = []) (dd : X.dead = false) (gr : grD X 0 12 ≤ i) (cl : (c : Int) ≤ 700 * i) (b : BP X 0 6 slot)
    (hso : (slot = -1 ∧ so = false) ∨ (0 ≤ slot ∧ so = true ∧ SlcAt h last (b8 (outW X (0 + slot * 6))) ∧ last.len = (outW X (0 + slot * 6)).length ∧ ∀ a, last.a = some a → a.block ≠ d))
    (H : ∀ last' so' X' c' slot' h', Held hb d rn rs pr last' so' (i + 1) h' X' c' slot' → nx2 (last', so', i + 1) h') : law10_SlotWhole_j4 p0 p1 p2 (some ⟨d, 0, none⟩) (some ⟨pr, 0, none⟩) last so i k nx1 nx2 h := by
  have r0 := r.pos
  unfold law10_SlotWhole_j4
  obtain ⟨y, bs, a, ey, eb, ha, hc, S, yl, yc, bB⟩ := R.get i0 i1
  have bl := sh _ _ eb
  have gn := gr_nn g 0 12
  refine ⟨a, ha, i0, i1, y, (E.cellAt hc), ?_⟩
  have hz : ∀ h', DF d rn rs h h' → Ext hb.size hb h' := fun h' F' => E.trans (F'.ext D E.size)
  refine Save_ok (bs := bs) D P (r.ext E r0) g (by omega) (by omega) (fun h' F' => S.ext (hz h' F')) yl yc (by omega) fun rr Y c1 h1 L c1l D1 F1 => ?_
  have E1 := hz h1 F1
  have P1 := P.df D F1
  refine DDead_ok D1 ?_
  rcases L with ⟨q, _⟩ | ⟨_, q, _⟩ | ⟨_, _, s', t, bp, et, el⟩
  · exfalso; unfold prtD at q; split at q <;> omega
  · exfalso; rw [show ((2 : Int) * 6).toNat = 12 from rfl] at q; omega
  rw [show ((2 : Int) * 6).toNat = 12 from rfl] at el
  rw [bp_uniq bp b] at et
  rw [show toN 6 bs false = (prtD bs.length).toNat from by unfold toN; rw [if_neg (by simp)]] at el
  obtain ⟨st, rr2⟩ := round_ok (fs := ft) g sf dd bB bl (by omega) b et el
  rw [if_neg (by rcases st with ⟨a1, a2⟩ | ⟨a1, a2⟩ <;> simp [a1, a2])]
  have Fp2 : SlcAt h1 p2 (b8 ft) := F2.ext E1
  refine DBoot_ok (fs := ft) D1 Fp2 l2 (fun h' F' => F2.ext (E1.trans (F'.ext D1 E1.size))) (by omega) fun h2 D2 F2' => ?_
  have E2 := E1.trans (F2'.ext D1 E1.size)
  have P2 := P1.df D1 F2'
  refine Load_ok D2 P2 (r.ext E2 r0) rr2.good (by omega) (by omega) fun s sl n h3 bz X3 => ?_
  have E3 := E2.trans (X3.mono E2.size)
  have D3 := D2.ext X3
  have P3 : PairAt h3 pr d 0 6 := Blk.ext P2 X3 P2.lt
  have out := rr2.out s bz.bp
  have ob := out_le rr2.good
  have Hd : ∀ last' so' s', BP (bootD Y ft) 0 6 s' → ((s' = -1 ∧ so' = false) ∨ (0 ≤ s' ∧ so' = true ∧ SlcAt h3 last' (b8 (outW (bootD Y ft) (0 + s' * 6))) ∧ last'.len = (outW (bootD Y ft) (0 + s' * 6)).length ∧ ∀ a, last'.a = some a → a.block ≠ d)) → nx2 (last', so', i + 1) h3 := fun last' so' s' b' hs' =>
    H last' so' _ c1 s' h3 ⟨E3, D3, P3, rr2.good, rr2.safe, rr2.fuse, rr2.dead, by have := rr2.gr; omega, by omega, b', hs'⟩
  by_cases s0 : 0 ≤ s
  · -- something is loaded
    rw [show (if s < 0 then ((⟨none, 0, 0⟩ : Slc), (0 : Int), (6 : Int)) else (sl, n, 0)) = (sl, n, 0) from if_neg (by omega)]
    obtain ⟨T, ef⟩ : ToldW h2 h3 (bootD Y ft) 0 6 s sl n ∧ (0 ≤ s ∧ s ≤ 1) := by
      rcases bz with ⟨e, _⟩ | ⟨e, T, _⟩ | ⟨e, T, _⟩
      · omega
      · rw [e]; exact ⟨T, by omega⟩
      · rw [e]; exact ⟨T, by omega⟩
    have nd : ∀ a, sl.a = some a → a.block ≠ d := fun a ha => by
      have := T.f a ha
      have := D2.P.lt
      omega
    have last' : so = true → 0 ≤ slot ∧ SlcAt h3 last (b8 (outW X (0 + slot * 6))) ∧ last.len = (outW X (0 + slot * 6)).length := fun e => by
      rcases hso with ⟨_, h⟩ | ⟨h0, _, S1, l1, n1⟩
      · rw [e] at h; cases h
      · exact ⟨h0, (SlcAt.df (SlcAt.df S1 D F1 n1) D1 F2' n1).ext X3, l1⟩
    have fin : ∀ old : Bool, (so = true → old = decide (outW (bootD Y ft) (0 + s * 6) = outW X (0 + slot * 6))) → law10_SlotWhole_g5 p0 p1 p2 (some ⟨d, 0, none⟩) (some ⟨pr, 0, none⟩) last so i Y.dead sl 0 old k nx1 nx2 h3 := fun old ho => by
      unfold law10_SlotWhole_g5
      rw [if_pos (by simp)]
      refine ⟨a, ha, i0, i1, y, E3.cellAt hc, DSame_ok T.S T.l (S.ext E3) yl (by have := ob (0 + s * 6); omega) ?_⟩
      refine g6_ok ?_ (by omega) (fun _ => Hd sl true s bz.bp (.inr ⟨s0, rfl, T.S, T.l, nd⟩)) (fun e => absurd rfl e)
      rcases out with ⟨_, h⟩ | ⟨_, h, _⟩ | ⟨hd, _, h2, h3⟩
      · left; rw [decide_eq_true_eq]; exact h
      · omega
      · right
        refine ⟨hd, ?_⟩
        have sot : so = true := by
          rcases hso with ⟨h, _⟩ | ⟨_, h, _⟩
          · omega
          · exact h
        rw [ho sot, decide_eq_true (h3.trans (by rw [h2]))]; rfl
    cases hs : so with
    | true =>
      rw [hs] at fin last'
      obtain ⟨h0, S1, l1⟩ := last' rfl
      rw [if_pos (by simp)]
      exact DSame_ok T.S T.l S1 l1 (by have := ob (0 + s * 6); omega) (fin _ fun _ => rfl)
    | false =>
      rw [hs] at fin
      rw [if_neg (by simp)]
      exact fin _ fun e => by cases e
  · rw [show (if s < 0 then ((⟨none, 0, 0⟩ : Slc), (0 : Int), (6 : Int)) else (sl, n, 0)) = (⟨none, 0, 0⟩, 0, 6) from if_pos (by omega)]
    rcases out with ⟨h, _⟩ | ⟨hd, h1, h2⟩ | ⟨_, h, _⟩
    · omega
    · have sof : so = false := by
        rcases hso with ⟨_, h⟩ | ⟨h, _⟩
        · exact h
        · omega
      subst sof
      rw [if_neg (by simp)]
      unfold law10_SlotWhole_g5
      rw [if_neg (by decide)]
      refine g6_ok (.inr ⟨hd, by simp⟩) (by omega) (fun e => absurd e (by decide)) fun _ => ?_
      exact Hd last false s bz.bp (.inl ⟨h1, rfl⟩)
    · omega
theorem WholeL_ok {hb : Heap} {p0 p1 p2 : Slc} {bss : List (List Int)} {ys : List Slc} {fl ft : List Int} {k : Bool → Heap → Prop} (r : R0 hb) (R : Rws hb p0 bss ys) (F1 : SlcAt hb p1 (b8 fl)) (l1 : p1.len = fl.length) (b1 : isB fl) (F2 : SlcAt hb p2 (b8 ft)) (l2 : p2.len = ft.length)
    (H : ∀ h', Ext hb.size hb h' → k true h') : law10_SlotWhole p0 p1 p2 k hb := by
  have r0 := r.pos
  have aw : ∀ h', Ext hb.size hb h' → law10_awake (fun r5 h6 => k r5 h6) h' := fun h' X => awake10_ok (r.ext X r0) fun h2 X2 => H h2 (X.trans (X2.mono X.size))
  unfold law10_SlotWhole
  by_cases sz : p0.len ≤ 8 ∧ p1.len ≤ 8 ∧ p2.len ≤ 20
  rotate_left
  · rw [if_pos (by simp only [Bool.or_eq_true, decide_eq_true_eq]; omega)]
    exact aw hb (Ext.refl _ _)
  rw [if_neg (by simp only [Bool.or_eq_true, decide_eq_true_eq]; omega)]
  unfold law10_SlotWhole_l1
  refine ⟨fun i h' => 0 ≤ i ∧ i ≤ p0.len ∧ h' = hb ∧ ∀ (j : Nat) bs, (j : Int) < i → bss[j]? = some bs → bs.length ≤ 600, fun i _ => ((p0.len : Int) - i).toNat, ⟨by omega, by omega, rfl, fun j bs hj => by omega⟩, ?_⟩
  rintro i h' ⟨i0, i1, eh, sh⟩
  subst h'
  unfold law10_SlotWhole_l1b
  by_cases ci : i < p0.len
  · rw [if_pos (by rw [decide_eq_true_eq]; exact ci)]
    obtain ⟨y, bs, a, ey, eb, ha, hc, S, yl, yc, bB⟩ := R.get i0 ci
    refine ⟨a, ha, i0, ci, y, hc, ?_⟩
    by_cases q : (y.len : Int) > 600
    · rw [if_pos (by rw [decide_eq_true_eq]; exact q)]
      exact aw _ (Ext.refl _ _)
    · rw [if_neg (by rw [decide_eq_true_eq]; exact q), wrapI64 (by omega) (by omega)]
      refine ⟨_, rfl, ⟨by omega, by omega, rfl, fun j bs' hj hb' => ?_⟩, by dsimp only; omega⟩
      by_cases e : (j : Int) < i
      · exact sh j bs' e hb'
      · have : j = i.toNat := by omega
        rw [this, eb] at hb'
        cases hb'
        omega
  rw [if_neg (by rw [decide_eq_true_eq]; exact ci)]
  have sh' : ∀ (j : Nat) bs, bss[j]? = some bs → bs.length ≤ 600 := fun j bs hb' => by
    have := (List.getElem?_eq_some_iff.1 hb').1
    have := R.ly; have := R.lb
    exact sh j bs (by omega) hb'
  refine DNew_ok (B := hb.size) (Nat.le_refl _) fun d rn rs h2 D2 X2 => ?_
  refine Open_ok (by omega) (by omega) (fun e => absurd e (show ¬ roomD 0 6 = false from by decide)) fun _ pr h4 P4 X4 pB => ?_
  have D4 := D2.ext X4
  have X04 := X2.trans (X4.mono X2.size)
  unfold law10_SlotWhole_l2
  have nw : ∀ u : Int, ¬ IsW X0 0 6 u := fun u => by
    by_cases q : 0 ≤ u * 6 ∧ u * 6 < 1024
    · exact not_whole (.inr (by rw [rdZ (by omega) rfl]))
    · exact not_whole (.inl (by unfold readD; rw [if_pos (by omega)]; decide))
  have g0 : grD X0 0 12 ≤ 0 := gr_le (Int.le_refl _) 12 fun i hi e => by
    have : fst1 X0 (0 + i) = hdD (nrm 128 []) := by unfold fst1; rw [rdZ (by omega) rfl]
    rw [this, fn_zero]; omega
  refine ⟨fun q h' => 0 ≤ q.2.2 ∧ q.2.2 ≤ p0.len ∧ ∃ X c slot, Held hb d rn rs pr q.1 q.2.1 q.2.2 h' X c slot, fun q _ => ((p0.len : Int) - q.2.2).toNat, ⟨by dsimp only; omega, by dsimp only; omega, X0, 0, -1, X04, D4, P4, gX0, rfl, rfl, rfl, g0, by dsimp only; omega, .inl ⟨rfl, nw 0, nw 1⟩, .inl ⟨rfl, rfl⟩⟩, ?_⟩
  rintro last so j h5 ⟨j0, j1, X, c, slot, K⟩
  dsimp only at j0 j1 K
  unfold law10_SlotWhole_l2b
  by_cases cj : j < p0.len
  rotate_left
  · rw [if_neg (by rw [decide_eq_true_eq]; exact cj)]
    exact aw h5 K.E
  rw [if_pos (by rw [decide_eq_true_eq]; exact cj)]
  have Hn : ∀ last' so' X' c' slot' h', Held hb d rn rs pr last' so' (j + 1) h' X' c' slot' → (0 ≤ j + 1 ∧ j + 1 ≤ (p0.len : Int) ∧ ∃ X c slot, Held hb d rn rs pr last' so' (j + 1) h' X c slot) ∧ ((p0.len : Int) - (j + 1)).toNat < ((p0.len : Int) - j).toNat := fun last' so' X' c' slot' h' K' =>
    ⟨⟨by omega, by omega, X', c', slot', K'⟩, by omega⟩
  by_cases cf : j < p1.len
  · rw [if_pos (by rw [decide_eq_true_eq]; exact cf)]
    have hv : fl[j.toNat]? = some (fl.getD j.toNat 0) := by
      rw [List.getD_eq_getElem?_getD, List.getElem?_eq_getElem (by omega)]; rfl
    obtain ⟨a, ha, hc⟩ := slc_get F1 (i := j.toNat) (v := .int .u8 (fl.getD j.toNat 0)) (by rw [List.getElem?_map, hv]; rfl)
    refine ⟨a, ha, j0, cf, _, by rw [Nat.mul_one]; exact K.E.cellAt hc, ?_⟩
    refine DFuse_ok K.D fun h7 D7 F7 => ?_
    have nd : X.dead = false := K.dd
    have ef : ∀ n, fuseD X n = (0, { X with fuse := if 0 > n then 0 else n }) := fun n => by unfold fuseD; rw [if_neg (by rw [nd]; simp)]
    rw [ef] at D7
    generalize (if 0 > IntKind.i64.wrap (Int.tmod (fl.getD j.toNat 0) 10) then (0 : Int) else IntKind.i64.wrap (Int.tmod (fl.getD j.toNat 0) 10)) = nf at D7
    have rd : ∀ p, readD ({ X with fuse := nf } : DK) p = readD X p := rd_now rfl
    have eo : ∀ p, outW ({ X with fuse := nf } : DK) p = outW X p := fun p => by unfold outW fst1 catW; simp only [rd]
    refine j4_ok r R j0 cj (by omega) sh' F2 l2 (K.E.trans (F7.ext K.D K.E.size)) D7 (K.P.df K.D F7) (good_eq rfl rfl K.g) K.sf K.dd (by rw [gr_cong rd]; exact K.gr) K.c (bp_cong rd K.b) ?_ Hn
    rcases K.so with h | ⟨h0, h1, h2, h3, h4⟩
    · exact .inl h
    · exact .inr ⟨h0, h1, by rw [eo]; exact SlcAt.df h2 K.D F7 h4, by rw [eo]; exact h3, h4⟩
  · rw [if_neg (by rw [decide_eq_true_eq]; exact cf)]
    exact j4_ok r R j0 cj (by omega) sh' F2 l2 K.E K.D K.P K.g K.sf K.dd K.gr K.c K.b K.so Hn
end Go.Q.Ye
