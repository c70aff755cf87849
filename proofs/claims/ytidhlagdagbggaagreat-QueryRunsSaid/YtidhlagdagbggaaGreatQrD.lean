/- A part of the proof of statements of this seat: lemmas, no statement of their own. -/
import Derived.Test.YtidhlagdagbggaaGreatQrC
import Derived.Test.YtidhlagdagbggaaGreatQrF
set_option linter.unusedVariables false
set_option linter.unusedSimpArgs false
set_option maxRecDepth 100000
/- The document's queries, walked: what is asked for. -/
namespace Go.Q.Yz
open Go.Q.Rw
theorem RCheck19_ok {q : S_api_Query} {k : Int → Heap → Prop} {h : Heap} (hs : q.f_Select.size ≤ 100000000) (H : ∀ h', Ext h.size h h' → k (chkQ q) h') : ref19_Check q k h := by
  unfold ref19_Check
  refine bx0 fun h2 B1 X1 => ⟨q.f_Select, B1.cl0 rfl, ?_⟩
  have z1 := X1.size
  refine sel_U q.f_Select (P := fun t => ref15_Selector t _ h2) ?_
  have ul := U_len q.f_Select
  refine RSelector_ok (by omega) (fun h5 e X5 => ?_) (fun name qs s h5 e R rl X5 => ?_)
  · have z5 := X5.size
    refine bx rfl (Nat.le_refl _) fun h8 B8 X8 => ?_
    rw [if_pos (by simp)]
    have := H h8 (X1.trans ((X5.mono z1).trans (X8.mono (by omega))))
    unfold chkQ at this
    rw [e] at this
    exact this
  · have z5 := X5.size
    refine bx rfl (Nat.le_refl _) fun h8 B8 X8 => ?_
    have z8 := X8.size
    rw [if_neg (by simp)]
    have X := X1.trans ((X5.mono z1).trans (X8.mono (by omega)))
    have H2 := H h8 X
    have C1 := (B1.ext X5 B1.lt).ext X8 (Nat.lt_of_lt_of_le B1.lt z5)
    unfold chkQ at H2
    rw [e] at H2
    simp only [Option.isNone_some, Bool.false_eq_true, if_false] at H2
    refine ⟨q.f_Agg, C1.cl rfl, ?_⟩
    unfold ref19_Check_g1 ref19_Check_g3 ref19_Check_g2
    by_cases h0 : q.f_Agg < 0
    · rw [if_pos (by simpa using h0), if_pos rfl, if_pos rfl]
      rw [if_pos (by omega)] at H2; exact H2
    · rw [if_neg (by simpa using h0)]
      refine ⟨q.f_Agg, C1.cl rfl, ?_⟩
      by_cases h6 : q.f_Agg > 6
      · rw [if_pos (by simpa using h6), if_pos rfl]
        rw [if_pos (by omega)] at H2; exact H2
      · rw [if_neg (by simpa using h6)]
        refine ⟨q.f_Agg, C1.cl rfl, ?_⟩
        by_cases e6 : q.f_Agg = 6
        · rw [if_pos (by simpa using e6)]
          refine ⟨q.f_Step, C1.cl rfl, ?_⟩
          by_cases st : q.f_Step < 1
          · rw [if_pos (by simpa using st)]
            rw [if_pos (by omega)] at H2; exact H2
          · rw [if_neg (by simpa using st)]
            rw [if_neg (by omega)] at H2; exact H2
        · rw [if_neg (by simpa using e6), if_neg (by simp)]
          rw [if_neg (by omega)] at H2; exact H2
theorem wide_ok {n : Int} {k : S_api_Wide → Heap → Prop} {h : Heap} (b : in64 n) (H : ∀ h', Ext h.size h h' → k (wd n) h') : ref19_wide n k h := by
  obtain ⟨b0, b1⟩ := b
  unfold ref19_wide
  refine bx0 fun h2 B1 X1 => ?_
  have z1 := X1.size
  by_cases hn : n < 0
  · rw [if_pos (by simpa using hn)]
    refine bset B1 rfl (Nat.le_refl 2) fun h3 F U => ⟨_, CellsAt.of_blk F, ?_⟩
    have e : (⟨-1, IntKind.u64.wrap n⟩ : S_api_Wide) = wd n := by rw [wrapU]; unfold wd; congr 1; omega
    rw [e]
    exact H h3 (X1.trans (U.ext (Nat.le_refl _) (by omega)))
  · rw [if_neg (by simpa using hn)]
    refine bset B1 rfl (Nat.le_refl 2) fun h3 F U => ⟨_, CellsAt.of_blk F, ?_⟩
    have e : (⟨0, IntKind.u64.wrap n⟩ : S_api_Wide) = wd n := by rw [wrapU]; unfold wd; congr 1; omega
    rw [e]
    exact H h3 (X1.trans (U.ext (Nat.le_refl _) (by omega)))
theorem RFloor_ok {a b : Int} {k : Int × Int → Heap → Prop} {h : Heap} (ia : in64 a) (ib : in64 b) (hb : 0 < b) (H : k (a / b, 0) h) : ref01_Floor a b k h := by
  unfold ref01_Floor ref01_Floor_j1
  rw [if_neg (by simp; omega), if_neg (by simp; omega)]
  have fi := fl_in ia hb
  have hd := tdiv_fl a b hb
  have hm := Int.tmod_add_mul_tdiv a b
  obtain ⟨a0, a1⟩ := ia
  obtain ⟨b0, b1⟩ := ib
  have ti : in64 (a.tdiv b) := by
    unfold in64 at *
    by_cases c : a.tmod b ≠ 0 ∧ a < 0
    · rw [if_pos c] at hd
      have : a.tdiv b ≤ 0 := by
        obtain ⟨m, rfl⟩ : ∃ m, a = -m := ⟨-a, by omega⟩
        rw [Int.neg_tdiv, Int.tdiv_eq_ediv_of_nonneg (by omega : 0 ≤ m)]
        have := Int.ediv_nonneg (by omega : 0 ≤ m) (by omega : 0 ≤ b); omega
      omega
    · rw [if_neg c] at hd; omega
  refine ⟨by omega, _, rfl, ?_⟩
  rw [wrapI64 ti.1 ti.2]
  -- the product is within
  have pm : a.tdiv b * b = a - a.tmod b := by rw [Int.mul_comm]; omega
  have tb : -b < a.tmod b ∧ a.tmod b < b := by
    refine ⟨?_, Int.tmod_lt_of_pos a hb⟩
    have := Int.tmod_lt_of_pos (-a) hb
    rw [Int.neg_tmod] at this; omega
  have tsg : (0 ≤ a → 0 ≤ a.tmod b) ∧ (a < 0 → a.tmod b ≤ 0) := by
    refine ⟨fun h => Int.tmod_nonneg b h, fun h => ?_⟩
    have := Int.tmod_nonneg b (show 0 ≤ -a by omega)
    rw [Int.neg_tmod] at this; omega
  have pin : in64 (a.tdiv b * b) := by
    rw [pm]
    by_cases h : 0 ≤ a
    · have := tsg.1 h
      have hle : a.tmod b ≤ a := by
        have := Int.tdiv_nonneg h (by omega : 0 ≤ b)
        have := Int.mul_nonneg (by omega : 0 ≤ b) this
        omega
      exact ⟨by omega, by omega⟩
    · have := tsg.2 (by omega)
      have hle : a ≤ a.tmod b := by
        obtain ⟨m, rfl⟩ : ∃ m, a = -m := ⟨-a, by omega⟩
        have := Int.tdiv_nonneg (show 0 ≤ m by omega) (by omega : 0 ≤ b)
        have := Int.mul_nonneg (by omega : 0 ≤ b) this
        rw [Int.neg_tmod] at *
        rw [Int.neg_tdiv] at hm
        rw [Int.mul_neg] at hm
        omega
      exact ⟨by omega, by omega⟩
  rw [wrapI64 pin.1 pin.2, pm]
  by_cases c : a.tmod b ≠ 0 ∧ a < 0
  · rw [if_pos c] at hd
    rw [if_pos (by
      rw [show decide (a < 0) = true from by simpa using c.2, show decide (b < 0) = false from by simp; omega]
      simp
      omega)]
    refine ⟨_, rfl, ?_⟩
    rw [← hd, wrapI64 fi.1 fi.2]; exact H
  · rw [if_neg c] at hd
    rw [if_neg (by
      rw [show decide (b < 0) = false from by simp; omega]
      simp only [Bool.and_eq_true, bne_iff_ne, Bool.not_eq_true', beq_eq_false_iff_ne, decide_eq_false_iff_not]
      rintro ⟨h1, h2⟩
      apply c
      refine ⟨by omega, ?_⟩
      by_cases hlt : a < 0
      · exact hlt
      · exact absurd (by simpa using hlt) h2)]
    rw [← hd]; exact H
theorem apart_ok {a b : Int} {k : Bool → Heap → Prop} {h : Heap} (ia : in64 a) (ib : in64 b) (H : k (decide (in64 (a - b))) h) : ref19_apart a b k h := by
  unfold ref19_apart
  refine ⟨_, rfl, ?_⟩
  have e : ((decide (b < 0)) == (decide (IntKind.i64.wrap (a - b) > a))) = decide (in64 (a - b)) := by
    rw [wrapI, Bool.eq_iff_iff]
    simp only [beq_iff_eq, decide_eq_decide, decide_eq_true_eq]
    obtain ⟨a0, a1⟩ := ia
    obtain ⟨b0, b1⟩ := ib
    constructor
    · intro h; exact ⟨by omega, by omega⟩
    · rintro ⟨h, h2⟩; omega
  rw [e]; exact H
theorem RAsk_ok {q : S_api_Query} {p1 : Slc} {l : List Pc} {hz : Int} {k : Slc → Heap → Prop} {h : Heap} (L : Pcs h p1 l) (m : l.length ≤ 1000) (hs : q.f_Select.size ≤ 100000000) (hc : chkQ q = 0) (hp : ∀ p ∈ l, p.f_Series.size ≤ 100000000)
    (H : ∀ s h', Row h.size h' 46 5 s ((askQ q hz (mrgR l)).flatMap S_api_Piece.cs) → s.len = (askQ q hz (mrgR l)).length → Ext h.size h h' → k s h') : ref19_Ask q p1 hz k h := by
  unfold ref19_Ask
  refine bx0 fun h2 B1 X1 => ⟨q.f_Select, B1.cl0 rfl, ?_⟩
  have z1 := X1.size
  have l1 := B1.lt
  refine sel_U q.f_Select (P := fun t => ref15_Selector t _ h2) ?_
  have ul := U_len q.f_Select
  refine RSelector_ok (by omega) (fun h5 e X5 => ?_) (fun name qs sq h5 e Rq ql X5 => ?_)
  · unfold chkQ at hc
    rw [e] at hc
    simp at hc
  have z5 := X5.size
  have q8 := (sel_len e).2.2
  have hask : askQ q hz (mrgR l) = askP q.f_From q.f_To hz (chs name qs) (mrgR l) := by unfold askQ; rw [e]
  refine bx rfl (Nat.le_refl _) fun h8 B6 X8 => ?_
  have z8 := X8.size
  have X08 : Ext h.size h h8 := X1.trans ((X5.mono z1).trans (X8.mono (by omega)))
  have IM := mrgR_is l
  have ml := IM.len
  refine RMerge_ok (L.ext X08) m fun t h10 R10 tl X10 => ?_
  have z10 := X10.size
  have X28 : Ext h2.size h2 h8 := X5.trans (X8.mono z5)
  have C1 : Blk h10 h.size (S_api_Query.cs q) 23 := (B1.ext X28 l1).ext X10 (by omega)
  have C6 : Blk h10 h5.size (S_api_Selector.cs ⟨ofL name, sq⟩) 53 := B6.ext X10 B6.lt
  have Rq10 := (Rq.ext X8 fun g hg => (Rq.bd hg).2).ext X10 fun g hg => by have := (Rq.bd hg).2; omega
  have L10 : Pcs h10 t (mrgR l) := ls_of_slc pcs5 R10.slc tl (by decide)
  have X010 : Ext h.size h h10 := X08.trans (X10.mono X08.size)
  obtain ⟨ms, ems⟩ : ∃ ms, ms = mrgR l := ⟨_, rfl⟩
  rw [← ems] at L10 tl hask IM ml H
  obtain ⟨f, ef⟩ : ∃ f : Pc → Bool, f = fun p => decide (max q.f_From hz ≤ p.f_T) && decide (p.f_T ≤ q.f_To) && chs name qs p.f_Series := ⟨_, rfl⟩
  have hask2 : askQ q hz ms = ms.filter f := by rw [hask, ef]; rfl
  unfold ref19_Ask_l1
  refine ⟨fun r h' => ∃ i : Nat, r.2 = (i : Int) ∧ i ≤ ms.length ∧ Ext h10.size h10 h' ∧ Row h10.size h' 46 5 r.1 (((ms.take i).filter f).flatMap S_api_Piece.cs) ∧ r.1.len = ((ms.take i).filter f).length, fun r _ => ms.length - r.2.toNat, ⟨0, rfl, by omega, Ext.refl _ _, by simpa using Row.nil _ _ _ _, by simp⟩, ?_⟩
  rintro t10 ii h11 ⟨i, ei, il, X11, R, rl⟩
  dsimp only at ei R rl
  subst ei
  have z11 := X11.size
  have X011 := X010.trans (X11.mono X010.size)
  unfold ref19_Ask_l1b
  rw [tl]
  by_cases hi : i < ms.length
  rotate_left
  · rw [if_neg (by simp; omega)]
    rw [List.take_of_length_le (by omega)] at R rl
    exact H t10 h11 (by rw [hask2]; exact R.mono (by have := X010.size; omega)) (by rw [hask2]; exact rl) X011
  rw [if_pos (by simp; omega)]
  obtain ⟨a, x, ha, g0, g1, hx, hcx⟩ := (L10.ext X11).it (i := (i : Int)) (by omega) (by omega)
  have hx' : ms[i]? = some x := by rw [← hx, Int.toNat_natCast]
  rw [tl] at g1
  have xs := hp x (IM.sub x (List.mem_of_getElem? hx'))
  have ux := U_len x.f_Series
  have tk : ms.take (i + 1) = ms.take i ++ [x] := by
    obtain ⟨h1, h2⟩ := List.getElem?_eq_some_iff.1 hx'
    rw [List.take_succ_eq_append_getElem h1, h2]
  have lfl : ((ms.take i).filter f).length ≤ 1000 := Nat.le_trans (List.length_filter_le _ _) (by rw [List.length_take]; omega)
  have fx : f x = (decide (max q.f_From hz ≤ x.f_T) && decide (x.f_T ≤ q.f_To) && chs name qs x.f_Series) := by rw [ef]
  have j3 : ∀ v h', v = f x → Ext h11.size h11 h' → ref19_Ask_j3 hz ⟨h.size, 0, none⟩ ⟨h5.size, 0, none⟩ t t10 (i : Int) v k (fun r h' => (∃ i : Nat, r.2 = (i : Int) ∧ i ≤ ms.length ∧ Ext h10.size h10 h' ∧ Row h10.size h' 46 5 r.1 (((ms.take i).filter f).flatMap S_api_Piece.cs) ∧ r.1.len = ((ms.take i).filter f).length) ∧ ms.length - r.2.toNat < ms.length - ((i : Nat) : Int).toNat) h' := fun v h' hv X' => by
    have z' := X'.size
    have R' := R.ext X' fun g hg => (R.bd hg).2
    unfold ref19_Ask_j3 ref19_Ask_j2
    cases hfx : f x with
    | true =>
      have ef2 : (ms.take (i + 1)).filter f = (ms.take i).filter f ++ [x] := by rw [tk, List.filter_append]; simp [hfx]
      rw [hv, hfx, if_pos rfl]
      refine ⟨a, ha, g0, by rw [tl]; exact g1, x, hcx.ext X', bx0 fun h22 B21 X22 => app1 (R'.ext X22 fun g hg => (R'.bd hg).2) (by have := X22.size; omega) rfl rfl (pcs_one x) (by omega) (by unfold maxLen; omega) fun s h24 R24 l24 X24 => ⟨_, rfl, ?_⟩⟩
      have z22 := X22.size
      rw [wrapI64 (by omega) (by omega)]
      refine ⟨⟨i + 1, by dsimp only; omega, by omega, X11.trans ((X'.mono z11).trans ((X22.mono (by omega)).trans X24)), ?_, ?_⟩, by dsimp only; omega⟩
      · rw [ef2, List.flatMap_append]; simpa using R24
      · rw [ef2, l24, rl]; simp
    | false =>
      have ef2 : (ms.take (i + 1)).filter f = (ms.take i).filter f := by rw [tk, List.filter_append]; simp [hfx]
      rw [hv, hfx, if_neg (by simp)]
      refine ⟨_, rfl, ?_⟩
      rw [wrapI64 (by omega) (by omega)]
      exact ⟨⟨i + 1, by dsimp only; omega, by omega, X11.trans (X'.mono z11), by rw [ef2]; exact R', by rw [ef2]; exact rl⟩, by dsimp only; omega⟩
  have C1' : Blk h11 h.size (S_api_Query.cs q) 23 := C1.ext X11 C1.lt
  have C6' : Blk h11 h5.size (S_api_Selector.cs ⟨ofL name, sq⟩) 53 := C6.ext X11 C6.lt
  refine ⟨a, ha, g0, g1, x.f_Series, cls0 hcx rfl, sel_U x.f_Series (P := fun t => ref15_Parse t _ h11) ?_⟩
  refine RParse_ok (by omega) (fun h15 ep X15 => ?_) (fun n ls sl h15 ep Rl ll X15 => ?_)
  · refine bx rfl (Nat.le_refl _) fun h18 B16 X18 => ?_
    rw [if_neg (by simp), if_neg (by simp), if_neg (by simp), if_neg (by simp)]
    exact j3 false h18 (by rw [fx]; unfold chs; rw [ep]; simp) (X15.trans (X18.mono X15.size))
  · have z15 := X15.size
    refine bx rfl (Nat.le_refl _) fun h18 B16 X18 => ?_
    have z18 := X18.size
    rw [if_pos rfl]
    have X1118 : Ext h11.size h11 h18 := X15.trans (X18.mono z15)
    obtain ⟨okl, l8⟩ := parse_len (by omega) ep
    have Rq18 := ((Rq10.ext X11 fun g hg => (Rq10.bd hg).2).ext X1118 fun g hg => by have := (Rq10.bd hg).2; omega)
    refine ⟨_, CellsAt.of_blk (C6'.ext X1118 C6'.lt), _, CellsAt.of_blk B16, RChooses_ok (qs := qs) (ls := ls) (lsOf scs3_len (by decide) Rq18 ql) ((lsOf labcs_len (by decide) Rl ll).ext X18) (by omega) (by omega) fun h28 X28 => ?_⟩
    have z28 := X28.size
    have X1128 := X1118.trans (X28.mono X1118.size)
    have ech : chs name qs x.f_Series = chooseU name qs n ls := by unfold chs; rw [ep]
    have cT : ∀ {h'}, Ext h11.size h11 h' → cellH h' ((a.add (((i : Nat) : Int).toNat * 5)).add 1) = some (.int .i64 x.f_T) := fun X => (hcx.ext X) 1 _ rfl
    rw [← ech]
    cases hch : chs name qs x.f_Series with
    | false =>
      rw [if_neg (by simp), if_neg (by simp), if_neg (by simp)]
      exact j3 false h28 (by rw [fx, hch]; simp) X1128
    | true =>
      rw [if_pos rfl]
      have D1 := C1'.ext X1128 C1'.lt
      refine ⟨a, ha, g0, g1, x.f_T, cT X1128, q.f_From, D1.cl rfl, ?_⟩
      by_cases h1 : x.f_T ≥ q.f_From
      · rw [if_pos (by simpa using h1)]
        refine ⟨a, ha, g0, g1, x.f_T, cT X1128, ?_⟩
        by_cases h2 : x.f_T ≥ hz
        · rw [if_pos (by simpa using h2)]
          refine ⟨a, ha, g0, g1, x.f_T, cT X1128, q.f_To, D1.cl rfl, j3 _ h28 ?_ X1128⟩
          rw [fx, hch, Bool.and_true, show decide (max q.f_From hz ≤ x.f_T) = true from by simp; omega, Bool.true_and]
        · rw [if_neg (by simpa using h2)]
          exact j3 false h28 (by rw [fx, show decide (max q.f_From hz ≤ x.f_T) = false from by rw [decide_eq_false_iff_not]; omega]; rfl) X1128
      · rw [if_neg (by simpa using h1), if_neg (by simp)]
        exact j3 false h28 (by rw [fx, show decide (max q.f_From hz ≤ x.f_T) = false from by rw [decide_eq_false_iff_not]; omega]; rfl) X1128
end Go.Q.Yz
set_option linter.unusedVariables false
set_option linter.unusedSimpArgs false
set_option maxRecDepth 100000
/- The document's queries, walked: rows. -/
namespace Go.Q.Yz
open Go.Q.Rw
/-! steps, plainly -/
def eachA (step : Int) (s : ByteArray) : Int → Int → List Pc → List RI
  | n, w, [] => [(s, IntKind.i64.wrap (n * step), w)]
  | n, w, y :: g => if y.f_T / step = n then eachA step s n (w + y.f_V) g else (s, IntKind.i64.wrap (n * step), w) :: eachA step s (y.f_T / step) y.f_V g
def eachB (step : Int) (s : ByteArray) : List Pc → List RI
  | [] => []
  | y :: g => eachA step s (y.f_T / step) 0 (y :: g)
theorem odd_two {d s : Nat} (h : d * s = 2 ^ 64) (hs : s < 2 ^ 63) : d % 2 = 0 := by
  rcases Nat.mod_two_eq_zero_or_one d with h0 | h1
  · exact h0
  · exfalso
    have co : Nat.Coprime d 2 := by
      unfold Nat.Coprime
      rw [Nat.gcd_comm, Nat.gcd_rec, h1]; rfl
    have co2 : Nat.Coprime d (2 ^ 64) := Nat.Coprime.pow_right 64 co
    have d1 : d = 1 := Nat.Coprime.eq_one_of_dvd co2 ⟨s, h.symm⟩
    rw [d1, Nat.one_mul] at h
    omega
/-- unlike multiples are unlike, modulo 2^64 -/
theorem steps_apart {a b step : Int} (ia : in64 a) (ib : in64 b) (s0 : 0 < step) (s1 : in64 step) (h : a / step < b / step) : IntKind.i64.wrap (a / step * step) ≠ IntKind.i64.wrap (b / step * step) := by
  rw [wrapI, wrapI]
  intro e
  obtain ⟨a0, a1⟩ := ia
  obtain ⟨b0, b1⟩ := ib
  obtain ⟨_, s2⟩ := s1
  have fa := Int.emod_add_mul_ediv a step
  have fb := Int.emod_add_mul_ediv b step
  have ma := Int.emod_nonneg a (by omega : step ≠ 0)
  have mb := Int.emod_nonneg b (by omega : step ≠ 0)
  have ma' := Int.emod_lt_of_pos a s0
  have mb' := Int.emod_lt_of_pos b s0
  have ca := Int.mul_comm step (a / step)
  have cb := Int.mul_comm step (b / step)
  obtain ⟨d, hd⟩ : ∃ d : Nat, (d : Int) = b / step - a / step := ⟨(b / step - a / step).toNat, by omega⟩
  have hm : (d : Int) * step = b / step * step - a / step * step := by rw [hd, Int.sub_mul]
  have dpos : 0 < (d : Int) * step := Int.mul_pos (by omega) s0
  have key : (d : Int) * step = 18446744073709551616 := by omega
  obtain ⟨s, hs⟩ : ∃ s : Nat, (s : Int) = step := ⟨step.toNat, by omega⟩
  have kn : d * s = 2 ^ 64 := by
    have : ((d * s : Nat) : Int) = ((2 ^ 64 : Nat) : Int) := by rw [Int.natCast_mul, hs, key]; rfl
    exact Int.ofNat.inj this
  have ev := odd_two kn (by omega)
  obtain ⟨e2, he2⟩ : ∃ e2 : Nat, d = 2 * e2 := ⟨d / 2, by omega⟩
  have half : (e2 : Int) * step = 9223372036854775808 := by
    have : (d : Int) = 2 * (e2 : Int) := by omega
    rw [this, Int.mul_assoc] at key
    omega
  have lo : -(e2 : Int) ≤ a / step := by
    rw [Int.le_ediv_iff_mul_le s0, Int.neg_mul]; omega
  have := Int.mul_le_mul_of_nonneg_right lo (by omega : 0 ≤ step)
  rw [Int.neg_mul] at this
  omega
theorem eachE_last (step : Int) (o : List RI) (s : ByteArray) (a w : Int) (y : Pc) : eachE step (o ++ [(s, a, w)]) y = if a = atP step y then o ++ [(s, a, w + y.f_V)] else (o ++ [(s, a, w)]) ++ [(y.f_Series, atP step y, y.f_V)] := by
  unfold eachE
  rw [show (o ++ [(s, a, w)]).getLast? = some (s, a, w) from by simp]
  dsimp only
  rw [show (o ++ [(s, a, w)]).dropLast = o from by simp]
theorem eachB_cons (step : Int) (s : ByteArray) (y : Pc) (g : List Pc) : eachB step s (y :: g) = eachA step s (y.f_T / step) y.f_V g := by
  show eachA step s (y.f_T / step) 0 (y :: g) = _
  conv => lhs; unfold eachA
  rw [if_pos rfl, Int.zero_add]
theorem each_A {step : Int} {s : ByteArray} (s0 : 0 < step) (s1 : in64 step) : ∀ (g : List Pc) (o : List RI) (x : Pc) (w : Int), (∀ y ∈ x :: g, in64 y.f_T) → (∀ y ∈ g, y.f_Series = s) → (x :: g).Pairwise (fun a b => a.f_T < b.f_T) →
    g.foldl (eachE step) (o ++ [(s, IntKind.i64.wrap (x.f_T / step * step), w)]) = o ++ eachA step s (x.f_T / step) w g
  | [], o, x, w, _, _, _ => rfl
  | y :: g, o, x, w, ht, hs, hp => by
    rw [List.foldl_cons]
    have hx := List.pairwise_cons.1 hp
    have hy := List.pairwise_cons.1 hx.2
    have lt := hx.1 y List.mem_cons_self
    have sy := hs y List.mem_cons_self
    have mono : x.f_T / step ≤ y.f_T / step := Int.ediv_le_ediv s0 (by omega)
    have sub : (x :: g).Pairwise (fun a b => a.f_T < b.f_T) := List.pairwise_cons.2 ⟨fun z hz => hx.1 z (List.mem_cons_of_mem _ hz), hy.2⟩
    unfold eachA
    rw [eachE_last]
    unfold atP
    by_cases e : y.f_T / step = x.f_T / step
    · rw [e, if_pos rfl, if_pos rfl]
      exact each_A s0 s1 g o x (w + y.f_V) (fun z hz => ht z (by rcases List.mem_cons.1 hz with rfl | hz; exact List.mem_cons_self; exact List.mem_cons_of_mem _ (List.mem_cons_of_mem _ hz))) (fun z hz => hs z (List.mem_cons_of_mem _ hz)) sub
    · rw [if_neg (steps_apart (ht x List.mem_cons_self) (ht y (List.mem_cons_of_mem _ List.mem_cons_self)) s0 s1 (by omega)), if_neg e]
      have := each_A s0 s1 g (o ++ [(s, IntKind.i64.wrap (x.f_T / step * step), w)]) y y.f_V (fun z hz => ht z (List.mem_cons_of_mem _ hz)) (fun z hz => hs z (List.mem_cons_of_mem _ hz)) hx.2
      rw [sy, this, List.append_assoc]; rfl
theorem each_B {step : Int} {g : List Pc} (s0 : 0 < step) (s1 : in64 step) (ht : ∀ y ∈ g, in64 y.f_T) (hs : ∀ x ∈ g, ∀ y ∈ g, x.f_Series = y.f_Series) (hp : g.Pairwise (fun a b => a.f_T < b.f_T)) : eachP step g = eachB step (ser g) g := by
  cases g with
  | nil => rfl
  | cons x g =>
    have := each_A (s := x.f_Series) s0 s1 g [] x x.f_V ht (fun y hy => hs y (List.mem_cons_of_mem _ hy) x List.mem_cons_self) hp
    rw [eachB_cons]
    exact this
theorem minV_fold {x : Pc} {r : List Pc} : (x :: r).foldl (fun m p => if p.f_V < m then p.f_V else m) x.f_V = minV (x :: r) := by
  simp only [List.foldl_cons, Int.lt_irrefl, if_false, minV]
theorem maxV_fold {x : Pc} {r : List Pc} : (x :: r).foldl (fun m p => if p.f_V > m then p.f_V else m) x.f_V = maxV (x :: r) := by
  simp only [List.foldl_cons, gt_iff_lt, Int.lt_irrefl, if_false, maxV]
/-! a group of a row of pieces -/
structure RCtx (q : S_api_Query) (A : Slc) (as' : List Pc) (b1 : Nat) (hA : Heap) (i kk : Nat) (g : List Pc) : Prop where
  L : Pcs hA A as'
  m : as'.length ≤ 1000
  hv : ∀ p ∈ as', in64 p.f_V ∧ in64 p.f_T
  qa : 0 ≤ q.f_Agg ∧ q.f_Agg ≤ 6 ∧ (q.f_Agg = 6 → 0 < q.f_Step)
  q6 : in64 q.f_Step
  B : Blk hA b1 (S_api_Query.cs q) 23
  ik : i < kk
  kl : kk ≤ as'.length
  eg : g = (as'.drop i).take (kk - i)
  rise : g.Pairwise fun a b => a.f_T < b.f_T
  same : ∀ x ∈ g, ∀ y ∈ g, x.f_Series = y.f_Series
section
variable {q : S_api_Query} {A : Slc} {as' : List Pc} {b1 : Nat} {hA : Heap} {i kk : Nat} {g : List Pc} {h h' : Heap} {rs : List RI} {t10 : Slc}
theorem RCtx.len (C : RCtx q A as' b1 hA i kk g) : g.length = kk - i := by
  have := C.kl
  rw [C.eg, List.length_take, List.length_drop]; omega
theorem RCtx.get (C : RCtx q A as' b1 hA i kk g) {j : Nat} (h1 : i ≤ j) (h2 : j < kk) : ∃ x, g[j - i]? = some x ∧ as'[j]? = some x ∧ x ∈ g := by
  have hl := C.len
  obtain ⟨x, hx⟩ : ∃ x, g[j - i]? = some x := ⟨_, List.getElem?_eq_getElem (by omega)⟩
  refine ⟨x, hx, ?_, List.mem_of_getElem? hx⟩
  rw [C.eg, List.getElem?_take, if_pos (by omega), List.getElem?_drop, show i + (j - i) = j from by omega] at hx
  exact hx
theorem RCtx.sub (C : RCtx q A as' b1 hA i kk g) : ∀ x ∈ g, x ∈ as' := fun x hx => by
  rw [C.eg] at hx; exact List.mem_of_mem_drop (List.mem_of_mem_take hx)
theorem RCtx.it (C : RCtx q A as' b1 hA i kk g) (X : Ext hA.size hA h) {j : Nat} (h1 : i ≤ j) (h2 : j < kk) : ∃ a x, A.a = some a ∧ (0 : Int) ≤ (j : Int) ∧ (j : Int) < (A.len : Int) ∧ CellsAt h (a.add (((j : Nat) : Int).toNat * 5)) (S_api_Piece.cs x) ∧ g[j - i]? = some x ∧ x ∈ g ∧ in64 x.f_V ∧ in64 x.f_T := by
  obtain ⟨x, hx, ha, hm⟩ := C.get h1 h2
  have kl := C.kl
  obtain ⟨a, y, hA', p0, p1, hy, hc⟩ := (C.L.ext X).it (i := (j : Int)) (by omega) (by omega)
  rw [Int.toNat_natCast] at hy
  rw [ha] at hy; cases hy
  obtain ⟨v, t⟩ := C.hv x (C.sub x hm)
  exact ⟨a, x, hA', p0, p1, hc, hx, hm, v, t⟩
theorem RCtx.ser (C : RCtx q A as' b1 hA i kk g) {x : Pc} (hx : x ∈ g) : ser g = x.f_Series := by
  have same := C.same
  cases g with
  | nil => cases hx
  | cons y r => exact same y List.mem_cons_self x hx
theorem RCtx.bq (C : RCtx q A as' b1 hA i kk g) (X : Ext hA.size hA h) : Blk h b1 (S_api_Query.cs q) 23 := C.B.ext X C.B.lt
theorem RCtx.ne (C : RCtx q A as' b1 hA i kk g) : g ≠ [] := by
  intro e
  have := C.len
  have := C.ik
  rw [e] at *
  simp at *; omega
/-- rows so far -/
structure ROut (hA h : Heap) (t10 : Slc) (rs : List RI) : Prop where
  X : Ext hA.size hA h
  R : Row hA.size h 50 4 t10 (rvs rs)
  l : t10.len = rs.length
  m : rs.length ≤ 2000
theorem ROut.ext (O : ROut hA h t10 rs) (X : Ext h.size h h') : ROut hA h' t10 rs :=
  ⟨O.X.trans (X.mono O.X.size), O.R.ext X fun g hg => (O.R.bd hg).2, O.l, O.m⟩
/-- one more row -/
theorem ROut.push (O : ROut hA h t10 rs) (m : rs.length + 1 ≤ 2000) (r : RI) {k : Slc → Heap → Prop} (H : ∀ s h', ROut hA h' s (rs ++ [r]) → k s h') :
    ∃ (b : Nat) (h2 : Heap), b = h.size ∧ h2 = h.push (.cells (S_api_Row.cs (toRow r)).toArray 50) ∧ App 50 4 40 [.string ByteArray.empty, .int .i64 0, .int .i64 0, .int .u64 0] h2 t10 1 (S_api_Row.cs (toRow r)) (fun s h' => k s h') := by
  refine bx0 fun h2 B X => ?_
  have z := X.size
  have zA := O.X.size
  have P := O.ext X
  have ol := O.l
  exact app1 P.R (by omega) rfl rfl (rcs_one _) (by omega) (by unfold maxLen; omega) fun s h' R' l' X' => H s h' ⟨P.X.trans X', by rw [rvs_app, rvs_one]; exact R', by rw [l', ol]; simp, by simp; omega⟩
section
variable {k : Slc × Int → Heap → Prop} {N1 : Slc × Int → Heap → Prop} {N2 : Int → Heap → Prop} {N4 : Int × Int × Int → Heap → Prop}
/-- no row of its own -/
theorem J5b (C : RCtx q A as' b1 hA i kk g) {b17 : Nat} (X : Ext hA.size hA h) (c : q.f_Agg = 0 ∨ q.f_Agg = 6 ∨ (q.f_Agg = 5 ∧ g.length < 2)) (H : N1 (t10, (kk : Int)) h) : ref19_Run_j5 ⟨b1, 0, none⟩ A (i : Int) (kk : Int) ⟨b17, 0, none⟩ t10 k N1 N2 N4 h := by
  have hl := C.len
  have kl := C.kl
  have km := C.m
  have ik := C.ik
  have B := C.bq X
  unfold ref19_Run_j5
  refine ⟨q.f_Agg, B.cl rfl, ?_⟩
  have g7 : ref19_Run_g7 ⟨b1, 0, none⟩ A t10 (i : Int) (kk : Int) ⟨b17, 0, none⟩ false k N1 N2 N4 h := by
    unfold ref19_Run_g7
    rw [if_neg (by simp)]
    refine ⟨q.f_Agg, B.cl rfl, ?_⟩
    unfold ref19_Run_g8
    rw [wrapI64 (by omega) (by omega)]
    rw [if_neg (by
      simp only [Bool.and_eq_true, beq_iff_eq, decide_eq_true_eq]
      rintro ⟨h1, h2⟩
      rcases c with c | c | ⟨c, c2⟩ <;> omega)]
    unfold ref19_Run_j6
    exact H
  by_cases c1 : q.f_Agg ≥ 1
  · rw [if_pos (by simpa using c1)]
    refine ⟨q.f_Agg, B.cl rfl, ?_⟩
    rw [show decide (q.f_Agg ≤ 4) = false from by rw [decide_eq_false_iff_not]; rcases c with c | c | ⟨c, c2⟩ <;> omega]
    exact g7
  · rw [if_neg (by simpa using c1)]
    exact g7
/-- one row of its own -/
theorem J5a (C : RCtx q A as' b1 hA i kk g) {b17 : Nat} {n : Int} (O : ROut hA h t10 rs) (m : rs.length + 1 ≤ 2000) (K : Blk h b17 (S_api_Row.cs (toRow (ser g, 0, n))) 50) (c : (1 ≤ q.f_Agg ∧ q.f_Agg ≤ 4) ∨ (q.f_Agg = 5 ∧ 2 ≤ g.length)) (H : ∀ s h', ROut hA h' s (rs ++ [(ser g, 0, n)]) → N1 (s, (kk : Int)) h') : ref19_Run_j5 ⟨b1, 0, none⟩ A (i : Int) (kk : Int) ⟨b17, 0, none⟩ t10 k N1 N2 N4 h := by
  have hl := C.len
  have kl := C.kl
  have km := C.m
  have ik := C.ik
  have B := C.bq O.X
  unfold ref19_Run_j5
  refine ⟨q.f_Agg, B.cl rfl, ?_⟩
  rw [if_pos (by rw [decide_eq_true_eq]; rcases c with c | c <;> omega)]
  refine ⟨q.f_Agg, B.cl rfl, ?_⟩
  have g8 : ref19_Run_g8 ⟨b1, 0, none⟩ A t10 (kk : Int) ⟨b17, 0, none⟩ true k N1 N2 N4 h := by
    unfold ref19_Run_g8
    rw [if_pos rfl]
    refine ⟨_, CellsAt.of_blk K, O.push m _ fun s h' O' => ?_⟩
    unfold ref19_Run_j6
    exact H s h' O'
  unfold ref19_Run_g7
  by_cases c4 : q.f_Agg ≤ 4
  · rw [if_pos (by simpa using c4)]
    exact g8
  · rw [if_neg (by simpa using c4)]
    refine ⟨q.f_Agg, B.cl rfl, ?_⟩
    rw [wrapI64 (by omega) (by omega)]
    rw [show ((q.f_Agg == 5) && (decide ((kk : Int) - (i : Int) > 1))) = true from by
      simp only [Bool.and_eq_true, beq_iff_eq, decide_eq_true_eq]
      rcases c with c | c <;> omega]
    exact g8
/-- all pieces as rows -/
theorem R9_ok (C : RCtx q A as' b1 hA i kk g) {b17 : Nat} (O : ROut hA h t10 rs) (m : rs.length + g.length ≤ 2000) (c : q.f_Agg = 0) (H : ∀ s h', ROut hA h' s (rs ++ g.map fun p => (p.f_Series, p.f_T, p.f_V)) → N1 (s, (kk : Int)) h') : ref19_Run_l9 ⟨b1, 0, none⟩ A (i : Int) (kk : Int) ⟨b17, 0, none⟩ t10 (i : Int) k N1 N2 N4 h := by
  have hl := C.len
  have kl := C.kl
  have km := C.m
  have ik := C.ik
  unfold ref19_Run_l9
  refine ⟨fun q h' => ∃ n : Nat, q.2 = ((i + n : Nat) : Int) ∧ n ≤ g.length ∧ ROut hA h' q.1 (rs ++ (g.take n).map fun p => (p.f_Series, p.f_T, p.f_V)), fun q _ => kk - q.2.toNat, ⟨0, rfl, by omega, by simpa using O⟩, ?_⟩
  rintro t j h1 ⟨n, ej, nl, O1⟩
  dsimp only at ej O1
  subst ej
  unfold ref19_Run_l9b
  by_cases hn : n < g.length
  · rw [if_pos (by simp; omega)]
    obtain ⟨a, x, ha, p0, p1, hc, hx, hm, xv, xt⟩ := C.it O1.X (j := i + n) (by omega) (by omega)
    rw [show i + n - i = n from by omega] at hx
    refine ⟨a, ha, p0, p1, x.f_Series, cls0 hc rfl, a, ha, p0, p1, x.f_T, hc 1 _ rfl, a, ha, p0, p1, x.f_V, hc 2 _ rfl, wide_ok xv fun h2 X2 => ⟨(hc.ext X2) 1 _ rfl, cls0 (hc.ext X2) rfl, ?_⟩⟩
    have tk : g.take (n + 1) = g.take n ++ [x] := by
      obtain ⟨h1, h2⟩ := List.getElem?_eq_some_iff.1 hx
      rw [List.take_succ_eq_append_getElem h1, h2]
    refine (O1.ext X2).push (by rw [List.length_append, List.length_map, List.length_take]; omega) (x.f_Series, x.f_T, x.f_V) fun s h' O' => ⟨_, rfl, ?_⟩
    rw [wrapI64 (by omega) (by omega)]
    refine ⟨⟨n + 1, by dsimp only; omega, by omega, ?_⟩, by dsimp only; omega⟩
    dsimp only
    rw [tk, List.map_append, ← List.append_assoc]
    exact O'
  · rw [if_neg (by simp; omega)]
    rw [List.take_of_length_le (by omega)] at O1
    exact J5b C O1.X (.inl c) (H t h1 O1)
/-- rows by steps -/
theorem R12_ok (C : RCtx q A as' b1 hA i kk g) {b17 : Nat} (O : ROut hA h t10 rs) (m : rs.length + g.length ≤ 2000) (c : q.f_Agg = 6) (H : ∀ s h', ROut hA h' s (rs ++ eachP q.f_Step g) → N1 (s, (kk : Int)) h') : ref19_Run_l12 ⟨b1, 0, none⟩ A (i : Int) (kk : Int) ⟨b17, 0, none⟩ t10 (i : Int) k N1 N2 N4 h := by
  have hl := C.len
  have kl := C.kl
  have km := C.m
  have ik := C.ik
  have s0 := C.qa.2.2 c
  have eB := each_B s0 C.q6 (fun y hy => (C.hv y (C.sub y hy)).2) C.same C.rise
  rw [eB] at H
  have vb : ∀ n, -(9223372036854775808 * 1000) ≤ sumV (g.take n) ∧ sumV (g.take n) ≤ 9223372036854775808 * 1000 := fun n => by
    have := sumV_bd (l := g.take n) fun p hp => (C.hv p (C.sub p (List.mem_of_mem_take hp))).1
    have hle : (g.take n).length ≤ 1000 := by rw [List.length_take]; omega
    omega
  unfold ref19_Run_l12
  refine ⟨fun r h' => ∃ (n : Nat) (r2 : List RI), r.2 = ((i + n : Nat) : Int) ∧ n ≤ g.length ∧ ROut hA h' r.1 (rs ++ r2) ∧ r2.length ≤ n ∧ eachB q.f_Step (ser g) g = r2 ++ eachB q.f_Step (ser g) (g.drop n), fun r _ => kk - r.2.toNat, ⟨0, [], rfl, by omega, by simpa using O, by simp, by simp⟩, ?_⟩
  rintro t j h1 ⟨n, r2, ej, nl, O1, rl, eR⟩
  dsimp only at ej O1
  subst ej
  unfold ref19_Run_l12b
  by_cases hn : n < g.length
  rotate_left
  · rw [if_neg (by simp; omega)]
    rw [List.drop_of_length_le (by omega), eachB, List.append_nil] at eR
    exact J5b C O1.X (.inr (.inl c)) (H t h1 (by rw [eR]; exact O1))
  rw [if_pos (by simp; omega)]
  obtain ⟨a, x, ha, p0, p1, hc, hx, hm, xv, xt⟩ := C.it O1.X (j := i + n) (by omega) (by omega)
  rw [show i + n - i = n from by omega] at hx
  have B := C.bq O1.X
  refine ⟨a, ha, p0, p1, x.f_T, hc 1 _ rfl, q.f_Step, B.cl rfl, RFloor_ok xt C.q6 s0 (bx rfl (Nat.le_refl _) fun h2 B2 X2 => ?_)⟩
  have z2 := X2.size
  have O2 := O1.ext X2
  have dn : g.drop n = x :: g.drop (n + 1) := by
    obtain ⟨h1, h2⟩ := List.getElem?_eq_some_iff.1 hx
    rw [List.drop_eq_getElem_cons h1, h2]
  obtain ⟨nq, enq⟩ : ∃ nq, nq = x.f_T / q.f_Step := ⟨_, rfl⟩
  have eR2 : eachB q.f_Step (ser g) g = r2 ++ eachA q.f_Step (ser g) nq 0 (g.drop n) := by rw [eR, dn, enq]; rfl
  dsimp only
  rw [← enq]
  unfold ref19_Run_l14
  refine ⟨fun j h' => ∃ mm : Nat, j = ((i + n + mm : Nat) : Int) ∧ n + mm ≤ g.length ∧ ROut hA h' t (rs ++ r2) ∧ h2.size ≤ h'.size ∧ Blk h' h1.size (S_api_Wide.cs (wd (sumV ((g.drop n).take mm)))) 48 ∧ eachB q.f_Step (ser g) g = r2 ++ eachA q.f_Step (ser g) nq (sumV ((g.drop n).take mm)) (g.drop (n + mm)) ∧ (mm = 0 → nq = x.f_T / q.f_Step), fun j _ => kk - j.toNat, ⟨0, rfl, by omega, O2, Nat.le_refl _, by simpa [sumV, wd] using B2, by simpa [sumV] using eR2, fun _ => enq⟩, ?_⟩
  rintro j h3 ⟨mm, rfl, ml, O3, z3, B3, eR3, e0⟩
  unfold ref19_Run_l14b
  have zA := O3.X.size
  have zA1 := O1.X.size
  have sb : ∀ n' mm', -(9223372036854775808 * 1000) ≤ sumV ((g.drop n').take mm') ∧ sumV ((g.drop n').take mm') ≤ 9223372036854775808 * 1000 := fun n' mm' => by
    have := sumV_bd (l := (g.drop n').take mm') fun p hp => (C.hv p (C.sub p (List.mem_of_mem_drop (List.mem_of_mem_take hp)))).1
    have hle : ((g.drop n').take mm').length ≤ 1000 := by rw [List.length_take, List.length_drop]; omega
    omega
  -- the row is laid
  have j13 : 1 ≤ mm → (n + mm = g.length ∨ ∃ y, g[n + mm]? = some y ∧ y.f_T / q.f_Step ≠ nq) → ref19_Run_j13 ⟨b1, 0, none⟩ A t (i : Int) (kk : Int) ⟨b17, 0, none⟩ nq ⟨h1.size, 0, none⟩ ((i + n + mm : Nat) : Int) k N1 N2 N4 (fun r h' => (∃ (n : Nat) (r2 : List RI), r.2 = ((i + n : Nat) : Int) ∧ n ≤ g.length ∧ ROut hA h' r.1 (rs ++ r2) ∧ r2.length ≤ n ∧ eachB q.f_Step (ser g) g = r2 ++ eachB q.f_Step (ser g) (g.drop n)) ∧ kk - r.2.toNat < kk - ((i + n : Nat) : Int).toNat) h3 := fun m1 stop => by
    obtain ⟨a', x', ha', p0', p1', hc', hx', hm', xv', xt'⟩ := C.it O3.X (j := i) (Nat.le_refl _) ik
    have B' := C.bq O3.X
    unfold ref19_Run_j13
    refine ⟨a', ha', p0', p1', x'.f_Series, cls0 hc' rfl, q.f_Step, B'.cl rfl, wd (sumV ((g.drop n).take mm)), CellsAt.of_blk B3, ?_⟩
    rw [← C.ser hm']
    refine O3.push (by rw [List.length_append]; clear stop; omega) (ser g, IntKind.i64.wrap (nq * q.f_Step), sumV ((g.drop n).take mm)) fun s h' O' => ?_
    refine ⟨⟨n + mm, r2 ++ [(ser g, IntKind.i64.wrap (nq * q.f_Step), sumV ((g.drop n).take mm))], (by clear stop; show ((i + n + mm : Nat) : Int) = ((i + (n + mm) : Nat) : Int); omega), ml, by rw [← List.append_assoc]; exact O', by rw [List.length_append, List.length_cons, List.length_nil]; clear stop; omega, ?_⟩, by clear stop; dsimp only; omega⟩
    rw [eR3, List.append_assoc]
    congr 1
    rcases stop with e | ⟨y, hy, hne⟩
    · rw [List.drop_of_length_le (l := g) (i := n + mm) (by omega)]; rfl
    · have dm : g.drop (n + mm) = y :: g.drop (n + mm + 1) := by
        obtain ⟨h1, h2⟩ := List.getElem?_eq_some_iff.1 hy
        rw [List.drop_eq_getElem_cons h1, h2]
      rw [dm]
      conv => lhs; unfold eachA
      rw [if_neg hne]
      rw [eachB_cons]; rfl
  by_cases hm2 : n + mm < g.length
  rotate_left
  · rw [if_neg (by simp; omega)]
    exact j13 (by omega) (.inl (by omega))
  rw [if_pos (by simp; omega)]
  obtain ⟨a2, y, ha2, q0, q1, hc2, hy, hym, yv, yt⟩ := C.it O3.X (j := i + n + mm) (by omega) (by omega)
  rw [show i + n + mm - i = n + mm from by omega] at hy
  refine ⟨a2, ha2, q0, q1, y.f_T, hc2 1 _ rfl, q.f_Step, (C.bq O3.X).cl rfl, RFloor_ok yt C.q6 s0 ?_⟩
  by_cases hq : y.f_T / q.f_Step = nq
  rotate_left
  · rw [if_pos (by simpa using hq)]
    refine j13 ?_ (.inr ⟨y, hy, hq⟩)
    rcases Nat.eq_zero_or_pos mm with rfl | h
    · exfalso
      rw [Nat.add_zero, hx] at hy; cases hy
      exact hq (e0 rfl).symm
    · exact h
  rw [if_neg (by simpa using hq)]
  refine ⟨_, CellsAt.of_blk B3, a2, ha2, q0, q1, y.f_V, hc2 2 _ rfl, wide_ok yv fun h4 X4 => ⟨(CellsAt.of_blk B3).ext X4, RAdd_ok ?_ (in_bd2 yv) fun h5 X5 => ?_⟩⟩
  · have := sb n mm; unfold bd2; omega
  have z4 := X4.size
  have z5 := X5.size
  have B5 := (B3.ext X4 B3.lt).ext X5 (Nat.lt_of_lt_of_le B3.lt z4)
  refine bset B5 rfl (Nat.le_refl _) fun h6 F U => ⟨_, rfl, ?_⟩
  have z6 := U.size
  rw [wrapI64 (by omega) (by omega)]
  have tk : (g.drop n).take (mm + 1) = (g.drop n).take mm ++ [y] := by
    have : (g.drop n)[mm]? = some y := by rw [List.getElem?_drop]; exact hy
    obtain ⟨h1, h2⟩ := List.getElem?_eq_some_iff.1 this
    rw [List.take_succ_eq_append_getElem h1, h2]
  have sv' : sumV ((g.drop n).take (mm + 1)) = sumV ((g.drop n).take mm) + y.f_V := by rw [tk]; simp [sumV]
  have X36 : Ext hA.size h3 h6 := (X4.mono (by omega)).trans ((X5.mono (by omega)).trans (U.ext (by omega) (by omega)))
  have O5 := (O3.ext X4).ext X5
  refine ⟨⟨mm + 1, by omega, by omega, ⟨O3.X.trans X36, O5.R.keep fun g' hg' => U.block g' (O5.R.bd hg').2 ?_, O5.l, O5.m⟩, by omega, by rw [sv']; exact F, ?_, fun h => by omega⟩, by dsimp only; omega⟩
  · -- the sum's block isn't the rows'
    have r1 := O1.R.bd (g := g')
    intro e
    have := (O1.R.bd hg').2
    omega
  · rw [eR3, sv']
    have dm : g.drop (n + mm) = y :: g.drop (n + (mm + 1)) := by
      obtain ⟨h1, h2⟩ := List.getElem?_eq_some_iff.1 hy
      rw [List.drop_eq_getElem_cons h1, h2]; rfl
    rw [dm]
    congr 1
    conv => lhs; unfold eachA
    rw [if_pos hq]
end
end
end Go.Q.Yz
set_option linter.unusedVariables false
set_option linter.unusedSimpArgs false
set_option maxRecDepth 100000
/- The document's queries, walked: groups, and all. -/
namespace Go.Q.Yz
open Go.Q.Rw
section
variable {q : S_api_Query} {A : Slc} {as' : List Pc} {b1 : Nat} {hA : Heap} {i kk : Nat} {g : List Pc} {h h' : Heap} {rs : List RI} {t10 : Slc}
theorem ROut.upd {h2 h3 : Heap} {b : Nat} (O : ROut hA h t10 rs) (X : Ext h.size h h2) (U : Upd b h2 h3) (hb : h.size ≤ b) : ROut hA h3 t10 rs := by
  have O2 := O.ext X
  have z := O.X.size
  have z2 := X.size
  exact ⟨O2.X.trans (U.ext (by omega) (by omega)), O2.R.keep fun g hg => U.block g (O2.R.bd hg).2 (by have := (O.R.bd hg).2; omega), O2.l, O2.m⟩
variable {k : Slc × Int → Heap → Prop} {N1 : Slc × Int → Heap → Prop} {N2 : Int → Heap → Prop} {N4 : Int × Int × Int → Heap → Prop}
theorem J10_ok (C : RCtx q A as' b1 hA i kk g) {b17 x y : Nat} {a b : Pc} (O : ROut hA h t10 rs) (m : rs.length + 1 ≤ 2000) (c : q.f_Agg = 5) (K : Blk h b17 (S_api_Row.cs (toRow (ser g, 0, 0))) 50) (hb17 : ∀ gg, t10.blk = some gg → gg < b17) (hb17A : hA.size ≤ b17)
    (PA : Blk h x (S_api_Piece.cs a) 46) (PB : Blk h y (S_api_Piece.cs b) 46) (ha : g.head? = some a) (hl : g.getLast? = some b)
    (bad : rowsP q.f_Agg q.f_Step g = none → ∀ h', Ext hA.size hA h' → k (⟨none, 0, 0⟩, 19) h')
    (fin : ∀ r2 s h', rowsP q.f_Agg q.f_Step g = some r2 → ROut hA h' s (rs ++ r2) → N1 (s, (kk : Int)) h') : ref19_Run_j10 ⟨b1, 0, none⟩ A t10 (i : Int) (kk : Int) ⟨b17, 0, none⟩ ⟨x, 0, none⟩ ⟨y, 0, none⟩ k N1 N2 N4 h := by
  have len := C.len
  have kl := C.kl
  have km := C.m
  have ik := C.ik
  have ab := C.hv a (C.sub a (List.mem_of_mem_head? ha))
  have bb := C.hv b (C.sub b (List.mem_of_getLast? hl))
  have er : rowsP q.f_Agg q.f_Step g = if g.length < 2 then some [] else (rateP g).map fun n => [(ser g, 0, n)] := by unfold rowsP; rw [c]; rfl
  unfold ref19_Run_j10
  rw [wrapI64 (by omega) (by omega)]
  by_cases h2 : (kk : Int) - (i : Int) > 1
  rotate_left
  · rw [if_neg (by simpa using h2)]
    exact J5b C O.X (.inr (.inr ⟨c, by omega⟩)) (fin [] t10 h (by rw [er, if_pos (by omega)]) (by rw [List.append_nil]; exact O))
  rw [if_pos (by simpa using h2)]
  rw [if_neg (by omega)] at er
  have ert : rateP g = if in64 (b.f_V - a.f_V) ∧ in64 (b.f_T - a.f_T) then some ((b.f_V - a.f_V) / (b.f_T - a.f_T)) else none := by unfold rateP; rw [ha, hl]
  have lt : a.f_T < b.f_T := by
    obtain ⟨a', b', ea, eb, lt⟩ := head_last C.rise (by omega)
    rw [ha] at ea; cases ea
    rw [hl] at eb; cases eb
    exact lt
  refine ⟨b.f_V, PB.cl rfl, a.f_V, PA.cl rfl, apart_ok bb.1 ab.1 ?_⟩
  have g11t : ¬ (in64 (b.f_V - a.f_V) ∧ in64 (b.f_T - a.f_T)) → ref19_Run_g11 ⟨b1, 0, none⟩ A t10 (i : Int) (kk : Int) ⟨b17, 0, none⟩ ⟨x, 0, none⟩ ⟨y, 0, none⟩ true k N1 N2 N4 h := fun hn => by
    unfold ref19_Run_g11
    rw [if_pos rfl]
    exact bad (by rw [er, ert, if_neg hn]; rfl) h O.X
  by_cases i1 : in64 (b.f_V - a.f_V)
  rotate_left
  · rw [if_pos (by simp [i1])]
    exact g11t fun hh => i1 hh.1
  rw [if_neg (by simp [i1])]
  refine ⟨b.f_T, PB.cl rfl, a.f_T, PA.cl rfl, apart_ok bb.2 ab.2 ?_⟩
  by_cases i2 : in64 (b.f_T - a.f_T)
  rotate_left
  · rw [show (!decide (in64 (b.f_T - a.f_T))) = true from by simp [i2]]
    exact g11t fun hh => i2 hh.2
  rw [show (!decide (in64 (b.f_T - a.f_T))) = false from by simp [i2]]
  unfold ref19_Run_g11
  rw [if_neg (by simp)]
  refine ⟨b.f_V, PB.cl rfl, a.f_V, PA.cl rfl, b.f_T, PB.cl rfl, a.f_T, PA.cl rfl, ?_⟩
  rw [wrapI64 (x := b.f_V - a.f_V) i1.1 i1.2, wrapI64 (x := b.f_T - a.f_T) i2.1 i2.2]
  refine RFloor_ok i1 i2 (by omega) (wide_ok (fl_in i1 (by omega)) fun h3 X3 => ?_)
  have K3 := K.ext X3 K.lt
  have z3 := X3.size
  have zA := O.X.size
  refine bsetp K3 rfl (by show 2 + 2 ≤ 4; decide) fun h4 F U => ?_
  have O3 := O.ext X3
  have O4 : ROut hA h4 t10 rs := ⟨O3.X.trans (U.ext hb17A (by omega)), O3.R.keep fun gg hg => U.block gg (O3.R.bd hg).2 (by have := hb17 gg hg; omega), O3.l, O3.m⟩
  exact J5a C (n := (b.f_V - a.f_V) / (b.f_T - a.f_T)) O4 m F (.inr ⟨c, by omega⟩) fun s h' O' => fin _ s h' (by rw [er, ert, if_pos ⟨i1, i2⟩]; rfl) O'
theorem RG_ok (C : RCtx q A as' b1 hA i kk g) (O : ROut hA h t10 rs) (m : rs.length + g.length ≤ 2000)
    (bad : rowsP q.f_Agg q.f_Step g = none → ∀ h', Ext hA.size hA h' → k (⟨none, 0, 0⟩, 19) h')
    (fin : ∀ r2 s h', rowsP q.f_Agg q.f_Step g = some r2 → ROut hA h' s (rs ++ r2) → N1 (s, (kk : Int)) h') : ref19_Run_g3 ⟨b1, 0, none⟩ A t10 (i : Int) (kk : Int) false k N1 N2 h := by
  have len := C.len
  have kl := C.kl
  have km := C.m
  have ik := C.ik
  have gpos : 1 ≤ g.length := by omega
  unfold ref19_Run_g3
  rw [if_neg (by simp)]
  obtain ⟨a, x0, ha, p0, p1, hc, hx0, hm0, v0, t0⟩ := C.it O.X (j := i) (Nat.le_refl _) ik
  rw [Nat.sub_self] at hx0
  have c2 : ∀ {h'}, Ext h.size h h' → cellH h' ((a.add (((i : Nat) : Int).toNat * 5)).add 2) = some (.int .i64 x0.f_V) := fun X => (hc.ext X) 2 _ rfl
  refine ⟨a, ha, p0, p1, x0.f_V, hc 2 _ rfl, a, ha, p0, p1, x0.f_V, hc 2 _ rfl, bx0 fun h15 B14 X15 => ⟨c2 X15, c2 X15, bset B14 rfl (Nat.le_refl _) fun h18 E14 U18 => ?_⟩⟩
  have z15 := X15.size
  have z18 := U18.size
  have X18 : Ext h.size h h18 := X15.trans (U18.ext (Nat.le_refl _) (by omega))
  have O18 := O.ext X18
  refine ⟨c2 X18, c2 X18, ?_⟩
  have sb : ∀ n, -(9223372036854775808 * 1000) ≤ sumV (g.take n) ∧ sumV (g.take n) ≤ 9223372036854775808 * 1000 := fun n => by
    have := sumV_bd (l := g.take n) fun p hp => (C.hv p (C.sub p (List.mem_of_mem_take hp))).1
    have hle : (g.take n).length ≤ 1000 := by rw [List.length_take]; omega
    omega
  unfold ref19_Run_l4
  refine ⟨fun r h' => ∃ n : Nat, r.2.2 = ((i + n : Nat) : Int) ∧ n ≤ g.length ∧ r.1 = (g.take n).foldl (fun m p => if p.f_V < m then p.f_V else m) x0.f_V ∧ r.2.1 = (g.take n).foldl (fun m p => if p.f_V > m then p.f_V else m) x0.f_V ∧ ROut hA h' t10 rs ∧ h18.size ≤ h'.size ∧ Blk h' h.size (S_api_Wide.cs (wd (sumV (g.take n)))) 48, fun r _ => kk - r.2.2.toNat, ⟨0, rfl, by omega, by simp, by simp, O18, Nat.le_refl _, by simpa [sumV, wd] using E14⟩, ?_⟩
  rintro low high j h1 ⟨n, ej, nl, el, eh, O1, z1, B1⟩
  dsimp only at ej el eh
  subst ej
  unfold ref19_Run_l4b
  have zA := O.X.size
  by_cases hn : n < g.length
  · rw [if_pos (by simp; omega)]
    obtain ⟨a2, x, ha2, q0, q1, hc2, hx, hm, xv, xt⟩ := C.it O1.X (j := i + n) (by omega) (by omega)
    rw [show i + n - i = n from by omega] at hx
    have tk : g.take (n + 1) = g.take n ++ [x] := by
      obtain ⟨h1, h2⟩ := List.getElem?_eq_some_iff.1 hx
      rw [List.take_succ_eq_append_getElem h1, h2]
    refine ⟨_, CellsAt.of_blk B1, a2, ha2, q0, q1, x.f_V, hc2 2 _ rfl, wide_ok xv fun h4 X4 => ⟨(CellsAt.of_blk B1).ext X4, RAdd_ok (by have := sb n; unfold bd2; omega) (in_bd2 xv) fun h5 X5 => ?_⟩⟩
    have z4 := X4.size
    have z5 := X5.size
    have X15' := X4.trans (X5.mono z4)
    refine bset ((B1.ext X4 B1.lt).ext X5 (Nat.lt_of_lt_of_le B1.lt z4)) rfl (Nat.le_refl _) fun h6 F U => ?_
    have z6 := U.size
    have O6 : ROut hA h6 t10 rs := by
      have O5 := O1.ext X15'
      exact ⟨O5.X.trans (U.ext (by omega) (by omega)), O5.R.keep fun gg hg => U.block gg (O5.R.bd hg).2 (by have := (O.R.bd hg).2; omega), O5.l, O5.m⟩
    obtain ⟨a3, x3, ha3, q3, q4, hc3, hx3, _, _, _⟩ := C.it O6.X (j := i + n) (by omega) (by omega)
    rw [show i + n - i = n from by omega, hx] at hx3
    cases hx3
    refine ⟨a3, ha3, q3, q4, x.f_V, hc3 2 _ rfl, _, rfl, a3, ha3, q3, q4, x.f_V, hc3 2 _ rfl, _, rfl, _, rfl, ?_⟩
    rw [wrapI64 (by omega) (by omega)]
    refine ⟨⟨n + 1, by dsimp only; omega, by omega, ?_, ?_, O6, by omega, ?_⟩, by dsimp only; omega⟩
    · dsimp only; rw [tk, List.foldl_append, ← el]; rfl
    · dsimp only; rw [tk, List.foldl_append, ← eh]; rfl
    · have sv' : sumV (g.take (n + 1)) = sumV (g.take n) + x.f_V := by rw [tk]; simp [sumV]
      rw [sv']; exact F
  rw [if_neg (by simp; omega)]
  rw [List.take_of_length_le (by omega)] at el eh B1
  obtain ⟨r0, er0⟩ : ∃ r, g = x0 :: r := by cases hg : g with
    | nil => rw [hg] at hx0; cases hx0
    | cons y r => rw [hg] at hx0; simp at hx0; subst hx0; exact ⟨r, rfl⟩
  have el' : low = minV g := by rw [el, er0]; exact minV_fold
  have eh' : high = maxV g := by rw [eh, er0]; exact maxV_fold
  subst el'; subst eh'
  obtain ⟨a2, x2, ha2, q0, q1, hc2, hx2, hm2, _, _⟩ := C.it O1.X (j := i) (Nat.le_refl _) ik
  refine ⟨a2, ha2, q0, q1, x2.f_Series, cls0 hc2 rfl, bx rfl (Nat.le_refl _) fun h41 B39 X41 => ?_⟩
  rw [← C.ser hm2] at B39
  have z41 := X41.size
  have O41 := O1.ext X41
  have zA1 := O1.X.size
  have Bq := C.bq O41.X
  refine ⟨q.f_Agg, Bq.cl rfl, ?_⟩
  have fresh : ∀ gg, t10.blk = some gg → gg < h1.size := fun gg hg => (O1.R.bd hg).2
  have mn := minV_spec C.ne
  have mx := maxV_spec C.ne
  have mnb : in64 (minV g) := by obtain ⟨p, hp, e⟩ := mn.2; rw [← e]; exact (C.hv p (C.sub p hp)).1
  have mxb : in64 (maxV g) := by obtain ⟨p, hp, e⟩ := mx.2; rw [← e]; exact (C.hv p (C.sub p hp)).1
  -- one number is put into the row
  have put : ∀ (n : Int) (h2 : Heap), Ext h41.size h41 h2 → 1 ≤ q.f_Agg ∧ q.f_Agg ≤ 4 → rowsP q.f_Agg q.f_Step g = some [(ser g, 0, n)] → ∀ N4 : Int × Int × Int → Heap → Prop, ∃ h68 : Heap, WrsAt h2 ((⟨h1.size, 0, none⟩ : Addr).add 2) 2 ∧ h68 = setsH h2 ((⟨h1.size, 0, none⟩ : Addr).add 2) 0 (S_api_Wide.cs (wd n)) ∧ ref19_Run_j5 ⟨b1, 0, none⟩ A (i : Int) (kk : Int) ⟨h1.size, 0, none⟩ t10 k N1 N2 N4 h68 := fun n h2 X2 c e N4 => by
    have z2 := X2.size
    refine bsetp (B39.ext X2 B39.lt) rfl (by show 2 + 2 ≤ 4; decide) fun h3 F U => ?_
    exact J5a C (n := n) (O1.upd (X41.trans (X2.mono z41)) U (Nat.le_refl _)) (by omega) F (.inl c) fun s h' O' => fin _ s h' e O'
  by_cases c0 : q.f_Agg = 0
  · rw [if_pos (by simpa using c0)]
    refine R9_ok C O41 m c0 fun s h' O' => fin _ s h' ?_ O'
    unfold rowsP; rw [if_pos c0]
  rw [if_neg (by simpa using c0)]
  by_cases c1 : q.f_Agg = 1
  · rw [if_pos (by simpa using c1), wrapI64 (by omega) (by omega)]
    refine wide_ok ⟨by omega, by omega⟩ fun h2 X2 => put _ h2 X2 (by omega) ?_ _
    unfold rowsP; rw [if_neg c0, if_pos c1]
    rw [show (g.length : Int) = (kk : Int) - (i : Int) from by omega]
  rw [if_neg (by simpa using c1)]
  by_cases c2' : q.f_Agg = 2
  · rw [if_pos (by simpa using c2')]
    refine ⟨_, (CellsAt.of_blk B1).ext X41, put _ h41 (Ext.refl _ _) (by omega) ?_ _⟩
    unfold rowsP; rw [if_neg c0, if_neg c1, if_pos c2']
  rw [if_neg (by simpa using c2')]
  by_cases c3 : q.f_Agg = 3
  · rw [if_pos (by simpa using c3)]
    refine wide_ok mnb fun h2 X2 => put _ h2 X2 (by omega) ?_ _
    unfold rowsP; rw [if_neg c0, if_neg c1, if_neg c2', if_pos c3]
  rw [if_neg (by simpa using c3)]
  by_cases c4 : q.f_Agg = 4
  · rw [if_pos (by simpa using c4)]
    refine wide_ok mxb fun h2 X2 => put _ h2 X2 (by omega) ?_ _
    unfold rowsP; rw [if_neg c0, if_neg c1, if_neg c2', if_neg c3, if_pos c4]
  rw [if_neg (by simpa using c4)]
  by_cases c5 : q.f_Agg = 5
  · rw [if_pos (by simpa using c5)]
    have hw : IntKind.i64.wrap ((kk : Int) - 1) = ((kk - 1 : Nat) : Int) := by rw [wrapI64 (by omega) (by omega)]; omega
    rw [hw]
    obtain ⟨x, pa, hxa, u0, u1, pac, pax, _, _, _⟩ := C.it O41.X (j := i) (Nat.le_refl _) ik
    obtain ⟨y, pb, hyb, w0, w1, pbc, pbx, _, _, _⟩ := C.it O41.X (j := kk - 1) (by omega) (by omega)
    have hhead : g.head? = some pa := by rw [List.head?_eq_getElem?, ← pax, Nat.sub_self]
    have hlast : g.getLast? = some pb := by rw [List.getLast?_eq_getElem?, ← pbx]; congr 1; omega
    have done : ∀ h' x y, Ext h41.size h41 h' → Blk h' x (S_api_Piece.cs pa) 46 → Blk h' y (S_api_Piece.cs pb) 46 → ∀ N4 : Int × Int × Int → Heap → Prop, ref19_Run_j10 ⟨b1, 0, none⟩ A t10 (i : Int) (kk : Int) ⟨h1.size, 0, none⟩ ⟨x, 0, none⟩ ⟨y, 0, none⟩ k N1 N2 N4 h' := fun h' x y X' PA PB N4 =>
      J10_ok C (O41.ext X') (by omega) c5 (B39.ext X' B39.lt) fresh zA1 PA PB hhead hlast bad fin
    refine ⟨x, hxa, u0, u1, pa, pac, y, hyb, w0, w1, pb, pbc, ?_, ?_⟩
    · refine bx0 fun h2 B1 X1 => ⟨pbc.ext X1, pac.ext X1, bx0 fun h3 B3 X3 => ?_⟩
      have z1 := X1.size
      have z3 := X3.size
      have X := X1.trans (X3.mono z1)
      have l1 := B1.lt
      refine ⟨pbc.ext X, pac.ext X, bset (B1.ext X3 l1) rfl (Nat.le_refl _) fun h4 C4 U => ?_⟩
      have Xu := X.trans (U.ext (Nat.le_refl _) (by omega))
      have z4 := U.size
      refine ⟨pbc.ext Xu, bset (U.blk B3 (by omega)) rfl (Nat.le_refl _) fun h5 D V => done h5 _ _ (Xu.trans (V.ext (by omega) (by omega))) (V.blk C4 (by omega)) D _⟩
    · refine bx0 fun h2 B1 X1 => ⟨pbc.ext X1, pac.ext X1, bx0 fun h3 B3 X3 => ?_⟩
      have z1 := X1.size
      have z3 := X3.size
      have X := X1.trans (X3.mono z1)
      have l1 := B1.lt
      refine ⟨pbc.ext X, pac.ext X, bset B3 rfl (Nat.le_refl _) fun h4 C4 U => ?_⟩
      have Xu := X.trans (U.ext (by omega) (by omega))
      have z4 := U.size
      refine ⟨pbc.ext Xu, bset (U.blk (B1.ext X3 l1) (by omega)) rfl (Nat.le_refl _) fun h5 D V => done h5 _ _ (Xu.trans (V.ext (Nat.le_refl _) (by omega))) (V.blk C4 (by omega)) D _⟩
  rw [if_neg (by simpa using c5)]
  have c6 : q.f_Agg = 6 := by have := C.qa; omega
  rw [if_pos (by simpa using c6)]
  refine R12_ok C O41 m c6 fun s h' O' => fin _ s h' ?_ O'
  unfold rowsP; rw [if_neg c0, if_neg c1, if_neg c2', if_neg c3, if_neg c4, if_neg c5]
end
theorem RRun_ok {q : S_api_Query} {p1 : Slc} {l : List Pc} {hz : Int} {k : Slc × Int → Heap → Prop} {h : Heap} (L : Pcs h p1 l) (m : l.length ≤ 1000) (hs : q.f_Select.size ≤ 100000000) (hp : ∀ p ∈ l, p.f_Series.size ≤ 100000000 ∧ in64 p.f_V ∧ in64 p.f_T) (q6 : in64 q.f_Step)
    (H : ∀ s h', Ext h.size h h' → RowsV h' s (runP q hz (mrgR l)).1 → k (s, (runP q hz (mrgR l)).2) h') : ref19_Run q p1 hz k h := by
  unfold ref19_Run
  refine bx0 fun h2 B1 X1 => ⟨q, CellsAt.of_blk B1, RCheck19_ok hs fun h5 X5 => ?_⟩
  have z1 := X1.size
  have z5 := X5.size
  have l1 := B1.lt
  have X05 := X1.trans (X5.mono z1)
  by_cases hc : chkQ q = 0
  rotate_left
  · rw [if_pos (by simpa using hc)]
    have e : runP q hz (mrgR l) = ([], chkQ q) := by unfold runP; rw [if_pos hc]
    have := H ⟨none, 0, 0⟩ h5 X05
    rw [e] at this
    exact this (.nil _)
  rw [if_neg (by simpa using hc)]
  have B5 := B1.ext X5 l1
  refine ⟨q, CellsAt.of_blk B5, RAsk_ok (L.ext X05) m hs hc (fun p h => (hp p h).1) fun A hA RA al XA => ?_⟩
  have zA := XA.size
  have X0A := X05.trans (XA.mono X05.size)
  have IM := mrgR_is l
  obtain ⟨as', ea⟩ : ∃ x, x = askQ q hz (mrgR l) := ⟨_, rfl⟩
  have er : runP q hz (mrgR l) = match rowsL q.f_Agg q.f_Step (grp as') with | none => ([], 19) | some r => (r, 0) := by unfold runP; rw [if_neg (by simpa using hc), ea]; rfl
  rw [← ea] at RA al
  have sub : List.Sublist as' (mrgR l) := by rw [ea]; exact askQ_sub
  have asl : as'.length ≤ 1000 := Nat.le_trans sub.length_le (Nat.le_trans IM.len m)
  have qa : 0 ≤ q.f_Agg ∧ q.f_Agg ≤ 6 ∧ (q.f_Agg = 6 → 0 < q.f_Step) := by
    unfold chkQ at hc
    split at hc
    · omega
    · split at hc
      · omega
      · omega
  have hv : ∀ p ∈ as', in64 p.f_V ∧ in64 p.f_T := fun p h => (hp p (IM.sub p (sub.mem h))).2
  have LA : Pcs hA A as' := ls_of_slc pcs5 RA.slc al (by decide)
  have BA : Blk hA h.size (S_api_Query.cs q) 23 := B5.ext XA (by omega)
  have srt := IM.srt.sublist sub
  unfold ref19_Run_l1
  refine ⟨fun r h' => ∃ (i : Nat) (rs : List RI), r.2 = (i : Int) ∧ i ≤ as'.length ∧ ROut hA h' r.1 rs ∧ rs.length ≤ i ∧ rowsL q.f_Agg q.f_Step (grp as') = (rowsL q.f_Agg q.f_Step (grp (as'.drop i))).map (rs ++ ·), fun r _ => as'.length - r.2.toNat, ⟨0, [], rfl, by omega, ⟨Ext.refl _ _, Row.nil _ _ _ _, rfl, by simp⟩, by simp, by simp⟩, ?_⟩
  rintro t10 ii h1 ⟨i, rs, ei, il, O, rl, eR⟩
  dsimp only at ei O
  subst ei
  unfold ref19_Run_l1b
  rw [al]
  by_cases hi : i < as'.length
  rotate_left
  · rw [if_neg (by simp; omega)]
    rw [List.drop_of_length_le (by omega), grp_nil] at eR
    have e2 : runP q hz (mrgR l) = (rs, 0) := by rw [er, eR]; simp [rowsL]
    have := H t10 h1 (X0A.trans (O.X.mono X0A.size))
    rw [e2] at this
    exact this (.of O.R O.l)
  rw [if_pos (by simp; omega)]
  obtain ⟨x, hx⟩ : ∃ x, as'[i]? = some x := ⟨_, List.getElem?_eq_getElem hi⟩
  have dx : as'.drop i = x :: as'.drop (i + 1) := by
    obtain ⟨h1, h2⟩ := List.getElem?_eq_some_iff.1 hx
    rw [List.drop_eq_getElem_cons h1, h2]
  unfold ref19_Run_l2
  refine ⟨fun j h' => h' = h1 ∧ ∃ kk : Nat, j = (kk : Int) ∧ i ≤ kk ∧ kk ≤ as'.length ∧ ∀ y ∈ (as'.drop i).take (kk - i), y.f_Series = x.f_Series, fun j _ => as'.length - j.toNat, ⟨rfl, i, rfl, Nat.le_refl _, il, by simp⟩, ?_⟩
  rintro j h2' ⟨rfl, kk, rfl, ik, kl, al2⟩
  have itA : ∀ n, n < as'.length → ∃ a y, A.a = some a ∧ (0 : Int) ≤ (n : Int) ∧ (n : Int) < (A.len : Int) ∧ as'[n]? = some y ∧ CellsAt h2' (a.add (((n : Nat) : Int).toNat * 5)) (S_api_Piece.cs y) := fun n hn => by
    obtain ⟨a, y, ha, p0, p1, hy, hc⟩ := (LA.ext O.X).it (i := (n : Int)) (by omega) (by omega)
    rw [Int.toNat_natCast] at hy
    exact ⟨a, y, ha, p0, p1, hy, hc⟩
  unfold ref19_Run_l2b
  rw [al]
  have g3f : i < kk → (∀ y, as'[kk]? = some y → y.f_Series ≠ x.f_Series) → ref19_Run_g3 ⟨h.size, 0, none⟩ A t10 (i : Int) (kk : Int) false k (fun r h' => (∃ (i : Nat) (rs : List RI), r.2 = (i : Int) ∧ i ≤ as'.length ∧ ROut hA h' r.1 rs ∧ rs.length ≤ i ∧ rowsL q.f_Agg q.f_Step (grp as') = (rowsL q.f_Agg q.f_Step (grp (as'.drop i))).map (rs ++ ·)) ∧ as'.length - r.2.toNat < as'.length - ((i : Nat) : Int).toNat) (fun s h' => (h' = h2' ∧ ∃ kk : Nat, s = (kk : Int) ∧ i ≤ kk ∧ kk ≤ as'.length ∧ ∀ y ∈ (as'.drop i).take (kk - i), y.f_Series = x.f_Series) ∧ as'.length - s.toNat < as'.length - ((kk : Nat) : Int).toNat) h2' := fun ikl stop => by
    obtain ⟨g, eg⟩ : ∃ g, g = (as'.drop i).take (kk - i) := ⟨_, rfl⟩
    rw [← eg] at al2
    have gsub : List.Sublist g as' := by rw [eg]; exact (List.take_sublist _ _).trans (List.drop_sublist _ _)
    have same : ∀ a ∈ g, ∀ b ∈ g, a.f_Series = b.f_Series := fun a ha b hb => by rw [al2 a ha, al2 b hb]
    have C : RCtx q A as' h.size hA i kk g := ⟨LA, asl, hv, qa, q6, BA, ikl, kl, eg, by
      refine List.Pairwise.imp_of_mem ?_ (srt.sublist gsub)
      intro a b ha hb hlt
      have e := same a ha b hb
      rcases hlt with hlt | hlt
      · rw [e, cS_self] at hlt; omega
      · exact hlt.2, same⟩
    have gl := C.len
    have split : grp (as'.drop i) = g :: grp (as'.drop kk) := by
      obtain ⟨d, hd⟩ : ∃ d, kk - i = d + 1 := ⟨kk - i - 1, by omega⟩
      have := grp_split (x := x) (l := as'.drop (i + 1)) (i := d) (fun y hy => al2 y (by rw [eg, dx, hd]; exact hy)) (fun y hy => by
        rw [← dx, List.getElem?_drop, show i + (d + 1) = kk from by omega] at hy
        exact stop y hy)
      rw [dx, this, ← hd, ← dx, ← eg, List.drop_drop, show i + (kk - i) = kk from by omega]
    rw [split] at eR
    refine RG_ok C O (by omega) (fun e h' X' => ?_) (fun r2 s h' e O' => ?_)
    · have e2 : runP q hz (mrgR l) = ([], 19) := by rw [er, eR]; unfold rowsL; rw [e]; rfl
      have := H ⟨none, 0, 0⟩ h' (X0A.trans (X'.mono X0A.size))
      rw [e2] at this
      exact this (.nil _)
    · have bd := rowsP_bd C.ne e
      refine ⟨⟨kk, rs ++ r2, rfl, kl, O', by rw [List.length_append]; omega, ?_⟩, by dsimp only; omega⟩
      rw [eR]
      conv => lhs; unfold rowsL
      rw [e]
      dsimp only
      rw [Option.map_map]
      congr 1
      funext y
      simp
  by_cases hk : kk < as'.length
  · rw [if_pos (by simp; omega)]
    obtain ⟨a, y, ha, p0, p1, hy, hc1⟩ := itA kk hk
    obtain ⟨b, y2, hb, p2, p3, hy2, hc2⟩ := itA i hi
    rw [hx] at hy2; cases hy2
    rw [al] at p1 p3
    refine ⟨a, ha, p0, p1, y.f_Series, cls0 hc1 rfl, b, hb, p2, p3, x.f_Series, cls0 hc2 rfl, ?_⟩
    rw [bs_beq]
    by_cases es : y.f_Series = x.f_Series
    · rw [show decide (y.f_Series = x.f_Series) = true from by simpa using es]
      unfold ref19_Run_g3
      rw [if_pos rfl]
      refine ⟨_, rfl, ?_⟩
      rw [wrapI64 (by omega) (by omega)]
      refine ⟨⟨rfl, kk + 1, by omega, by omega, by omega, ?_⟩, by dsimp only; omega⟩
      have e : (as'.drop i).take (kk + 1 - i) = (as'.drop i).take (kk - i) ++ [y] := by
        have : (as'.drop i)[kk - i]? = some y := by rw [List.getElem?_drop, show i + (kk - i) = kk from by omega]; exact hy
        obtain ⟨h1, h2⟩ := List.getElem?_eq_some_iff.1 this
        rw [show kk + 1 - i = (kk - i) + 1 from by omega, List.take_succ_eq_append_getElem h1, h2]
      rw [e]
      intro z hz'
      rcases List.mem_append.1 hz' with h | h
      · exact al2 z h
      · simp only [List.mem_singleton] at h; rw [h]; exact es
    · rw [show decide (y.f_Series = x.f_Series) = false from by simpa using es]
      refine g3f ?_ fun z hz' => by rw [hy] at hz'; cases hz'; exact es
      rcases Nat.lt_or_eq_of_le ik with h | h
      · exact h
      · subst h; rw [hx] at hy; cases hy; exact absurd rfl es
  · rw [if_neg (by simp; omega)]
    exact g3f (by omega) fun y hy => by rw [List.getElem?_eq_none (by omega)] at hy; cases hy
end Go.Q.Yz
set_option linter.unusedVariables false
set_option linter.unusedSimpArgs false
set_option maxRecDepth 100000
/- QueryRuns over the predicates. -/
namespace Go.Q.Yz
open Go.Q.Rw
theorem Same13_ok {s t : Slc} {l : List Pc} {k : Bool → Heap → Prop} {h : Heap} (A : Pcs h s l) (B : Pcs h t l) (m : l.length ≤ 1000000) (H : k true h) : ref13_Same s t k h := by
  unfold ref13_Same
  rw [A.l, B.l, if_neg (by simp)]
  unfold ref13_Same_l1
  refine ⟨fun i h' => h' = h ∧ 0 ≤ i ∧ i ≤ (l.length : Int), fun i _ => l.length - i.toNat, ⟨rfl, Int.le_refl _, by omega⟩, ?_⟩
  rintro i h' ⟨rfl, i0, i1⟩
  unfold ref13_Same_l1b
  rw [A.l, B.l]
  by_cases hi : i < (l.length : Int)
  · rw [if_pos (by simpa using hi)]
    obtain ⟨a, x, ha, _, _, hx, hc⟩ := A.it i0 hi
    obtain ⟨b, y, hb, _, _, hy, hd⟩ := B.it i0 hi
    rw [hx] at hy; cases hy
    refine ⟨a, ha, i0, hi, x, hc, b, hb, i0, hi, x, hd, ?_⟩
    rw [if_neg (by simp)]
    refine ⟨_, rfl, ?_⟩
    rw [wI i0 hi m]
    exact ⟨⟨rfl, by omega, by omega⟩, by dsimp only; omega⟩
  · rw [if_neg (by simpa using hi)]
    exact H
theorem QueryRuns_ok {q : S_api_Query} {p1 : Slc} {l : List Pc} {hz : Int} {k : Bool → Heap → Prop} {h : Heap} (L : Pcs h p1 l) (hok : ∀ p ∈ l, OkPc p) (q6 : in64 q.f_Step) (H : ∀ h', Ext h.size h h' → k true h') : law19_QueryRuns q p1 hz k h := by
  unfold law19_QueryRuns
  refine bx0 fun h2 B1 X1 => ?_
  have z1 := X1.size
  have l1 := B1.lt
  have aw : law19_QueryRuns_g1 p1 hz ⟨h.size, 0, none⟩ true k h2 := by
    unfold law19_QueryRuns_g1
    rw [if_pos rfl]
    exact awake_ok fun h'' X => H h'' (X1.trans (X.mono z1))
  refine Great_ok (n := 40) (L.ext X1) (by decide) (by rw [if_pos rfl]; exact aw) fun l40 s400 => ?_
  rw [if_neg (by simp)]
  refine ⟨q.f_Select, B1.cl0 rfl, ?_⟩
  by_cases hs : q.f_Select.size ≤ 400
  rotate_left
  · rw [show decide ((q.f_Select.size : Int) > 400) = true from by simp; omega]
    exact aw
  rw [show decide ((q.f_Select.size : Int) > 400) = false from by simp; omega]
  unfold law19_QueryRuns_g1
  rw [if_neg (by simp)]
  have hp : ∀ p ∈ l, p.f_Series.size ≤ 100000000 ∧ in64 p.f_V ∧ in64 p.f_T := fun p hp => ⟨by have := s400 p hp; omega, hok p hp⟩
  have hp1 : ∀ p ∈ l, p.f_Series.size ≤ 100000000 := fun p h => (hp p h).1
  have hs' : q.f_Select.size ≤ 100000000 := by omega
  have L2 := L.ext X1
  have IR := mrgR_is l
  refine ⟨q, CellsAt.of_blk B1, Check_ok hs' fun h9 X9 => ?_⟩
  have z9 := X9.size
  refine ⟨q, CellsAt.of_blk (B1.ext X9 l1), ?_⟩
  -- what was asked, and the rest
  have rest : ∀ (s11 : Slc) (h12 : Heap) (as' : List Pc), Ext h9.size h9 h12 → (chkQ q ≠ 0 → s11 = ⟨none, 0, 0⟩) → (chkQ q = 0 → Pcs h12 s11 as' ∧ as' = askQ q hz (mrgR l)) →
      ∃ v13 : S_api_Query, CellsAt h12 (⟨h.size, 0, none⟩ : Addr) (S_api_Query.cs v13) ∧ (query_Run v13 p1 hz (fun (r14 : Slc × Int) h15 => ∃ v16 : S_api_Query, CellsAt h15 (⟨h.size, 0, none⟩ : Addr) (S_api_Query.cs v16) ∧ (ref19_Run v16 p1 hz (fun (r17 : Slc × Int) h18 => ∃ v19 : S_api_Query, CellsAt h18 (⟨h.size, 0, none⟩ : Addr) (S_api_Query.cs v19) ∧ (ref19_Check v19 (fun (r20 : Int) h21 => if (((chkQ q != r20) || ((s11, chkQ q).2 != chkQ q)) || (r14.2 != r17.2)) then (law19_QueryRuns_g2 p1 hz ⟨h.size, 0, none⟩ (chkQ q) s11 true k h21) else (ref19_SameRows r14.1 r17.1 (fun (r31 : Bool) h32 => law19_QueryRuns_g2 p1 hz ⟨h.size, 0, none⟩ (chkQ q) s11 (!r31) k h32) h21)) h18)) h15)) h12) := fun s11 h12 as' X12 e0 e1 => by
    have z12 := X12.size
    have X212 : Ext h2.size h2 h12 := X9.trans (X12.mono z9)
    refine ⟨q, CellsAt.of_blk (B1.ext X212 l1), Run_ok (L2.ext X212) (by omega) hs' hp q6 fun zs s14 h15 im X15 R14 _ => ?_⟩
    have z15 := X15.size
    have X215 := X212.trans (X15.mono (by omega))
    refine ⟨q, CellsAt.of_blk (B1.ext X215 l1), RRun_ok (L2.ext X215) (by omega) hs' hp q6 fun s17 h18 X18 R17 => ?_⟩
    have z18 := X18.size
    have X218 := X215.trans (X18.mono (by omega))
    refine ⟨q, CellsAt.of_blk (B1.ext X218 l1), RCheck19_ok hs' fun h21 X21 => ?_⟩
    have z21 := X21.size
    have X221 := X218.trans (X21.mono (by omega))
    have er := run_mrg (q := q) (hz := hz) im (.inl IR) fun _ => Iff.rfl
    rw [er] at R14 ⊢
    rw [if_neg (by simp)]
    have bd := runP_bd (q := q) (hz := hz) (zs := mrgR l)
    have ml := IR.len
    refine SameRows_ok ((R14.ext X18).ext X21) (R17.ext X21) (by omega) ?_
    unfold law19_QueryRuns_g2
    rw [if_neg (by simp)]
    have X021 : Ext h.size h h21 := X1.trans (X221.mono z1)
    by_cases hc : chkQ q = 0
    · rw [if_neg (by simpa using hc)]
      obtain ⟨P11, ea⟩ := e1 hc
      refine ⟨q, CellsAt.of_blk (B1.ext X221 l1), RAsk_ok (L2.ext X221) (by omega) hs' hc hp1 fun s25 h26 R25 l25 X26 => ?_⟩
      have z26 := X26.size
      have X1226 : Ext h12.size h12 h26 := X15.trans ((X18.mono z15).trans ((X21.mono (by omega)).trans (X26.mono (by omega))))
      have Q25 : Pcs h26 s25 (askQ q hz (mrgR l)) := ls_of_slc pcs5 R25.slc l25 (by decide)
      rw [ea] at P11
      refine Same13_ok (P11.ext X1226) Q25 (by have := (askQ_sub (q := q) (hz := hz) (zs := mrgR l)).length_le; omega) ?_
      rw [if_pos rfl]
      exact awake_ok fun h'' X => by unfold law19_QueryRuns_g4; exact H h'' (X021.trans (((X26.trans (X.mono z26))).mono X021.size))
    · rw [if_pos (by simpa using hc), e0 hc, if_pos (by simp)]
      exact awake_ok fun h'' X => by unfold law19_QueryRuns_g3; exact H h'' (X021.trans (X.mono X021.size))
  refine Ask_ok (L2.ext X9) (by omega) hs' hp1 (fun h12 hc X12 => ?_) (fun zs s h12 hc IM R sl X12 => ?_)
  · exact rest ⟨none, 0, 0⟩ h12 [] X12 (fun _ => rfl) fun h => absurd h hc
  · have ez : zs = mrgR l := IM.uniq IR fun _ => Iff.rfl
    have := rest s h12 (askQ q hz zs) X12 (fun h => absurd hc h) fun _ => ⟨ls_of_slc pcs5 R.slc sl (by decide), by rw [ez]⟩
    rw [hc] at this ⊢
    exact this
end Go.Q.Yz
