/- A part of the proof of statements of this seat: lemmas, no statement of their own. -/
import Derived.Test.YtidhlagdagbggaaGreatYzPc
import Derived.Test.YtidhlagdagbggaaGreatYzQa
import Derived.Test.YtidhlagdagbggaaGreatQBox
set_option linter.unusedVariables false
set_option linter.unusedSimpArgs false
set_option maxRecDepth 100000
/- Contracts: numbers, pieces between, sums. -/
namespace Go.Q.Yz
/-! numbers -/
theorem shr63 {n : Int} (b : in64 n) : shr .i64 n (63 : Int).toNat = n / 18446744073709551616 := by
  obtain ⟨b0, b1⟩ := b
  unfold shr
  rw [show min (63 : Int).toNat (IntKind.bits .i64) = 63 from rfl, Int.fdiv_eq_ediv_of_nonneg _ (by decide)]
  show n / 9223372036854775808 = _
  omega
theorem wrapU (n : Int) : IntKind.u64.wrap n = n % 18446744073709551616 := by
  unfold IntKind.wrap; simp [IntKind.signed, IntKind.bits]
theorem wrapI (n : Int) : IntKind.i64.wrap n = (n + 9223372036854775808) % 18446744073709551616 - 9223372036854775808 := by
  unfold IntKind.wrap; simp [IntKind.signed, IntKind.bits]; split <;> omega
theorem wd_hi {n : Int} (b0 : -2535301200456458802993406410752 ≤ n) (b1 : n ≤ 2535301200456458802993406410752) : in64 (wd n).f_Hi := by unfold in64 wd; dsimp only; omega
theorem Wide_ok {n : Int} {k : S_api_Wide → Heap → Prop} {h : Heap} (b : in64 n) (H : ∀ h', Ext h.size h h' → k (wd n) h') : num_Wide n k h := by
  unfold num_Wide
  refine bx rfl (by decide) fun h' B X => ⟨_, CellsAt.of_blk B, ?_⟩
  rw [shr63 b, wrapU]
  exact H h' X
abbrev bd2 (n : Int) : Prop := -1267650600228229401496703205376 ≤ n ∧ n ≤ 1267650600228229401496703205376
theorem Add_ok {a b : Int} {k : S_api_Wide × Int → Heap → Prop} {h : Heap} (ba : bd2 a) (bb : bd2 b) (H : ∀ h', Ext h.size h h' → k (wd (a + b), 0) h') : num_Add (wd a) (wd b) k h := by
  unfold num_Add
  refine bx0 fun h2 B1 X1 => bx0 fun h4 B3 X3 => bx0 fun h6 B5 X5 => ?_
  have z1 := X1.size
  have z3 := X3.size
  have z5 := X5.size
  have C1 := (B1.ext X3 B1.lt).ext X5 (Nat.lt_of_lt_of_le B1.lt z3)
  have C3 := B3.ext X5 B3.lt
  have l5 := B5.lt
  have ha : 0 ≤ (wd a).f_Lo ∧ (wd a).f_Lo < 18446744073709551616 := by unfold wd; dsimp only; omega
  have hb : 0 ≤ (wd b).f_Lo ∧ (wd b).f_Lo < 18446744073709551616 := by unfold wd; dsimp only; omega
  refine ⟨(wd a).f_Lo, C1.cl rfl, (wd b).f_Lo, C3.cl rfl, ⟨ha.1, hb.1, by omega, by omega⟩, _, rfl, _, rfl, (wd a).f_Hi, C1.cl0 rfl, (wd b).f_Hi, C3.cl0 rfl, ⟨by rw [wrapU]; omega, by rw [wrapU]; omega, by omega, by omega⟩, _, rfl, _, rfl, ?_⟩
  have e1 : ((wd a).f_Lo + (wd b).f_Lo + 0) % 18446744073709551616 = (wd (a + b)).f_Lo := by unfold wd; dsimp only; omega
  have e2 : IntKind.i64.wrap ((IntKind.u64.wrap (wd a).f_Hi + IntKind.u64.wrap (wd b).f_Hi + ((wd a).f_Lo + (wd b).f_Lo + 0) / 18446744073709551616) % 18446744073709551616) = (wd (a + b)).f_Hi := by
    rw [wrapU, wrapU, wrapI]; unfold wd; dsimp only; omega
  rw [e1, e2]
  refine bx rfl (by decide) fun h9 B9 X9 => ?_
  have z9 := X9.size
  have D1 := C1.ext X9 (by omega)
  have D3 := C3.ext X9 (by omega)
  have D5 := B5.ext X9 l5
  have ia := wd_hi (n := a) (by omega) (by omega)
  have ib := wd_hi (n := b) (by omega) (by omega)
  have ic := wd_hi (n := a + b) (by omega) (by omega)
  refine ⟨(wd a).f_Hi, D1.cl0 rfl, (wd b).f_Hi, D3.cl0 rfl, ?_⟩
  have fin : num_Add_g1 ⟨h4.size, 0, none⟩ ⟨h6.size, 0, none⟩ false k h9 := by
    unfold num_Add_g1
    rw [if_neg (by simp)]
    refine ⟨wd (a + b), CellsAt.of_blk B9, bset D5 rfl (Nat.le_refl _) fun h10 F U => ⟨_, CellsAt.of_blk F, H h10 ?_⟩⟩
    exact (X1.trans ((X3.mono z1).trans ((X5.mono (by omega)).trans (X9.mono (by omega))))).trans (U.ext (by omega) (by omega))
  rw [shr63 ia, shr63 ib]
  by_cases hs : (wd a).f_Hi / 18446744073709551616 = (wd b).f_Hi / 18446744073709551616
  · rw [if_pos (by simpa using hs)]
    refine ⟨(wd (a + b)).f_Hi, B9.cl0 rfl, (wd a).f_Hi, D1.cl0 rfl, ?_⟩
    rw [shr63 ia, shr63 ic]
    rw [show ((wd (a + b)).f_Hi / 18446744073709551616 != (wd a).f_Hi / 18446744073709551616) = false from by
      have : (wd (a + b)).f_Hi / 18446744073709551616 = (wd a).f_Hi / 18446744073709551616 := by unfold wd at hs ⊢; dsimp only at hs ⊢; omega
      simpa using this]
    exact fin
  · rw [if_neg (by simpa using hs)]
    exact fin
theorem tdiv_fl (a b : Int) (hb : 0 < b) : a / b = if a.tmod b ≠ 0 ∧ a < 0 then a.tdiv b - 1 else a.tdiv b := by
  by_cases ha : 0 ≤ a
  · rw [if_neg (by omega), Int.tdiv_eq_ediv_of_nonneg ha]
  · obtain ⟨m, rfl⟩ : ∃ m, a = -m := ⟨-a, by omega⟩
    rw [Int.neg_tmod, Int.neg_tdiv, Int.tdiv_eq_ediv_of_nonneg (by omega : 0 ≤ m), Int.tmod_eq_emod_of_nonneg (by omega : 0 ≤ m)]
    have h1 := Int.emod_nonneg m (by omega : b ≠ 0)
    have h2 := Int.emod_lt_of_pos m hb
    have h3 := Int.emod_add_mul_ediv m b
    by_cases hr : m % b = 0
    · rw [if_neg (by omega)]
      have : -m = b * -(m / b) := by rw [Int.mul_neg]; omega
      rw [this, Int.mul_ediv_cancel_left _ (by omega)]
    · rw [if_pos (by omega)]
      have : -m = (b - m % b) + b * (-(m / b) - 1) := by rw [Int.mul_sub, Int.mul_neg]; omega
      rw [this, Int.add_mul_ediv_left _ _ (by omega), Int.ediv_eq_zero_of_lt (by omega) (by omega)]
      omega
theorem fl_in {a b : Int} (ha : in64 a) (hb : 0 < b) : in64 (a / b) := by
  obtain ⟨a0, a1⟩ := ha
  constructor
  · by_cases h : 0 ≤ a
    · have := Int.ediv_nonneg h (by omega : 0 ≤ b); omega
    · have : a ≤ a / b := by
        have h3 := Int.emod_add_mul_ediv a b
        have h2 := Int.emod_lt_of_pos a hb
        rcases Int.lt_or_le (a / b) a with hlt | hle
        · have : b * (a / b) ≤ b * (a - 1) := Int.mul_le_mul_of_nonneg_left (by omega) (by omega)
          rw [Int.mul_sub] at this
          have : b * a ≤ 1 * a := Int.mul_le_mul_of_nonpos_right (by omega) (by omega)
          omega
        · exact hle
      omega
  · by_cases h : 0 ≤ a
    · have := Int.ediv_le_self b h; omega
    · have := Int.ediv_neg_of_neg_of_pos (by omega : a < 0) hb; omega
theorem Floor_ok {a b : Int} {k : Int × Int → Heap → Prop} {h : Heap} (ia : in64 a) (ib : in64 b) (hb : 0 < b) (H : k (a / b, 0) h) : num_Floor a b k h := by
  unfold num_Floor num_Floor_j1
  rw [if_neg (by simp; omega), if_neg (by simp; omega)]
  have fi := fl_in ia hb
  have hd := tdiv_fl a b hb
  obtain ⟨a0, a1⟩ := ia
  obtain ⟨b0, b1⟩ := ib
  have ti : in64 (a.tdiv b) := by
    unfold in64 at *
    by_cases c : a.tmod b ≠ 0 ∧ a < 0
    · rw [if_pos c] at hd
      have : a.tdiv b ≤ 0 := by
        obtain ⟨m, rfl⟩ : ∃ m, a = -m := ⟨-a, by omega⟩
        rw [Int.neg_tdiv, Int.tdiv_eq_ediv_of_nonneg (by omega : 0 ≤ m)]
        have := Int.ediv_nonneg (by omega : 0 ≤ m) (by omega : 0 ≤ b); omega
      omega
    · rw [if_neg c] at hd; omega
  refine ⟨by omega, _, rfl, by omega, ?_⟩
  rw [shr63 ⟨a0, a1⟩, shr63 ⟨b0, b1⟩, wrapI64 ti.1 ti.2]
  have hbz : b / 18446744073709551616 = 0 := by omega
  by_cases c : a.tmod b ≠ 0 ∧ a < 0
  · rw [if_pos c] at hd
    rw [if_pos (by rw [hbz]; simp; exact ⟨c.1, by omega⟩)]
    refine ⟨_, rfl, ?_⟩
    rw [← hd, wrapI64 fi.1 fi.2]; exact H
  · rw [if_neg c] at hd
    rw [if_neg (by rw [hbz]; simp only [Bool.and_eq_true, bne_iff_ne]; intro hh; exact c ⟨hh.1, by have := hh.2; omega⟩)]
    rw [← hd]; exact H
/-! pieces -/
theorem pcs_one (x : Pc) : ∀ v ∈ S_api_Piece.cs x, v.oneCell' = true := fun v hv => by simp [S_api_Piece.cs, S_api_Id.cs] at hv; rcases hv with rfl | rfl | rfl | rfl | rfl <;> rfl
theorem rcs4 (x : S_api_Row) : (S_api_Row.cs x).length = 4 := rfl
theorem rcs_one (x : S_api_Row) : ∀ v ∈ S_api_Row.cs x, v.oneCell' = true := fun v hv => by simp [S_api_Row.cs, S_api_Wide.cs] at hv; rcases hv with rfl | rfl | rfl | rfl <;> rfl
abbrev Pcs (h : Heap) (s : Slc) (l : List Pc) : Prop := LsAt S_api_Piece.cs 5 h s l
theorem wI {i : Int} {n : Nat} (h0 : 0 ≤ i) (h1 : i < (n : Int)) (hn : n ≤ 1000000) : IntKind.i64.wrap (i + 1) = i + 1 := wrapI64 (by omega) (by omega)
theorem take1 {α : Type} {l : List α} {i : Int} {x : α} (h0 : 0 ≤ i) (hx : l[i.toNat]? = some x) : l.take (i + 1).toNat = l.take i.toNat ++ [x] := by
  obtain ⟨hl, e⟩ := List.getElem?_eq_some_iff.1 hx
  rw [show (i + 1).toNat = i.toNat + 1 from by omega, List.take_succ_eq_append_getElem hl, e]
theorem take_all {α : Type} {l : List α} {i : Int} (h : (l.length : Int) ≤ i) : l.take i.toNat = l := List.take_of_length_le (by omega)
theorem Between_ok {p0 : Slc} {l : List Pc} {f t : Int} {k : Slc → Heap → Prop} {h : Heap} (L : Pcs h p0 l) (m : l.length ≤ 1000000)
    (H : ∀ s h', Row h.size h' 46 5 s ((l.filter fun p => decide (f ≤ p.f_T) && decide (p.f_T ≤ t)).flatMap S_api_Piece.cs) → s.len = (l.filter fun p => decide (f ≤ p.f_T) && decide (p.f_T ≤ t)).length → Ext h.size h h' → k s h') : piece_Between p0 f t k h := by
  unfold piece_Between piece_Between_l1
  obtain ⟨fl, efl⟩ : ∃ fl : Pc → Bool, fl = fun p => decide (f ≤ p.f_T) && decide (p.f_T ≤ t) := ⟨_, rfl⟩
  rw [← efl] at H
  refine ⟨fun q h' => 0 ≤ q.2 ∧ q.2 ≤ (l.length : Int) ∧ Ext h.size h h' ∧ Row h.size h' 46 5 q.1 (((l.take q.2.toNat).filter fl).flatMap S_api_Piece.cs) ∧ q.1.len = ((l.take q.2.toNat).filter fl).length, fun q _ => l.length - q.2.toNat, ⟨by dsimp only; omega, by dsimp only; omega, Ext.refl _ _, by simpa using Row.nil _ _ _ _, by simp⟩, ?_⟩
  rintro t7 i h1 ⟨i0, i1, X, R, rl⟩
  dsimp only at i0 i1 R rl ⊢
  unfold piece_Between_l1b
  rw [L.l]
  have z1 := X.size
  by_cases hi : i < (l.length : Int)
  · rw [if_pos (by simpa using hi)]
    obtain ⟨a, x, ha, g0, g1, hx, hc⟩ := (L.ext X).it i0 hi
    rw [L.l] at g1
    refine ⟨a, ha, g0, g1, x, hc, bx rfl (by decide) fun h5 B X5 => ?_⟩
    have z5 := X5.size
    have X05 := X.trans (X5.mono z1)
    have fi : fl x = (decide (f ≤ x.f_T) && decide (x.f_T ≤ t)) := by rw [efl]
    have tk := take1 i0 hx
    have ln : ((l.take i.toNat).filter fl).length ≤ 1000000 := Nat.le_trans (List.length_filter_le _ _) (by rw [List.length_take]; omega)
    have R5 := R.ext X5 fun g hg => (R.bd hg).2
    have nxt : ∀ s h6, Ext h.size h h6 → Row h.size h6 46 5 s (((l.take (i + 1).toNat).filter fl).flatMap S_api_Piece.cs) → s.len = ((l.take (i + 1).toNat).filter fl).length → piece_Between_j2 f t p0 (l.length : Int) i s k (fun s h' => (0 ≤ s.2 ∧ s.2 ≤ (l.length : Int) ∧ Ext h.size h h' ∧ Row h.size h' 46 5 s.1 (((l.take s.2.toNat).filter fl).flatMap S_api_Piece.cs) ∧ s.1.len = ((l.take s.2.toNat).filter fl).length) ∧ l.length - s.2.toNat < l.length - i.toNat) h6 := fun s h6 X6 R6 l6 => by
      unfold piece_Between_j2
      rw [wI i0 hi m]
      exact ⟨⟨by dsimp only; omega, by dsimp only; omega, X6, R6, l6⟩, by dsimp only; omega⟩
    have g3 : ∀ b, b = fl x → piece_Between_g3 f t t7 ⟨h1.size, 0, none⟩ p0 (l.length : Int) i b k _ h5 := fun b hb => by
      unfold piece_Between_g3
      cases hf : b with
      | true =>
        rw [if_pos rfl]
        refine ⟨x, CellsAt.of_blk B, bx0 fun h9 B9 X9 => app1 (R5.ext X9 fun g hg => (R5.bd hg).2) (by have := X9.size; omega) rfl rfl (pcs_one x) (by omega) (by unfold maxLen; omega) fun s h10 R10 l10 X10 => ?_⟩
        have ef : (l.take (i + 1).toNat).filter fl = (l.take i.toNat).filter fl ++ [x] := by rw [tk, List.filter_append]; simp [← hb, hf]
        refine nxt s h10 ((X05.trans (X9.mono (by omega))).trans X10) ?_ ?_
        · rw [ef, List.flatMap_append]; simpa using R10
        · rw [ef, l10, rl]; simp
      | false =>
        rw [if_neg (by simp)]
        have ef : (l.take (i + 1).toNat).filter fl = (l.take i.toNat).filter fl := by rw [tk, List.filter_append]; simp [← hb, hf]
        refine nxt t7 h5 X05 ?_ ?_
        · rw [ef]; exact R5
        · rw [ef]; exact rl
    refine ⟨x.f_T, B.cl rfl, ?_⟩
    by_cases hf : f ≤ x.f_T
    · rw [if_pos (by simpa using hf)]
      exact ⟨x.f_T, B.cl rfl, g3 _ (by rw [fi]; simp [hf])⟩
    · rw [if_neg (by simpa using hf)]
      exact g3 _ (by rw [fi]; simp [hf])
  · rw [if_neg (by simpa using hi)]
    rw [take_all (by omega)] at R rl
    exact H t7 h1 R rl X
/-! sums -/
theorem sumV_take {l : List Pc} {i : Int} {x : Pc} (h0 : 0 ≤ i) (hx : l[i.toNat]? = some x) : sumV (l.take (i + 1).toNat) = sumV (l.take i.toNat) + x.f_V := by
  rw [take1 h0 hx]; simp [sumV]
theorem sumV_bd : ∀ {l : List Pc}, (∀ p ∈ l, in64 p.f_V) → -9223372036854775808 * (l.length : Int) ≤ sumV l ∧ sumV l ≤ 9223372036854775808 * (l.length : Int)
  | [], _ => by simp [sumV]
  | x :: l, hb => by
    have ih := sumV_bd (l := l) fun p hp => hb p (List.mem_cons_of_mem _ hp)
    have hx := hb x List.mem_cons_self
    unfold in64 at hx
    simp only [sumV, List.map_cons, List.sum_cons, List.length_cons] at *
    omega
theorem sumV_bd2 {l : List Pc} (hb : ∀ p ∈ l, in64 p.f_V) (m : l.length ≤ 1000000) : bd2 (sumV l) := by
  have := sumV_bd hb
  unfold bd2; omega
theorem in_bd2 {n : Int} (h : in64 n) : bd2 n := by unfold in64 at h; unfold bd2; omega
theorem Sum_ok {p0 : Slc} {l : List Pc} {k : S_api_Wide → Heap → Prop} {h : Heap} (L : Pcs h p0 l) (m : l.length ≤ 1000000) (hb : ∀ p ∈ l, in64 p.f_V) (H : ∀ h', Ext h.size h h' → k (wd (sumV l)) h') : query_sum p0 k h := by
  unfold query_sum query_sum_l1
  refine bx0 fun h2 B1 X1 => bx0 fun h4 B3 X3 => ?_
  have z1 := X1.size
  have z3 := X3.size
  have l1 := B1.lt
  refine ⟨fun i h' => 0 ≤ i ∧ i ≤ (l.length : Int) ∧ Ext h.size h h' ∧ h4.size ≤ h'.size ∧ Blk h' h.size (S_api_Wide.cs ⟨0, 0⟩) 48 ∧ Blk h' h2.size (S_api_Wide.cs (wd (sumV (l.take i.toNat)))) 48, fun i _ => l.length - i.toNat, ⟨by omega, by omega, X1.trans (X3.mono z1), Nat.le_refl _, B1.ext X3 l1, by simpa [sumV, wd] using B3⟩, ?_⟩
  rintro i h5 ⟨i0, i1, X, z5, C1, C3⟩
  unfold query_sum_l1b
  rw [L.l]
  have hz := X.size
  have hbt : ∀ p ∈ l.take i.toNat, in64 p.f_V := fun p hp => hb p (List.mem_of_mem_take hp)
  by_cases hi : i < (l.length : Int)
  · rw [if_pos (by simpa using hi)]
    obtain ⟨a, x, ha, g0, g1, hx, hc⟩ := (L.ext X).it i0 hi
    rw [L.l] at g1
    refine ⟨a, ha, g0, g1, x, hc, bx rfl (by decide) fun h9 B9 X9 => ?_⟩
    have z9 := X9.size
    have D3 := C3.ext X9 C3.lt
    have D1 := C1.ext X9 C1.lt
    have vx := hb x (List.mem_of_getElem? hx)
    refine ⟨_, CellsAt.of_blk D3, x.f_V, B9.cl rfl, Wide_ok vx fun h13 X13 => ⟨(CellsAt.of_blk D3).ext X13, Add_ok (sumV_bd2 hbt (by rw [List.length_take]; omega)) (in_bd2 vx) fun h16 X16 => ?_⟩⟩
    have z13 := X13.size
    have z16 := X16.size
    have E3 := (D3.ext X13 D3.lt).ext X16 (Nat.lt_of_lt_of_le D3.lt z13)
    have E1 := (D1.ext X13 D1.lt).ext X16 (Nat.lt_of_lt_of_le D1.lt z13)
    refine bset E3 rfl (Nat.le_refl 2) fun h17 F U => ?_
    have z17 := U.size
    rw [wI i0 hi m]
    refine ⟨⟨by omega, by omega, ((X.trans (X9.mono hz)).trans ((X13.mono (by omega)).trans (X16.mono (by omega)))).trans (U.ext (by omega) (by omega)), by omega, U.blk E1 (by omega), ?_⟩, by dsimp only; omega⟩
    rw [sumV_take i0 hx]; exact F
  · rw [if_neg (by simpa using hi)]
    rw [take_all (by omega)] at C3
    refine ⟨_, CellsAt.of_blk C3, bset C1 rfl (Nat.le_refl _) fun h9 F U => ⟨_, CellsAt.of_blk F, H h9 (X.trans (U.ext (by omega) (by omega)))⟩⟩
end Go.Q.Yz
set_option linter.unusedVariables false
set_option linter.unusedSimpArgs false
set_option maxRecDepth 100000
/- Contracts: least, greatest, rates, steps, rows. -/
namespace Go.Q.Yz
theorem QLess_ok {x y : Pc} {k : Int → Heap → Prop} {h : Heap} (H : ∀ h', Ext h.size h h' → k (cI x.f_V y.f_V) h') : query_less x y k h := by
  unfold query_less
  unfold cI at H
  refine bx0 fun h2 B1 X1 => bx0 fun h4 B3 X3 => ?_
  have z1 := X1.size
  have C1 := B1.ext X3 B1.lt
  have X := X1.trans (X3.mono z1)
  refine ⟨x.f_V, C1.cl rfl, y.f_V, B3.cl rfl, ?_⟩
  by_cases h1 : x.f_V < y.f_V
  · rw [if_pos (by simpa using h1)]
    rw [if_pos h1] at H; exact ⟨_, rfl, H _ X⟩
  · rw [if_neg (by simpa using h1)]
    rw [if_neg h1] at H
    refine ⟨x.f_V, C1.cl rfl, y.f_V, B3.cl rfl, ?_⟩
    by_cases h2 : x.f_V > y.f_V
    · rw [if_pos (by simpa using h2)]
      rw [if_pos h2] at H; exact H _ X
    · rw [if_neg (by simpa using h2)]
      rw [if_neg h2] at H; exact H _ X
theorem cI_neg {a b : Int} : cI a b < 0 ↔ a < b := by unfold cI; split <;> (try split) <;> omega
theorem cI_pos {a b : Int} : cI a b > 0 ↔ a > b := by unfold cI; split <;> (try split) <;> omega
theorem minV_snoc {g : List Pc} {x : Pc} (hg : g ≠ []) : minV (g ++ [x]) = if x.f_V < minV g then x.f_V else minV g := by
  cases g with
  | nil => exact absurd rfl hg
  | cons a r => simp only [minV, List.cons_append, List.foldl_append, List.foldl_cons, List.foldl_nil]; rfl
theorem maxV_snoc {g : List Pc} {x : Pc} (hg : g ≠ []) : maxV (g ++ [x]) = if x.f_V > maxV g then x.f_V else maxV g := by
  cases g with
  | nil => exact absurd rfl hg
  | cons a r => simp only [maxV, List.cons_append, List.foldl_append, List.foldl_cons, List.foldl_nil]; rfl
theorem Min_ok {p0 : Slc} {l : List Pc} {k : Pc → Heap → Prop} {h : Heap} (L : Pcs h p0 l) (m : l.length ≤ 1000000) (ne : l ≠ []) (H : ∀ y h', y ∈ l → y.f_V = minV l → Ext h.size h h' → k y h') : slices_MinFunc_api_Piece_api_Piece__query_less p0 k h := by
  unfold slices_MinFunc_api_Piece_api_Piece__query_less
  have pos : 0 < l.length := List.length_pos_iff.2 ne
  refine bx0 fun h2 B1 X1 => ?_
  rw [if_neg (by rw [L.l]; simp; omega)]
  unfold slices_MinFunc_api_Piece_api_Piece__query_less_j1
  have z1 := X1.size
  obtain ⟨a, x, ha, g0, g1, hx, hc⟩ := (L.ext X1).it (i := 0) (Int.le_refl _) (by omega)
  refine ⟨a, ha, g0, g1, x, hc, bx rfl (by decide) fun h7 B5 X5 => ?_⟩
  have z5 := X5.size
  unfold slices_MinFunc_api_Piece_api_Piece__query_less_l2
  refine ⟨fun i h' => 1 ≤ i ∧ i ≤ (l.length : Int) ∧ Ext h.size h h' ∧ h7.size ≤ h'.size ∧ Blk h' h.size (S_api_Piece.cs ⟨ByteArray.empty, 0, 0, ⟨0, 0⟩⟩) 46 ∧ ∃ y, y ∈ l ∧ y.f_V = minV (l.take i.toNat) ∧ Blk h' h2.size (S_api_Piece.cs y) 46, fun i _ => l.length - i.toNat,
    ⟨Int.le_refl _, by omega, X1.trans (X5.mono z1), Nat.le_refl _, B1.ext X5 B1.lt, x, List.mem_of_getElem? hx, ?_, B5⟩, ?_⟩
  · cases l with
    | nil => simp at pos
    | cons b r => simp at hx; subst hx; rfl
  rintro i h8 ⟨i0, i1, X, z8, C1, y, yl, yv, C5⟩
  unfold slices_MinFunc_api_Piece_api_Piece__query_less_l2b
  rw [L.l]
  have hz := X.size
  have l1 := B1.lt
  by_cases hi : i < (l.length : Int)
  · rw [if_pos (by simpa using hi)]
    obtain ⟨a, x, ha, g0, g1, hx, hc⟩ := (L.ext X).it (i := i) (by omega) hi
    rw [L.l] at g1
    refine ⟨a, ha, g0, g1, x, hc, y, CellsAt.of_blk C5, QLess_ok fun h13 X13 => ?_⟩
    have z13 := X13.size
    have D5 := C5.ext X13 C5.lt
    have D1 := C1.ext X13 C1.lt
    have X03 := X.trans (X13.mono hz)
    have tk := take1 (by omega) hx
    have sn := minV_snoc (g := l.take i.toNat) (x := x) (by intro e; have := congrArg List.length e; rw [List.length_take, List.length_nil] at this; omega)
    rw [← tk, ← yv] at sn
    by_cases hv : x.f_V < y.f_V
    · rw [if_pos (by simpa using cI_neg.2 hv)]
      rw [if_pos hv] at sn
      refine ⟨a, ha, g0, g1, x, hc.ext X13, bset D5 rfl (Nat.le_refl _) fun h16 F U => ?_⟩
      have z16 := U.size
      refine ⟨_, rfl, ?_⟩
      rw [wI (by omega) hi m]
      exact ⟨⟨by omega, by omega, X03.trans (U.ext (by omega) (by omega)), by omega, U.blk D1 (by omega), x, List.mem_of_getElem? hx, sn.symm, F⟩, by dsimp only; omega⟩
    · rw [if_neg (by simpa using fun h => hv (cI_neg.1 h))]
      rw [if_neg hv] at sn
      refine ⟨_, rfl, ?_⟩
      rw [wI (by omega) hi m]
      exact ⟨⟨by omega, by omega, X03, by omega, D1, y, yl, sn.symm, D5⟩, by dsimp only; omega⟩
  · rw [if_neg (by simpa using hi)]
    rw [take_all (by omega)] at yv
    exact ⟨y, CellsAt.of_blk C5, bset C1 rfl (Nat.le_refl _) fun h9 F U => ⟨_, CellsAt.of_blk F, H y h9 yl yv (X.trans (U.ext (by omega) (by omega)))⟩⟩
theorem Max_ok {p0 : Slc} {l : List Pc} {k : Pc → Heap → Prop} {h : Heap} (L : Pcs h p0 l) (m : l.length ≤ 1000000) (ne : l ≠ []) (H : ∀ y h', y ∈ l → y.f_V = maxV l → Ext h.size h h' → k y h') : slices_MaxFunc_api_Piece_api_Piece__query_less p0 k h := by
  unfold slices_MaxFunc_api_Piece_api_Piece__query_less
  have pos : 0 < l.length := List.length_pos_iff.2 ne
  refine bx0 fun h2 B1 X1 => ?_
  rw [if_neg (by rw [L.l]; simp; omega)]
  unfold slices_MaxFunc_api_Piece_api_Piece__query_less_j1
  have z1 := X1.size
  obtain ⟨a, x, ha, g0, g1, hx, hc⟩ := (L.ext X1).it (i := 0) (Int.le_refl _) (by omega)
  refine ⟨a, ha, g0, g1, x, hc, bx rfl (by decide) fun h7 B5 X5 => ?_⟩
  have z5 := X5.size
  unfold slices_MaxFunc_api_Piece_api_Piece__query_less_l2
  refine ⟨fun i h' => 1 ≤ i ∧ i ≤ (l.length : Int) ∧ Ext h.size h h' ∧ h7.size ≤ h'.size ∧ Blk h' h.size (S_api_Piece.cs ⟨ByteArray.empty, 0, 0, ⟨0, 0⟩⟩) 46 ∧ ∃ y, y ∈ l ∧ y.f_V = maxV (l.take i.toNat) ∧ Blk h' h2.size (S_api_Piece.cs y) 46, fun i _ => l.length - i.toNat,
    ⟨Int.le_refl _, by omega, X1.trans (X5.mono z1), Nat.le_refl _, B1.ext X5 B1.lt, x, List.mem_of_getElem? hx, ?_, B5⟩, ?_⟩
  · cases l with
    | nil => simp at pos
    | cons b r => simp at hx; subst hx; rfl
  rintro i h8 ⟨i0, i1, X, z8, C1, y, yl, yv, C5⟩
  unfold slices_MaxFunc_api_Piece_api_Piece__query_less_l2b
  rw [L.l]
  have hz := X.size
  have l1 := B1.lt
  by_cases hi : i < (l.length : Int)
  · rw [if_pos (by simpa using hi)]
    obtain ⟨a, x, ha, g0, g1, hx, hc⟩ := (L.ext X).it (i := i) (by omega) hi
    rw [L.l] at g1
    refine ⟨a, ha, g0, g1, x, hc, y, CellsAt.of_blk C5, QLess_ok fun h13 X13 => ?_⟩
    have z13 := X13.size
    have D5 := C5.ext X13 C5.lt
    have D1 := C1.ext X13 C1.lt
    have X03 := X.trans (X13.mono hz)
    have tk := take1 (by omega) hx
    have sn := maxV_snoc (g := l.take i.toNat) (x := x) (by intro e; have := congrArg List.length e; rw [List.length_take, List.length_nil] at this; omega)
    rw [← tk, ← yv] at sn
    by_cases hv : x.f_V > y.f_V
    · rw [if_pos (by simpa using cI_pos.2 hv)]
      rw [if_pos hv] at sn
      refine ⟨a, ha, g0, g1, x, hc.ext X13, bset D5 rfl (Nat.le_refl _) fun h16 F U => ?_⟩
      have z16 := U.size
      refine ⟨_, rfl, ?_⟩
      rw [wI (by omega) hi m]
      exact ⟨⟨by omega, by omega, X03.trans (U.ext (by omega) (by omega)), by omega, U.blk D1 (by omega), x, List.mem_of_getElem? hx, sn.symm, F⟩, by dsimp only; omega⟩
    · rw [if_neg (by simpa using fun h => hv (cI_pos.1 h))]
      rw [if_neg hv] at sn
      refine ⟨_, rfl, ?_⟩
      rw [wI (by omega) hi m]
      exact ⟨⟨by omega, by omega, X03, by omega, D1, y, yl, sn.symm, D5⟩, by dsimp only; omega⟩
  · rw [if_neg (by simpa using hi)]
    rw [take_all (by omega)] at yv
    exact ⟨y, CellsAt.of_blk C5, bset C1 rfl (Nat.le_refl _) fun h9 F U => ⟨_, CellsAt.of_blk F, H y h9 yl yv (X.trans (U.ext (by omega) (by omega)))⟩⟩
/-! rates -/
theorem Minus_ok {a b : Int} {k : Int × Bool → Heap → Prop} {h : Heap} (ia : in64 a) (ib : in64 b) (H : ∀ d, (in64 (a - b) → d = a - b) → k (d, decide (in64 (a - b))) h) : query_minus a b k h := by
  unfold query_minus
  refine ⟨_, rfl, ?_⟩
  have e : ((decide (IntKind.i64.wrap (a - b) < a)) == (decide (b > 0))) = decide (in64 (a - b)) := by
    rw [wrapI, Bool.eq_iff_iff]
    simp only [beq_iff_eq, decide_eq_decide, decide_eq_true_eq]
    obtain ⟨a0, a1⟩ := ia
    obtain ⟨b0, b1⟩ := ib
    constructor
    · intro h; exact ⟨by omega, by omega⟩
    · rintro ⟨h, h2⟩; omega
  rw [e]
  exact H _ fun hi => wrapI64 hi.1 hi.2
theorem Rate_ok {p0 : Slc} {l : List Pc} {k : Int × Int → Heap → Prop} {h : Heap} (L : Pcs h p0 l) (m : l.length ≤ 1000000) (hb : ∀ p ∈ l, in64 p.f_V ∧ in64 p.f_T) {a b : Pc} (ha : l.head? = some a) (hl : l.getLast? = some b) (ht : a.f_T < b.f_T)
    (H0 : ∀ h', rateP l = none → Ext h.size h h' → k (0, 19) h') (H1 : ∀ n h', rateP l = some n → in64 n → Ext h.size h h' → k (n, 0) h') : query_rate p0 k h := by
  have ab := hb a (List.mem_of_mem_head? ha)
  have bb := hb b (List.mem_of_getLast? hl)
  have ne : l ≠ [] := by rintro rfl; cases ha
  have pos : 0 < l.length := List.length_pos_iff.2 ne
  have ha0 : l[(0 : Int).toNat]? = some a := by rw [← ha, List.head?_eq_getElem?]; rfl
  have hlw : IntKind.i64.wrap ((p0.len : Int) - 1) = (l.length : Int) - 1 := by rw [L.l, wrapI64 (by omega) (by omega)]
  have hb0 : l[((l.length : Int) - 1).toNat]? = some b := by rw [← hl, List.getLast?_eq_getElem?]; congr 1; omega
  have j1 : ∀ x y h', Ext h.size h h' → Blk h' x (S_api_Piece.cs a) 46 → Blk h' y (S_api_Piece.cs b) 46 → query_rate_j1 ⟨x, 0, none⟩ ⟨y, 0, none⟩ k h' := fun x y h' X A B => by
    unfold query_rate_j1
    refine ⟨b.f_V, B.cl rfl, a.f_V, A.cl rfl, Minus_ok bb.1 ab.1 fun dv ev => ⟨b.f_T, B.cl rfl, a.f_T, A.cl rfl, Minus_ok bb.2 ab.2 fun dt et => ?_⟩⟩
    by_cases c : in64 (b.f_V - a.f_V) ∧ in64 (b.f_T - a.f_T)
    · rw [if_neg (by simp [c.1, c.2])]
      rw [ev c.1, et c.2]
      refine Floor_ok c.1 c.2 (by omega) (H1 _ h' ?_ (fl_in c.1 (by omega)) X)
      unfold rateP; rw [ha, hl]; dsimp only; rw [if_pos c]
    · rw [if_pos (by
        by_cases c1 : in64 (b.f_V - a.f_V)
        · simp [show ¬ in64 (b.f_T - a.f_T) from fun c2 => c ⟨c1, c2⟩]
        · simp [c1])]
      exact H0 h' (by unfold rateP; rw [ha, hl]; dsimp only; rw [if_neg c]) X
  unfold query_rate
  rw [hlw]
  obtain ⟨x, v, hx, x0, x1, xv, xc⟩ := L.it (i := 0) (Int.le_refl _) (by omega)
  rw [ha0] at xv; cases xv
  obtain ⟨y, w, hy, y0, y1, yv, yc⟩ := L.it (i := (l.length : Int) - 1) (by omega) (by omega)
  rw [hb0] at yv; cases yv
  refine ⟨x, hx, x0, x1, a, xc, y, hy, y0, y1, b, yc, ?_, ?_⟩
  · refine bx0 fun h2 B1 X1 => ⟨yc.ext X1, xc.ext X1, bx0 fun h3 B3 X3 => ?_⟩
    have z1 := X1.size
    have z3 := X3.size
    have X := X1.trans (X3.mono z1)
    refine ⟨yc.ext X, xc.ext X, bset (B1.ext X3 B1.lt) rfl (by decide) fun h4 C U => ?_⟩
    have Xu := X.trans (U.ext (Nat.le_refl _) (by omega))
    have z4 := U.size
    have l1 := B1.lt
    refine ⟨yc.ext Xu, bset (U.blk B3 (by omega)) rfl (by decide) fun h5 D V => j1 _ _ h5 (Xu.trans (V.ext (by omega) (by omega))) (V.blk C (by omega)) D⟩
  · refine bx0 fun h2 B1 X1 => ⟨yc.ext X1, xc.ext X1, bx0 fun h3 B3 X3 => ?_⟩
    have z1 := X1.size
    have z3 := X3.size
    have X := X1.trans (X3.mono z1)
    have l1 := B1.lt
    refine ⟨yc.ext X, xc.ext X, bset B3 rfl (by decide) fun h4 C U => ?_⟩
    have Xu := X.trans (U.ext (by omega) (by omega))
    have z4 := U.size
    refine ⟨yc.ext Xu, bset (U.blk (B1.ext X3 l1) (by omega)) rfl (by decide) fun h5 D V => j1 _ _ h5 (Xu.trans (V.ext (Nat.le_refl _) (by omega))) (V.blk C (by omega)) D⟩
end Go.Q.Yz
set_option linter.unusedVariables false
set_option linter.unusedSimpArgs false
set_option maxRecDepth 100000
/- Contracts: steps, rows, groups. -/
namespace Go.Q.Yz
/-! steps -/
def rvs (rs : List RI) : List Value := (rs.map toRow).flatMap S_api_Row.cs
theorem rvs_len (rs : List RI) : (rvs rs).length = rs.length * 4 := by unfold rvs; rw [fm_len rcs4, List.length_map]
theorem rvs_app (a b : List RI) : rvs (a ++ b) = rvs a ++ rvs b := by unfold rvs; rw [List.map_append, List.flatMap_append]
theorem rvs_one (r : RI) : rvs [r] = S_api_Row.cs (toRow r) := by unfold rvs; simp
theorem rvs_cells (rs : List RI) : ∀ v ∈ rvs rs, v.oneCell' = true := fun v hv => by
  obtain ⟨x, _, h⟩ := List.mem_flatMap.1 hv; exact rcs_one x v h
theorem eachP_snoc (step : Int) (g : List Pc) (x : Pc) : eachP step (g ++ [x]) = eachE step (eachP step g) x := by unfold eachP; rw [List.foldl_append]; rfl
theorem last_split {α : Type} {l : List α} {r : α} (h : l.getLast? = some r) : l = l.dropLast ++ [r] := by
  have ne : l ≠ [] := by rintro rfl; cases h
  rw [List.getLast?_eq_some_getLast ne] at h
  cases h
  exact (List.dropLast_concat_getLast ne).symm
theorem eachE_len (step : Int) (o : List RI) (p : Pc) : (eachE step o p).length ≤ o.length + 1 := by
  unfold eachE
  split
  · split
    · rw [List.length_append, List.length_dropLast]; simp
    · simp
  · simp
theorem Each_ok {p0 : Slc} {l : List Pc} {step : Int} {k : Slc → Heap → Prop} {h : Heap} (L : Pcs h p0 l) (m : l.length ≤ 1000000) (hb : ∀ p ∈ l, in64 p.f_V ∧ in64 p.f_T) (s0 : 0 < step) (s1 : in64 step)
    (H : ∀ s h', Row h.size h' 50 4 s (rvs (eachP step l)) → s.len = (eachP step l).length → Ext h.size h h' → k s h') : query_each p0 step k h := by
  unfold query_each query_each_l1
  refine ⟨fun q h' => 0 ≤ q.2 ∧ q.2 ≤ (l.length : Int) ∧ Ext h.size h h' ∧ Row h.size h' 50 4 q.1 (rvs (eachP step (l.take q.2.toNat))) ∧ q.1.len = (eachP step (l.take q.2.toNat)).length ∧ q.1.len ≤ q.2.toNat ∧ ∀ r ∈ eachP step (l.take q.2.toNat), -9223372036854775808 * q.2 ≤ r.2.2 ∧ r.2.2 ≤ 9223372036854775808 * q.2,
    fun q _ => l.length - q.2.toNat, ⟨by dsimp only; omega, by dsimp only; omega, Ext.refl _ _, by simpa [eachP, rvs] using Row.nil _ _ _ _, by simp [eachP], by simp, by simp [eachP]⟩, ?_⟩
  rintro t5 i h1 ⟨i0, i1, X, R, rl, rli, bd⟩
  dsimp only at i0 i1 R rl rli bd ⊢
  unfold query_each_l1b
  rw [L.l]
  have z1 := X.size
  by_cases hi : i < (l.length : Int)
  · rw [if_pos (by simpa using hi)]
    obtain ⟨a, x, ha, g0, g1, hx, hc⟩ := (L.ext X).it i0 hi
    rw [L.l] at g1
    have vx := hb x (List.mem_of_getElem? hx)
    refine ⟨a, ha, g0, g1, x, hc, bx rfl (by decide) fun h5 B X5 => ⟨x.f_T, B.cl rfl, Floor_ok vx.2 s1 s0 ⟨_, rfl, ?_⟩⟩⟩
    have z5 := X5.size
    have X05 := X.trans (X5.mono z1)
    have R5 := R.ext X5 fun g hg => (R.bd hg).2
    have tk := take1 i0 hx
    have sn : eachP step (l.take (i + 1).toNat) = eachE step (eachP step (l.take i.toNat)) x := by rw [tk, eachP_snoc]
    obtain ⟨o, eo⟩ : ∃ o, o = eachP step (l.take i.toNat) := ⟨_, rfl⟩
    rw [← eo] at R R5 rl bd sn
    show (if decide ((t5.len : Int) > 0) = true then _ else _)
    have nxt : ∀ s h6, Ext h.size h h6 → Row h.size h6 50 4 s (rvs (eachP step (l.take (i + 1).toNat))) → s.len = (eachP step (l.take (i + 1).toNat)).length → (∀ r ∈ eachP step (l.take (i + 1).toNat), -9223372036854775808 * (i + 1) ≤ r.2.2 ∧ r.2.2 ≤ 9223372036854775808 * (i + 1)) → query_each_j2 step p0 (l.length : Int) i s k (fun q h' => (0 ≤ q.2 ∧ q.2 ≤ (l.length : Int) ∧ Ext h.size h h' ∧ Row h.size h' 50 4 q.1 (rvs (eachP step (l.take q.2.toNat))) ∧ q.1.len = (eachP step (l.take q.2.toNat)).length ∧ q.1.len ≤ q.2.toNat ∧ ∀ r ∈ eachP step (l.take q.2.toNat), -9223372036854775808 * q.2 ≤ r.2.2 ∧ r.2.2 ≤ 9223372036854775808 * q.2) ∧ l.length - q.2.toNat < l.length - i.toNat) h6 := fun s h6 X6 R6 l6 b6 => by
      unfold query_each_j2
      rw [wI i0 hi m]
      refine ⟨⟨by dsimp only; omega, by dsimp only; omega, X6, R6, l6, ?_, b6⟩, by dsimp only; omega⟩
      have := eachE_len step o x
      rw [← sn] at this
      dsimp only; omega
    have vb := vx.1
    unfold in64 at vb
    have push : (∀ r, o.getLast? = some r → r.2.1 ≠ atP step x) → query_each_g3 step t5 ⟨h1.size, 0, none⟩ (atP step x) p0 (l.length : Int) i false k (fun q h' => (0 ≤ q.2 ∧ q.2 ≤ (l.length : Int) ∧ Ext h.size h h' ∧ Row h.size h' 50 4 q.1 (rvs (eachP step (l.take q.2.toNat))) ∧ q.1.len = (eachP step (l.take q.2.toNat)).length ∧ q.1.len ≤ q.2.toNat ∧ ∀ r ∈ eachP step (l.take q.2.toNat), -9223372036854775808 * q.2 ≤ r.2.2 ∧ r.2.2 ≤ 9223372036854775808 * q.2) ∧ l.length - q.2.toNat < l.length - i.toNat) h5 := fun hne => by
      unfold query_each_g3
      rw [if_neg (by simp)]
      have eE : eachE step o x = o ++ [(x.f_Series, atP step x, x.f_V)] := by
        unfold eachE
        cases hl : o.getLast? with
        | none => rw [List.getLast?_eq_none_iff.1 hl]; rfl
        | some r => dsimp only; rw [if_neg (hne r hl)]
      refine ⟨_, B.cl0 rfl, x.f_V, B.cl rfl, Wide_ok vx.1 fun h6 X6 => ⟨(B.ext X6 B.lt).cl0 rfl, bx0 fun h7 B7 X7 => app1 ((R5.ext X6 fun g hg => (R5.bd hg).2).ext X7 fun g hg => Nat.lt_of_lt_of_le (R5.bd hg).2 X6.size) (by have := X6.size; have := X7.size; omega) rfl rfl (rcs_one _) (by omega) (by unfold maxLen; omega) fun s h8 R8 l8 X8 => ?_⟩⟩
      have z6 := X6.size
      have z7 := X7.size
      refine nxt s h8 (((X05.trans (X6.mono (by omega))).trans (X7.mono (by omega))).trans X8) ?_ ?_ ?_
      · rw [sn, eE, rvs_app, rvs_one]; exact R8
      · rw [sn, eE, l8, rl]; simp
      · rw [sn, eE]
        intro r hr
        rcases List.mem_append.1 hr with hr | hr
        · have := bd r hr; omega
        · simp only [List.mem_singleton] at hr; subst hr; dsimp only; omega
    by_cases hp : (t5.len : Int) > 0
    · rw [if_pos (by simpa using hp)]
      rw [wrapI64 (by omega) (by omega)]
      obtain ⟨r, hr⟩ : ∃ r, o.getLast? = some r := ⟨_, List.getLast?_eq_some_getLast (by rintro rfl; simp at rl; omega)⟩
      have sp := last_split hr
      obtain ⟨d, ed⟩ : ∃ d, d = o.dropLast := ⟨_, rfl⟩
      rw [← ed] at sp
      have dl : t5.len = d.length + 1 := by rw [rl, sp]; simp
      have rv : rvs o = rvs d ++ S_api_Row.cs (toRow r) := by rw [sp, rvs_app, rvs_one]
      have cell : ∀ j, j < 4 → ∃ a, t5.a = some a ∧ cellH h5 (a.add (d.length * 4 + j)) = (S_api_Row.cs (toRow r))[j]? := fun j hj => by
        obtain ⟨a, ha, hc⟩ := R5.at (j := d.length * 4 + j) (by omega)
        refine ⟨a, ha, hc.trans ?_⟩
        rw [rv, List.getElem?_append_right (by rw [rvs_len]; omega), rvs_len]; congr 1; omega
      obtain ⟨a2, ha2, hc2⟩ := cell 1 (by omega)
      have en : ((t5.len : Int) - 1).toNat = d.length := by omega
      refine ⟨a2, ha2, by omega, by omega, r.2.1, by rw [add_add2, en]; exact hc2, ?_⟩
      by_cases he : r.2.1 = atP step x
      · rw [show (r.2.1 == IntKind.i64.wrap (x.f_T / step * step)) = true from by rw [beq_iff_eq]; exact he]
        unfold query_each_g3
        rw [if_pos rfl]
        have rb := bd r (by rw [sp]; simp)
        obtain ⟨_, e2, hc3⟩ := cell 2 (by omega)
        obtain ⟨_, e3, hc4⟩ := cell 3 (by omega)
        rw [ha2] at e2 e3
        cases e2; cases e3
        have cw : CellsAt h5 ((a2.add (((t5.len : Int) - 1).toNat * 4)).add 2) (S_api_Wide.cs (wd r.2.2)) := fun j v hj => by
          rw [add_add2, add_add2, en]
          match j, hj with
          | 0, hj => rw [show d.length * 4 + 2 + 0 = d.length * 4 + 2 from rfl, hc3]; exact hj
          | 1, hj => rw [show d.length * 4 + 2 + 1 = d.length * 4 + 3 from rfl, hc4]; exact hj
          | j + 2, hj => simp [S_api_Wide.cs] at hj
        have hrw : IntKind.i64.wrap ((t5.len : Int) - 1) = (t5.len : Int) - 1 := wrapI64 (by omega) (by omega)
        rw [hrw]
        refine ⟨a2, ha2, by omega, by omega, wd r.2.2, cw, x.f_V, B.cl rfl, Wide_ok vx.1 fun h6 X6 => ⟨cw.ext X6, Add_ok (by unfold bd2; omega) (in_bd2 vx.1) fun h7 X7 => ⟨a2, ha2, by omega, by omega, ?_⟩⟩⟩
        have z6 := X6.size
        have z7 := X7.size
        have R7 := (R5.ext X6 fun g hg => (R5.bd hg).2).ext X7 fun g hg => Nat.lt_of_lt_of_le (R5.bd hg).2 z6
        obtain ⟨w1, w2, w3⟩ := row_setp (o := d.length * 4 + 2) (vs := S_api_Wide.cs (wd (r.2.2 + x.f_V))) R7 (by show d.length * 4 + 2 + 2 ≤ t5.len * 4; omega) (by show 0 < 2; decide) ha2
        have ea : (a2.add (((t5.len : Int) - 1).toNat * 4)).add 2 = a2.add (d.length * 4 + 2) := by rw [add_add2, en]
        rw [ea]
        refine ⟨_, w1, rfl, nxt t5 _ ?_ ?_ ?_ ?_⟩
        · exact ((X05.trans (X6.mono (by omega))).trans (X7.mono (by omega))).trans (Ext.sets _ _ _ (by show h.size ≤ (a2.add _).block; rw [show (a2.add (d.length * 4 + 2)).block = a2.block from by unfold Addr.add; split <;> rfl]; exact w3))
        · have eE : eachE step o x = d ++ [(r.1, r.2.1, r.2.2 + x.f_V)] := by unfold eachE; rw [hr]; dsimp only; rw [if_pos he, ed]
          rw [sn, eE, rvs_app, rvs_one]
          have e : List.take (d.length * 4 + 2) (rvs o) ++ S_api_Wide.cs (wd (r.2.2 + x.f_V)) ++ List.drop (d.length * 4 + 2 + (S_api_Wide.cs (wd (r.2.2 + x.f_V))).length) (rvs o) = rvs d ++ S_api_Row.cs (toRow (r.1, r.2.1, r.2.2 + x.f_V)) := by
            rw [rv, List.take_append, List.drop_append, rvs_len, List.take_of_length_le (by rw [rvs_len]; omega), List.drop_of_length_le (by rw [rvs_len]; omega)]
            rw [show d.length * 4 + 2 - d.length * 4 = 2 from by omega, show d.length * 4 + 2 + (S_api_Wide.cs (wd (r.2.2 + x.f_V))).length - d.length * 4 = 4 from by show d.length * 4 + 2 + 2 - d.length * 4 = 4; omega]
            simp only [List.append_assoc, List.nil_append]
            rfl
          rw [← e]; exact w2
        · rw [sn]; unfold eachE; rw [hr]; dsimp only; rw [if_pos he, ← ed, dl]; simp
        · rw [sn]; unfold eachE; rw [hr]; dsimp only; rw [if_pos he, ← ed]
          intro q hq
          rcases List.mem_append.1 hq with hq | hq
          · have := bd q (by rw [sp]; exact List.mem_append.2 (.inl hq)); omega
          · simp only [List.mem_singleton] at hq; subst hq; dsimp only; omega
      · rw [show (r.2.1 == IntKind.i64.wrap (x.f_T / step * step)) = false from by rw [beq_eq_false_iff_ne]; exact he]
        exact push fun r' h' => by rw [hr] at h'; cases h'; exact he
    · rw [if_neg (by simpa using hp)]
      exact push fun r' h' => by
        have : o = [] := List.length_eq_zero_iff.1 (by omega)
        rw [this] at h'; cases h'
  · rw [if_neg (by simpa using hi)]
    rw [take_all (by omega)] at R rl
    exact H t5 h1 R rl X
end Go.Q.Yz
set_option linter.unusedVariables false
set_option linter.unusedSimpArgs false
set_option maxRecDepth 100000
/- Contracts: rows, groups. -/
namespace Go.Q.Yz
open Go.Q.Rw
/-! rows of a series' pieces -/
def RowsV (h : Heap) (s : Slc) (rs : List RI) : Prop := SlcAt h s (rvs rs) ∧ s.len = rs.length
theorem RowsV.ext {h h' : Heap} {s : Slc} {rs : List RI} (R : RowsV h s rs) (X : Ext h.size h h') : RowsV h' s rs := ⟨R.1.ext X, R.2⟩
theorem RowsV.of {B : Nat} {h : Heap} {s : Slc} {rs : List RI} (R : Row B h 50 4 s (rvs rs)) (hl : s.len = rs.length) : RowsV h s rs := ⟨R.slc, hl⟩
theorem RowsV.nil (h : Heap) : RowsV h ⟨none, 0, 0⟩ [] := ⟨⟨fun _ => rfl, fun a ha => by cases ha⟩, rfl⟩
theorem head_last {g : List Pc} (hp : g.Pairwise fun a b => a.f_T < b.f_T) (h2 : 2 ≤ g.length) : ∃ a b, g.head? = some a ∧ g.getLast? = some b ∧ a.f_T < b.f_T := by
  match g, h2 with
  | a :: c :: r, _ =>
    refine ⟨a, (c :: r).getLast (by simp), rfl, ?_, (List.pairwise_cons.1 hp).1 _ (List.getLast_mem _)⟩
    rw [List.getLast?_eq_some_getLast (by simp), List.getLast_cons (by simp)]
theorem Rows_ok {q : S_api_Query} {p1 : Slc} {g : List Pc} {k : Slc × Int → Heap → Prop} {h : Heap} (L : Pcs h p1 g) (m : g.length ≤ 1000000) (hb : ∀ p ∈ g, in64 p.f_V ∧ in64 p.f_T) (ne : g ≠ []) (hp : g.Pairwise fun a b => a.f_T < b.f_T)
    (qa : 0 ≤ q.f_Agg ∧ q.f_Agg ≤ 6) (qs : q.f_Agg = 6 → 0 < q.f_Step) (q6 : in64 q.f_Step)
    (H0 : ∀ h', rowsP q.f_Agg q.f_Step g = none → Ext h.size h h' → k (⟨none, 0, 0⟩, 19) h')
    (H1 : ∀ rs s h', rowsP q.f_Agg q.f_Step g = some rs → Ext h.size h h' → RowsV h' s rs → k (s, 0) h') : query_rows q p1 k h := by
  have pos : 0 < g.length := List.length_pos_iff.2 ne
  have hb1 : ∀ p ∈ g, in64 p.f_V := fun p hp => (hb p hp).1
  unfold query_rows
  refine bx0 fun h2 B1 X1 => ?_
  have z1 := X1.size
  obtain ⟨a, x, ha, g0, g1, hx, hc⟩ := (L.ext X1).it (i := 0) (Int.le_refl _) (by omega)
  have es : ser g = x.f_Series := by cases g with
    | nil => exact absurd rfl ne
    | cons b r => simp at hx; subst hx; rfl
  refine ⟨a, ha, g0, g1, x.f_Series, cls0 hc rfl, bx rfl (by decide) fun h7 B5 X5 => ⟨q.f_Agg, (B1.ext X5 B1.lt).cl rfl, ?_⟩⟩
  have z5 := X5.size
  have X := X1.trans (X5.mono z1)
  have L7 := L.ext X
  have j1 : ∀ n h', Blk h' h2.size (S_api_Row.cs (toRow (ser g, 0, n))) 50 → Ext h.size h h' → rowsP q.f_Agg q.f_Step g = some [(ser g, 0, n)] → query_rows_j1 ⟨h2.size, 0, none⟩ k h' := fun n h' B' X' e => by
    unfold query_rows_j1
    refine ⟨toRow (ser g, 0, n), CellsAt.of_blk B', bx0 fun h8 B8 X8 => H1 _ _ h8 e (X'.trans (X8.mono X'.size)) ⟨B8.slc (o := 0) (n := 4) (by rw [rvs_one]; rfl), rfl⟩⟩
  have put : ∀ n h', Ext h7.size h7 h' → rowsP q.f_Agg q.f_Step g = some [(ser g, 0, n)] → ∃ h3 : Heap, WrsAt h' ((⟨h2.size, 0, none⟩ : Addr).add 2) 2 ∧ h3 = setsH h' ((⟨h2.size, 0, none⟩ : Addr).add 2) 0 (S_api_Wide.cs (wd n)) ∧ query_rows_j1 ⟨h2.size, 0, none⟩ k h3 := fun n h' X' e => by
    have z' := X'.size
    refine bsetp (B5.ext X' B5.lt) rfl (by show 2 + 2 ≤ 4; decide) fun h8 B8 U => j1 n h8 ?_ ((X.trans (X'.mono (by omega))).trans (U.ext (by omega) (by omega))) e
    rw [es]; exact B8
  by_cases c0 : q.f_Agg = 0
  · rw [if_pos (by simpa using c0)]
    have eR : rowsP q.f_Agg q.f_Step g = some (g.map fun p => (p.f_Series, p.f_T, p.f_V)) := by unfold rowsP; rw [if_pos c0]
    unfold query_rows_l2
    refine ⟨fun r h' => 0 ≤ r.2 ∧ r.2 ≤ (g.length : Int) ∧ Ext h.size h h' ∧ Row h.size h' 50 4 r.1 (rvs ((g.take r.2.toNat).map fun p => (p.f_Series, p.f_T, p.f_V))) ∧ r.1.len = r.2.toNat, fun r _ => g.length - r.2.toNat, ⟨by dsimp only; omega, by dsimp only; omega, X, by simpa [rvs] using Row.nil _ _ _ _, by simp⟩, ?_⟩
    rintro t7 i h8 ⟨i0, i1, X8, R, rl⟩
    dsimp only at i0 i1 R rl ⊢
    have z8 := X8.size
    unfold query_rows_l2b
    rw [L.l]
    by_cases hi : i < (g.length : Int)
    · rw [if_pos (by simpa using hi)]
      obtain ⟨a, x, ha, g0, g1, hx, hc⟩ := (L.ext X8).it i0 hi
      rw [L.l] at g1
      have vx := hb x (List.mem_of_getElem? hx)
      refine ⟨a, ha, g0, g1, x, hc, bx rfl (by decide) fun h9 B9 X9 => ⟨_, B9.cl0 rfl, _, B9.cl rfl, x.f_V, B9.cl rfl, Wide_ok vx.1 fun h10 X10 => ⟨(B9.ext X10 B9.lt).cl rfl, (B9.ext X10 B9.lt).cl0 rfl, bx0 fun h11 B11 X11 => ?_⟩⟩⟩
      have z9 := X9.size
      have z10 := X10.size
      have z11 := X11.size
      refine app1 (((R.ext X9 fun g hg => (R.bd hg).2).ext X10 fun g hg => Nat.lt_of_lt_of_le (R.bd hg).2 z9).ext X11 fun g hg => Nat.lt_of_lt_of_le (R.bd hg).2 (by omega)) (by omega) rfl rfl (rcs_one _) (by omega) (by unfold maxLen; omega) fun s h12 R12 l12 X12 => ?_
      rw [wI i0 hi m]
      refine ⟨⟨by dsimp only; omega, by dsimp only; omega, (((X8.trans (X9.mono z8)).trans (X10.mono (by omega))).trans (X11.mono (by omega))).trans X12, ?_, by dsimp only; omega⟩, by dsimp only; omega⟩
      dsimp only
      rw [take1 i0 hx, List.map_append, rvs_app]
      simp only [List.map_cons, List.map_nil, rvs_one]
      exact R12
    · rw [if_neg (by simpa using hi)]
      rw [take_all (by omega)] at R
      exact H1 _ _ h8 eR X8 (.of R (by simp; omega))
  rw [if_neg (by simpa using c0)]
  by_cases c1 : q.f_Agg = 1
  · rw [if_pos (by simpa using c1), L.l]
    have eR : rowsP q.f_Agg q.f_Step g = some [(ser g, 0, (g.length : Int))] := by unfold rowsP; rw [if_neg c0, if_pos c1]
    exact Wide_ok ⟨by omega, by omega⟩ fun h' X' => put _ h' X' eR
  rw [if_neg (by simpa using c1)]
  by_cases c2 : q.f_Agg = 2
  · rw [if_pos (by simpa using c2)]
    have eR : rowsP q.f_Agg q.f_Step g = some [(ser g, 0, sumV g)] := by unfold rowsP; rw [if_neg c0, if_neg c1, if_pos c2]
    exact Sum_ok L7 m hb1 fun h' X' => put _ h' X' eR
  rw [if_neg (by simpa using c2)]
  by_cases c3 : q.f_Agg = 3
  · rw [if_pos (by simpa using c3)]
    have eR : rowsP q.f_Agg q.f_Step g = some [(ser g, 0, minV g)] := by unfold rowsP; rw [if_neg c0, if_neg c1, if_neg c2, if_pos c3]
    exact Min_ok L7 m ne fun y h8 yl yv X8 => Wide_ok (hb1 y yl) fun h' X' => by rw [yv]; exact put _ h' (X8.trans (X'.mono X8.size)) eR
  rw [if_neg (by simpa using c3)]
  by_cases c4 : q.f_Agg = 4
  · rw [if_pos (by simpa using c4)]
    have eR : rowsP q.f_Agg q.f_Step g = some [(ser g, 0, maxV g)] := by unfold rowsP; rw [if_neg c0, if_neg c1, if_neg c2, if_neg c3, if_pos c4]
    exact Max_ok L7 m ne fun y h8 yl yv X8 => Wide_ok (hb1 y yl) fun h' X' => by rw [yv]; exact put _ h' (X8.trans (X'.mono X8.size)) eR
  rw [if_neg (by simpa using c4)]
  by_cases c5 : q.f_Agg = 5
  · rw [if_pos (by simpa using c5), L.l]
    by_cases h2' : g.length < 2
    · rw [if_pos (by simp; omega)]
      exact H1 [] _ h7 (by unfold rowsP; rw [if_neg c0, if_neg c1, if_neg c2, if_neg c3, if_neg c4, if_pos c5, if_pos h2']) X (.nil _)
    · rw [if_neg (by simp; omega)]
      obtain ⟨a, b, ea, eb, lt⟩ := head_last hp (by omega)
      refine Rate_ok L7 m hb ea eb lt (fun h' e X' => ?_) (fun n h' e i X' => ?_)
      · rw [if_pos (by decide)]
        exact H0 h' (by unfold rowsP; rw [if_neg c0, if_neg c1, if_neg c2, if_neg c3, if_neg c4, if_pos c5, if_neg h2', e]; rfl) (X.trans (X'.mono X.size))
      · rw [if_neg (by simp)]
        exact Wide_ok i fun h8 X8 => put n h8 (X'.trans (X8.mono X'.size)) (by unfold rowsP; rw [if_neg c0, if_neg c1, if_neg c2, if_neg c3, if_neg c4, if_pos c5, if_neg h2', e]; rfl)
  rw [if_neg (by simpa using c5)]
  refine ⟨q.f_Step, (B1.ext X5 B1.lt).cl rfl, Each_ok L7 m hb (qs (by omega)) q6 fun s h' R rl X' => H1 _ s h' (by unfold rowsP; rw [if_neg c0, if_neg c1, if_neg c2, if_neg c3, if_neg c4, if_neg c5]) (X.trans (X'.mono X.size)) (.of R rl)⟩
/-! groups -/
def Grps (h : Heap) (ss : List Slc) (gs : List (List Pc)) : Prop := ss.length = gs.length ∧ ∀ (i : Nat) s g, ss[i]? = some s → gs[i]? = some g → Pcs h s g
theorem Grps.ext {h h' : Heap} {ss : List Slc} {gs : List (List Pc)} (G : Grps h ss gs) (X : Ext h.size h h') : Grps h' ss gs := ⟨G.1, fun i s g a b => (G.2 i s g a b).ext X⟩
theorem Grps.snoc {h : Heap} {ss : List Slc} {gs : List (List Pc)} {s : Slc} {g : List Pc} (G : Grps h ss gs) (L : Pcs h s g) : Grps h (ss ++ [s]) (gs ++ [g]) := by
  refine ⟨by simp [G.1], fun i t f ht hf => ?_⟩
  rcases Nat.lt_or_ge i ss.length with hi | hi
  · rw [List.getElem?_append_left hi] at ht
    rw [List.getElem?_append_left (by rw [← G.1]; exact hi)] at hf
    exact G.2 i t f ht hf
  · rw [List.getElem?_append_right hi] at ht
    rw [List.getElem?_append_right (by rw [← G.1]; exact hi), ← G.1] at hf
    have : i - ss.length = 0 := by have := (List.getElem?_eq_some_iff.1 ht).1; simp at this; omega
    rw [this] at ht hf
    simp at ht hf
    subst ht; subst hf; exact L
theorem tw_of {α : Type} {p : α → Bool} : ∀ {l : List α} {i : Nat}, (∀ y ∈ l.take i, p y = true) → (∀ y, l[i]? = some y → p y = false) → l.takeWhile p = l.take i ∧ l.dropWhile p = l.drop i
  | [], i, _, _ => by simp
  | x :: l, 0, _, h2 => by
    have := h2 x rfl
    simp [List.takeWhile_cons, List.dropWhile_cons, this]
  | x :: l, i + 1, h1, h2 => by
    have hx := h1 x (by simp)
    obtain ⟨a, b⟩ := tw_of (p := p) (l := l) (i := i) (fun y hy => h1 y (by simp [hy])) fun y hy => h2 y (by simpa using hy)
    simp [List.takeWhile_cons, List.dropWhile_cons, hx, a, b]
theorem grp_split {x : Pc} {l : List Pc} {i : Nat} (h1 : ∀ y ∈ (x :: l).take (i + 1), y.f_Series = x.f_Series) (h2 : ∀ y, (x :: l)[i + 1]? = some y → y.f_Series ≠ x.f_Series) : grp (x :: l) = (x :: l).take (i + 1) :: grp ((x :: l).drop (i + 1)) := by
  obtain ⟨a, b⟩ := tw_of (p := fun p : Pc => decide (p.f_Series = x.f_Series)) (l := l) (i := i) (fun y hy => by simpa using h1 y (by simp [hy])) fun y hy => by simpa using h2 y (by simpa using hy)
  rw [grp_cons, a, b]; rfl
theorem slv_one (s : Slc) : ∀ v ∈ [Slc.v s], v.oneCell' = true := fun v hv => by simp at hv; subst hv; obtain ⟨a, l, c⟩ := s; cases a <;> rfl
theorem Groups_ok {p0 : Slc} {l : List Pc} {k : Slc → Heap → Prop} {h : Heap} (L : Pcs h p0 l) (m : l.length ≤ 1000000) (cp : p0.len ≤ p0.cap)
    (H : ∀ s ss h', Row h.size h' 24 1 s (ss.map Slc.v) → s.len = ss.length → Grps h' ss (grp l) → Ext h.size h h' → k s h') : query_groups p0 k h := by
  unfold query_groups query_groups_l1
  refine ⟨fun q h' => ∃ pre ss l', Ext h.size h h' ∧ Row h.size h' 24 1 q.2 (ss.map Slc.v) ∧ q.2.len = ss.length ∧ (∀ h2, Ext h.size h h2 → Grps h2 ss pre) ∧ (∀ h2, Ext h.size h h2 → Pcs h2 q.1 l') ∧ q.1.len ≤ q.1.cap ∧ grp l = pre ++ grp l' ∧ ss.length + l'.length ≤ 1000000, fun q _ => q.1.len,
    ⟨[], [], l, Ext.refl _ _, Row.nil _ _ _ _, rfl, fun _ _ => ⟨rfl, fun i s g hs => by simp at hs⟩, fun _ X => L.ext X, cp, by simp, by simpa using m⟩, ?_⟩
  rintro t0 t3 h1 ⟨pre, ss, l', X, R, rl, G, L', cp', eg, bd⟩
  dsimp only at R rl L' cp' ⊢
  unfold query_groups_l1b
  have z1 := X.size
  have hl := (L' h1 X).l
  rw [hl]
  cases l' with
  | nil =>
    rw [if_neg (by simp)]
    rw [grp_nil, List.append_nil] at eg
    exact H t3 ss h1 R rl (by rw [eg]; exact G h1 X) X
  | cons x r =>
    have hl2 : t0.len = r.length + 1 := hl
    have bd2' : ss.length + (r.length + 1) ≤ 1000000 := bd
    rw [if_pos (by simp)]
    unfold query_groups_l2
    refine ⟨fun q h' => 0 ≤ q.2.2 ∧ q.2.2 ≤ ((x :: r).length : Int) ∧ q.1 = t0 ∧ q.2.1 = t3 ∧ Ext h1.size h1 h' ∧ ∀ y ∈ (x :: r).take q.2.2.toNat, y.f_Series = x.f_Series, fun q _ => (x :: r).length - q.2.2.toNat, ⟨by dsimp only; omega, by simp; omega, rfl, rfl, Ext.refl _ _, by simp⟩, ?_⟩
    rintro t0' t3' i h2 ⟨i0, i1, e0, e3, X2, al⟩
    dsimp only at i0 i1 e0 e3 al ⊢
    subst e0; subst e3
    have z2 := X2.size
    have X02 := X.trans (X2.mono z1)
    have lc : ((x :: r).length : Int) = (r.length : Int) + 1 := by simp
    unfold query_groups_l2b
    by_cases hi : i < ((x :: r).length : Int)
    · rw [if_pos (by simpa using hi)]
      obtain ⟨a, y, ha, g0, g1, hy, hc⟩ := (L' h2 X02).it i0 hi
      refine ⟨a, ha, g0, g1, y, hc, bx rfl (by decide) fun h5 B5 X5 => ⟨y.f_Series, B5.cl0 rfl, ?_⟩⟩
      have z5 := X5.size
      have X05 := X02.trans (X5.mono (by omega))
      obtain ⟨a2, x2, ha2, g2, g3, hx2, hc2⟩ := (L' h5 X05).it (i := 0) (Int.le_refl _) (by omega)
      simp at hx2; subst hx2
      refine ⟨a2, ha2, g2, g3, x.f_Series, cls0 hc2 rfl, ?_⟩
      by_cases hs : y.f_Series = x.f_Series
      · rw [if_neg (by simp [hs])]
        have tk := take1 i0 hy
        rw [wrapI64 (by omega) (by omega)]
        refine ⟨⟨by dsimp only; omega, by dsimp only; omega, rfl, rfl, X2.trans (X5.mono z2), ?_⟩, by dsimp only; omega⟩
        dsimp only
        rw [tk]
        intro z hz
        rcases List.mem_append.1 hz with hz | hz
        · exact al z hz
        · simp only [List.mem_singleton] at hz; subst hz; exact hs
      · rw [if_pos (by simp; intro h; exact hs (ba_ext h))]
        have ip : 0 < i := by
          rcases Int.lt_or_eq_of_le i0 with h | h
          · exact h
          · subst h; simp at hy; subst hy; exact absurd rfl hs
        have eg2 : grp (x :: r) = (x :: r).take i.toNat :: grp ((x :: r).drop i.toNat) := by
          obtain ⟨j, hj⟩ : ∃ j, i.toNat = j + 1 := ⟨i.toNat - 1, by omega⟩
          rw [hj] at al hy ⊢
          exact grp_split al fun z hz => by rw [hy] at hz; cases hz; exact hs
        have R5 := (R.ext X2 fun g hg => (R.bd hg).2).ext X5 fun g hg => Nat.lt_of_lt_of_le (R.bd hg).2 z2
        refine ⟨_, Int.le_refl _, i0, by omega, Int.le_refl _, rfl, bx0 fun h11 B11 X11 => app1 (R5.ext X11 fun g hg => (R5.bd hg).2) (by have := X11.size; omega) rfl rfl (slv_one _) (by omega) (by unfold maxLen; omega) fun s h13 R13 l13 X13 => ⟨_, i0, by omega, by omega, Int.le_refl _, rfl, ?_⟩⟩
        have z11 := X11.size
        have X15 : Ext h.size h h13 := (X05.trans (X11.mono (by omega))).trans X13
        refine ⟨⟨pre ++ [(x :: r).take i.toNat], ss ++ [subS t0' 5 (0 : Int).toNat i.toNat (t0'.cap : Int).toNat], (x :: r).drop i.toNat, X15, ?_, by simp [l13, rl], fun h2 X2 => (G h2 X2).snoc ?_, fun h2 X2 => ?_, ?_, ?_, ?_⟩, ?_⟩
        · rw [List.map_append]; exact R13
        · have := (L' h2 X2).sub (a := (0 : Int).toNat) (b := i.toNat) (m := (t0'.cap : Int).toNat) (by simp) (by omega) (by omega)
          simpa using this
        · have := (L' h2 X2).sub (a := i.toNat) (b := (t0'.len : Int).toNat) (m := (t0'.cap : Int).toNat) (by omega) (by omega) (by omega)
          have e : (t0'.len : Int).toNat = (x :: r).length := by rw [hl2]; rfl
          have tl := List.take_length (l := x :: r)
          rw [← e] at tl
          rw [tl] at this
          exact this
        · show _ - _ ≤ _ - _
          omega
        · rw [eg, eg2, List.append_assoc]; rfl
        · simp only [List.length_append, List.length_drop, List.length_cons, List.length_nil]; omega
        · show _ - _ < _
          omega
    · rw [if_neg (by simpa using hi)]
      have ie : i.toNat = r.length + 1 := by omega
      have eg2 : grp (x :: r) = [x :: r] := by
        have := grp_split (x := x) (l := r) (i := r.length) (fun y hy => al y (by rw [ie]; exact hy)) fun y hy => by simp at hy
        rw [this, List.take_of_length_le (by simp), List.drop_of_length_le (by simp)]; rfl
      have R2 := R.ext X2 fun g hg => (R.bd hg).2
      refine bx0 fun h11 B11 X11 => app1 (R2.ext X11 fun g hg => (R2.bd hg).2) (by have := X11.size; omega) rfl rfl (slv_one _) (by omega) (by unfold maxLen; omega) fun s h13 R13 l13 X13 => ?_
      have z11 := X11.size
      have X13' : Ext h.size h h13 := (X02.trans (X11.mono (by omega))).trans X13
      refine H s (ss ++ [t0']) h13 (by rw [List.map_append]; exact R13) (by simp [l13, rl]) ?_ X13'
      rw [eg, eg2]
      exact (G h13 X13').snoc (L' h13 X13')
end Go.Q.Yz
set_option linter.unusedVariables false
set_option linter.unusedSimpArgs false
set_option maxRecDepth 100000
/- Contracts: what is merged. -/
namespace Go.Q.Yz
open Go.Q.Rw
abbrev PM := List (S_piece_place × Pc)
def stepM (acc : PM) (p : Pc) : PM :=
  if okP p = true then (match mget acc (plc p) with | some q => if ordP q p ≥ 0 then acc else mput acc (plc p) p | none => mput acc (plc p) p) else acc
/-- of the pieces so far -/
structure InvM (pre : List Pc) (acc : PM) : Prop where
  nd : (acc.map (·.1)).Nodup
  k : ∀ e ∈ acc, plc e.2 = e.1 ∧ e.2 ∈ pre ∧ okP e.2 = true ∧ ∀ y ∈ pre, okP y = true → plc y = e.1 → ordP y e.2 ≤ 0
  c : ∀ y ∈ pre, okP y = true → ∃ v, (plc y, v) ∈ acc
theorem mget_mem {K V : Type} [DecidableEq K] {k : K} {v : V} : ∀ {l : List (K × V)}, mget l k = some v → (k, v) ∈ l
  | [], h => by cases h
  | p :: r, h => by
    unfold mget at h
    split at h
    · rename_i e; cases h; rw [← e]; exact List.mem_cons_self
    · exact List.mem_cons_of_mem _ (mget_mem h)
theorem mget_not {K V : Type} [DecidableEq K] {k : K} : ∀ {l : List (K × V)}, mget l k = none → ∀ p ∈ l, p.1 ≠ k
  | [], _, p, hp => by cases hp
  | q :: r, h, p, hp => by
    unfold mget at h
    split at h
    · cases h
    · rename_i e
      rcases List.mem_cons.1 hp with rfl | hp
      · exact e
      · exact mget_not h p hp
theorem mput_keys {K V : Type} [DecidableEq K] {k : K} {v : V} : ∀ {l : List (K × V)}, (l.map (·.1)).Nodup → ((mput l k v).map (·.1)).Nodup ∧ ∀ e, e ∈ mput l k v ↔ e = (k, v) ∨ (e ∈ l ∧ e.1 ≠ k)
  | [], _ => by simp [mput]
  | p :: r, h => by
    rw [List.map_cons, List.nodup_cons] at h
    obtain ⟨ih1, ih2⟩ := mput_keys (k := k) (v := v) h.2
    unfold mput
    by_cases e : p.1 = k
    · rw [if_pos e]
      refine ⟨by rw [List.map_cons, List.nodup_cons, ← e]; exact h, fun x => ?_⟩
      constructor
      · intro hx
        rcases List.mem_cons.1 hx with rfl | hx
        · exact .inl rfl
        · exact .inr ⟨List.mem_cons_of_mem _ hx, fun e2 => h.1 (by rw [e, ← e2]; exact List.mem_map.2 ⟨x, hx, rfl⟩)⟩
      · rintro (rfl | ⟨hx, hn⟩)
        · exact List.mem_cons_self
        · rcases List.mem_cons.1 hx with rfl | hx
          · exact absurd e hn
          · exact List.mem_cons_of_mem _ hx
    · rw [if_neg e]
      refine ⟨?_, fun x => ?_⟩
      · rw [List.map_cons, List.nodup_cons]
        refine ⟨fun hx => ?_, ih1⟩
        obtain ⟨y, hy, ey⟩ := List.mem_map.1 hx
        rcases (ih2 y).1 hy with rfl | ⟨hy, _⟩
        · exact e ey.symm
        · exact h.1 (List.mem_map.2 ⟨y, hy, ey⟩)
      · constructor
        · intro hx
          rcases List.mem_cons.1 hx with rfl | hx
          · exact .inr ⟨List.mem_cons_self, e⟩
          · exact ((ih2 x).1 hx).imp id fun h => ⟨List.mem_cons_of_mem _ h.1, h.2⟩
        · rintro (rfl | ⟨hx, hn⟩)
          · exact List.mem_cons_of_mem _ ((ih2 _).2 (.inl rfl))
          · rcases List.mem_cons.1 hx with rfl | hx
            · exact List.mem_cons_self
            · exact List.mem_cons_of_mem _ ((ih2 _).2 (.inr ⟨hx, hn⟩))
theorem good_O : Good ordP := ((good_ids.pull S_api_Piece.f_Id).lex ((good_I.pull S_api_Piece.f_V).lex Good.zero) : Good (fun x y : S_api_Piece => or1 (idsP x.f_Id y.f_Id) (or1 (cI x.f_V y.f_V) 0)))
theorem ordP_self (a : Pc) : ordP a a = 0 := by have := good_O.anti a a; omega
theorem InvM.nil : InvM [] [] := ⟨by simp, by simp, by simp⟩
theorem InvM.step {pre : List Pc} {acc : PM} (I : InvM pre acc) (p : Pc) : InvM (pre ++ [p]) (stepM acc p) := by
  have mem2 : ∀ {y}, y ∈ pre ++ [p] → y ∈ pre ∨ y = p := fun h => (List.mem_append.1 h).imp id fun h => by simpa using h
  have in1 : ∀ {y}, y ∈ pre → y ∈ pre ++ [p] := fun h => List.mem_append.2 (.inl h)
  have inp : p ∈ pre ++ [p] := by simp
  unfold stepM
  by_cases hok : okP p = true
  · rw [if_pos hok]
    have put : (∀ v, (plc p, v) ∈ acc → ordP v p < 0) → InvM (pre ++ [p]) (mput acc (plc p) p) := fun hv => by
      obtain ⟨n1, n2⟩ := mput_keys (k := plc p) (v := p) I.nd
      refine ⟨n1, fun e he => ?_, fun y hy ok => ?_⟩
      · rcases (n2 e).1 he with rfl | ⟨he, hn⟩
        · refine ⟨rfl, inp, hok, fun y hy ok ey => ?_⟩
          rcases mem2 hy with hy | rfl
          · obtain ⟨v, hv2⟩ := I.c y hy ok
            rw [ey] at hv2
            have h1 := (I.k _ hv2).2.2.2 y hy ok ey
            have h2 := hv v hv2
            exact good_O.tr y v p h1 (Int.le_of_lt h2)
          · rw [ordP_self]; exact Int.le_refl _
        · obtain ⟨a, b, c, d⟩ := I.k e he
          refine ⟨a, in1 b, c, fun y hy ok ey => ?_⟩
          rcases mem2 hy with hy | rfl
          · exact d y hy ok ey
          · exact absurd ey.symm hn
      · rcases mem2 hy with hy | rfl
        · obtain ⟨v, hv⟩ := I.c y hy ok
          by_cases e : plc y = plc p
          · exact ⟨p, by rw [e]; exact (n2 _).2 (.inl rfl)⟩
          · exact ⟨v, (n2 _).2 (.inr ⟨hv, e⟩)⟩
        · exact ⟨y, (n2 _).2 (.inl rfl)⟩
    cases hg : mget acc (plc p) with
    | none =>
      dsimp only
      exact put fun v hv => absurd rfl (mget_not hg _ hv)
    | some q =>
      dsimp only
      have hq := mget_mem hg
      have uq : ∀ v, (plc p, v) ∈ acc → v = q := fun v hv => by
        obtain ⟨j, hj⟩ := List.mem_iff_getElem?.1 hv
        have := (mget_at hj I.nd).1
        rw [hg] at this; cases this; rfl
      by_cases ho : ordP q p ≥ 0
      · rw [if_pos ho]
        refine ⟨I.nd, fun e he => ?_, fun y hy ok => ?_⟩
        · obtain ⟨a, b, c, d⟩ := I.k e he
          refine ⟨a, in1 b, c, fun y hy ok ey => ?_⟩
          rcases mem2 hy with hy | rfl
          · exact d y hy ok ey
          · obtain ⟨e1, e2⟩ := e
            dsimp only at *
            subst ey
            rw [uq e2 he]
            have := good_O.anti q y
            omega
        · rcases mem2 hy with hy | rfl
          · exact I.c y hy ok
          · exact ⟨q, hq⟩
      · rw [if_neg ho]
        exact put fun v hv => by rw [uq v hv]; omega
  · rw [if_neg hok]
    refine ⟨I.nd, fun e he => ?_, fun y hy ok => ?_⟩
    · obtain ⟨a, b, c, d⟩ := I.k e he
      refine ⟨a, in1 b, c, fun y hy ok ey => ?_⟩
      rcases mem2 hy with hy | rfl
      · exact d y hy ok ey
      · exact absurd ok hok
    · rcases mem2 hy with hy | rfl
      · exact I.c y hy ok
      · exact absurd ok hok
theorem InvM.len {pre : List Pc} {acc : PM} (I : InvM pre acc) : acc.length ≤ pre.length := by
  classical
  have : (acc.map (·.2)).length ≤ pre.length := by
    refine nodup_len ?_ fun z hz => ?_
    · have nd := I.nd
      have key : ∀ {acc : PM}, (∀ e ∈ acc, plc e.2 = e.1) → (acc.map (·.1)).Nodup → (acc.map (·.2)).Nodup := fun {acc} => by
        induction acc with
        | nil => simp
        | cons e r ih =>
          intro h1 h2
          rw [List.map_cons, List.nodup_cons] at h2 ⊢
          refine ⟨fun hm => h2.1 ?_, ih (fun x hx => h1 x (List.mem_cons_of_mem _ hx)) h2.2⟩
          obtain ⟨y, hy, ey⟩ := List.mem_map.1 hm
          refine List.mem_map.2 ⟨y, hy, ?_⟩
          rw [← h1 y (List.mem_cons_of_mem _ hy), ← h1 e List.mem_cons_self, ey]
      exact key (fun e he => (I.k e he).1) nd
    · obtain ⟨e, he, rfl⟩ := List.mem_map.1 hz
      exact (I.k e he).2.1
  simpa using this
theorem InvM.mrg {l : List Pc} {acc : PM} (I : InvM l acc) {zs : List Pc} (hp : zs.Perm (acc.map (·.2))) (hs : zs.Pairwise fun a b => cmpP a b ≤ 0) : IsMrg l zs := by
  have hm : ∀ z, z ∈ zs ↔ ∃ k, (k, z) ∈ acc := fun z => by
    rw [hp.mem_iff, List.mem_map]
    exact ⟨fun ⟨e, he, ez⟩ => ⟨e.1, by rw [← ez]; exact he⟩, fun ⟨k, hk⟩ => ⟨_, hk, rfl⟩⟩
  have nd : zs.Pairwise fun a b => plc a ≠ plc b := by
    have h1 : (acc.map (·.2)).Pairwise fun a b => plc a ≠ plc b := by
      rw [List.pairwise_map]
      have := I.nd
      unfold List.Nodup at this
      rw [List.pairwise_map] at this
      refine List.Pairwise.imp_of_mem ?_ this
      intro a b ha hb hne
      rw [(I.k a ha).1, (I.k b hb).1]; exact hne
    exact (hp.pairwise_iff (fun {a b} h => Ne.symm h)).2 h1
  refine ⟨?_, fun z => ?_⟩
  · refine List.Pairwise.imp ?_ (hs.and nd)
    rintro a b ⟨h1, h2⟩
    unfold cmpP at h1
    rw [orL_cons, orL_cons] at h1
    by_cases e : cS a.f_Series b.f_Series = 0
    · have es := cS_zero e
      right
      refine ⟨es, ?_⟩
      have : ¬ a.f_T = b.f_T := fun et => h2 (by unfold plc; rw [es, et])
      unfold or1 at h1
      rw [if_neg (by omega)] at h1
      by_cases c : cI a.f_T b.f_T = 0
      · unfold cI at c
        split at c
        · omega
        · split at c
          · omega
          · omega
      · rw [if_pos c] at h1
        have : cI a.f_T b.f_T < 0 := by omega
        unfold cI at this
        split at this
        · assumption
        · split at this <;> omega
    · left
      unfold or1 at h1
      rw [if_pos e] at h1
      omega
  · rw [hm]
    constructor
    · rintro ⟨k, hk⟩
      obtain ⟨a, b, c, d⟩ := I.k _ hk
      exact ⟨b, c, fun y hy ok ey => d y hy ok (by rw [ey]; exact a)⟩
    · rintro ⟨h1, h2, h3⟩
      obtain ⟨v, hv⟩ := I.c z h1 h2
      obtain ⟨a, b, c, d⟩ := I.k _ hv
      dsimp only at *
      have e1 := d z h1 h2 rfl
      have e2 := h3 v b c a
      have an := good_O.anti z v
      have ez : z = v := by
        have o0 : ordP z v = 0 := by omega
        unfold ordP at o0
        rw [orL_cons, orL_cons] at o0
        unfold or1 at o0
        have ci0 : ∀ {a b : Int}, cI a b = 0 → a = b := fun {a b} h => by
          unfold cI at h
          split at h
          · omega
          · split at h <;> omega
        have i0 : idsP z.f_Id v.f_Id = 0 := by
          by_cases h : idsP z.f_Id v.f_Id = 0
          · exact h
          · rw [if_pos h] at o0; exact absurd o0 h
        rw [if_neg (by omega)] at o0
        have v0 : cI z.f_V v.f_V = 0 := by
          by_cases h : cI z.f_V v.f_V = 0
          · exact h
          · rw [if_pos h] at o0; exact absurd o0 h
        unfold idsP at i0
        rw [orL_cons, orL_cons] at i0
        unfold or1 at i0
        have n0 : cI z.f_Id.f_N v.f_Id.f_N = 0 := by
          by_cases h : cI z.f_Id.f_N v.f_Id.f_N = 0
          · exact h
          · rw [if_pos h] at i0; exact absurd i0 h
        rw [if_neg (by omega)] at i0
        have d0 : cI z.f_Id.f_Node v.f_Id.f_Node = 0 := by
          by_cases h : cI z.f_Id.f_Node v.f_Id.f_Node = 0
          · exact h
          · rw [if_pos h] at i0; exact absurd i0 h
        have p1 := ci0 v0
        have p2 := ci0 n0
        have p3 := ci0 d0
        unfold plc at a
        injection a with a1 a2
        obtain ⟨zs, zt, zv, zn, zd⟩ := z
        obtain ⟨vs, vt, vv, vn, vd⟩ := v
        simp only at a1 a2 p1 p2 p3
        subst a1; subst a2; subst p1; subst p2; subst p3; rfl
      exact ⟨plc z, by rw [ez, a]; rw [ez] at hv; rw [a] at hv; exact hv⟩
/-! the walk -/
theorem PCheck_ok {p : Pc} {k : Int → Heap → Prop} {h : Heap} (H : ∀ h', Ext h.size h h' → k (if okP p = true then 0 else 1) h') : piece_Check p k h := by
  unfold piece_Check
  refine bx0 fun h2 B1 X1 => ⟨p.f_Series, B1.cl0 rfl, ?_⟩
  have H2 := H h2 X1
  unfold okP at H2
  by_cases h0 : p.f_Series.size = 0
  · rw [if_pos (by simpa using h0)]
    unfold piece_Check_g1
    rw [if_pos rfl]
    rw [if_neg (by simp [h0])] at H2; exact H2
  · rw [if_neg (by simpa using h0)]
    refine ⟨p.f_Series, B1.cl0 rfl, ?_⟩
    unfold piece_Check_g1
    by_cases h1 : p.f_Series.size ≤ 200
    · rw [if_neg (by simp; omega)]
      rw [if_pos (by simp; omega)] at H2; exact H2
    · rw [if_pos (by simp; omega)]
      rw [if_neg (by simp; omega)] at H2; exact H2
abbrev kfP := fun v : S_piece_place => Value.agg (S_piece_place.cs v).toArray
abbrev vfP := fun v : S_api_Piece => Value.agg (S_api_Piece.cs v).toArray
theorem foldM {l : List Pc} {i : Int} {x : Pc} (i0 : 0 ≤ i) (hx : l[i.toNat]? = some x) : (l.take (i + 1).toNat).foldl stepM [] = stepM ((l.take i.toNat).foldl stepM []) x := by
  rw [take1 i0 hx, List.foldl_append]; rfl
theorem InvM.fold (l : List Pc) : ∀ (n : Nat), InvM (l.take n) ((l.take n).foldl stepM [])
  | 0 => by simpa using InvM.nil
  | n + 1 => by
    rcases Nat.lt_or_ge n l.length with hn | hn
    · rw [List.take_succ_eq_append_getElem hn, List.foldl_append]
      exact (InvM.fold l n).step _
    · have := InvM.fold l n
      rw [List.take_of_length_le hn] at this
      rw [List.take_of_length_le (by omega)]; exact this
theorem Merge_ok {b n c : Nat} {s : Slc} {l : List Pc} {k : Slc → Heap → Prop} {h : Heap} (S : Blk h b [Slc.v s] n) (L : Pcs h s l) (m : l.length ≤ 1000000)
    (H : ∀ zs t h', IsMrg l zs → Row h.size h' 46 5 t (zs.flatMap S_api_Piece.cs) → t.len = zs.length → Ext h.size h h' → k t h') : piece_Merge ⟨some ⟨b, 0, none⟩, 1, c⟩ k h := by
  unfold piece_Merge
  refine ⟨_, _, rfl, rfl, ?_⟩
  have X1 := Ext.push h (.map #[] 0) (Nat.le_refl _)
  have M1 : MapSt kfP vfP (h.push (.map #[] 0)) h.size ([] : PM) := MapSt.mk0 h
  have S1 := S.ext X1 S.lt
  generalize h.push (.map #[] 0) = h1 at *
  have z1 := X1.size
  have ml1 := M1.lt
  unfold piece_Merge_l1
  refine ⟨fun i h' => (i = 0 ∨ i = 1) ∧ Ext h.size h h' ∧ MapSt kfP vfP h' h.size (if i = 0 then [] else l.foldl stepM []) ∧ h.size < h'.size, fun i _ => (1 - i).toNat, ⟨.inl rfl, X1, M1, ml1⟩, ?_⟩
  rintro j h2 ⟨hj, X2, M2, z2⟩
  unfold piece_Merge_l1b
  rcases hj with rfl | rfl
  · rw [if_pos (by simp)]
    rw [if_pos rfl] at M2
    refine ⟨_, rfl, Int.le_refl _, by show (0 : Int) < 1; decide, s, (S.ext X2 S.lt).cl rfl, ?_⟩
    unfold piece_Merge_l2
    refine ⟨fun i h' => 0 ≤ i ∧ i ≤ (l.length : Int) ∧ Ext h.size h h' ∧ h.size < h'.size ∧ MapSt kfP vfP h' h.size ((l.take i.toNat).foldl stepM []), fun i _ => l.length - i.toNat, ⟨Int.le_refl _, by omega, X2, z2, by simpa using M2⟩, ?_⟩
    rintro i h3 ⟨i0, i1, X3, z3, M3⟩
    unfold piece_Merge_l2b
    rw [L.l]
    by_cases hi : i < (l.length : Int)
    · rw [if_pos (by simpa using hi)]
      obtain ⟨a, x, ha, g0, g1, hx, hc⟩ := (L.ext X3).it i0 hi
      rw [L.l] at g1
      have IM := InvM.fold l i.toNat
      have fm := foldM i0 hx
      obtain ⟨acc, ea⟩ : ∃ acc, acc = (l.take i.toNat).foldl stepM [] := ⟨_, rfl⟩
      rw [← ea] at fm M3 IM
      refine ⟨a, ha, g0, g1, x, hc, bx rfl (by decide) fun h9 B9 X9 => ⟨x, CellsAt.of_blk B9, PCheck_ok fun h12 X12 => ?_⟩⟩
      have z9 := X9.size
      have z12 := X12.size
      have X312 : Ext h3.size h3 h12 := X9.trans (X12.mono z9)
      have X012 : Ext h.size h h12 := X3.trans (X312.mono (by omega))
      have M12 := M3.ext X312 z3
      have done : ∀ h', Ext h.size h h' → h.size < h'.size → MapSt kfP vfP h' h.size (stepM acc x) → piece_Merge_j3 h.size ⟨some ⟨b, 0, none⟩, 1, c⟩ 1 0 s (l.length : Int) i k (fun i h' => ((i = 0 ∨ i = 1) ∧ Ext h.size h h' ∧ MapSt kfP vfP h' h.size (if i = 0 then [] else l.foldl stepM []) ∧ h.size < h'.size) ∧ (1 - i).toNat < (1 - (0 : Int)).toNat) (fun s h' => (0 ≤ s ∧ s ≤ (l.length : Int) ∧ Ext h.size h h' ∧ h.size < h'.size ∧ MapSt kfP vfP h' h.size ((l.take s.toNat).foldl stepM [])) ∧ l.length - s.toNat < l.length - i.toNat) h' := fun h' X' z' M' => by
        unfold piece_Merge_j3
        rw [wI i0 hi m]
        exact ⟨⟨by omega, by omega, X', z', by rw [fm]; exact M'⟩, by omega⟩
      have B12 := B9.ext X12 B9.lt
      by_cases ok : okP x = true
      · rw [if_pos ok, if_neg (by simp)]
        refine ⟨x.f_Series, B12.cl0 rfl, x.f_T, B12.cl rfl, bx rfl (by decide) fun h17 B17 X17 => ⟨plc x, CellsAt.of_blk B17, acc, M12.ext X17 (by omega), bx rfl (by decide) fun h22 B22 X22 => ?_⟩⟩
        have z17 := X17.size
        have z22 := X22.size
        have X322 : Ext h3.size h3 h22 := (X312.trans (X17.mono (by omega))).trans (X22.mono (by omega))
        have X022 : Ext h.size h h22 := X3.trans (X322.mono (by omega))
        have M22 := M3.ext X322 z3
        have C9 := (B12.ext X17 B12.lt).ext X22 (Nat.lt_of_lt_of_le B12.lt z17)
        have C17 := B17.ext X22 B17.lt
        have j4f : ∀ h', Ext h22.size h22 h' → stepM acc x = mput acc (plc x) x → piece_Merge_j4 h.size ⟨h3.size, 0, none⟩ ⟨h12.size, 0, none⟩ ⟨some ⟨b, 0, none⟩, 1, c⟩ 1 0 s (l.length : Int) i false k _ (fun s h' => (0 ≤ s ∧ s ≤ (l.length : Int) ∧ Ext h.size h h' ∧ h.size < h'.size ∧ MapSt kfP vfP h' h.size ((l.take s.toNat).foldl stepM [])) ∧ l.length - s.toNat < l.length - i.toNat) h' := fun h' X' e => by
          have z' := X'.size
          unfold piece_Merge_j4
          rw [if_neg (by simp)]
          refine ⟨plc x, (CellsAt.of_blk C17).ext X', x, (CellsAt.of_blk C9).ext X', _, acc, _, rfl, M22.ext X' (by omega), rfl, done _ ((X022.trans (X'.mono (by omega))).trans (Ext.setM _ _ _ (Nat.le_refl _))) (by rw [setM_size]; omega) ?_⟩
          rw [e]
          exact (M22.ext X' (by omega)).put keyS_S_piece_place (plc x) x
        have eS : stepM acc x = (match mget acc (plc x) with | some q => if ordP q x ≥ 0 then acc else mput acc (plc x) x | none => mput acc (plc x) x) := by unfold stepM; rw [if_pos ok]
        cases hg : mget acc (plc x) with
        | none =>
          rw [hg] at eS
          dsimp only at eS
          rw [if_neg (by simp)]
          exact j4f h22 (Ext.refl _ _) eS
        | some y =>
          rw [hg] at eS B22
          dsimp only at eS
          rw [if_pos (by simp)]
          have ci : ∀ {b : Nat} {z : S_api_Piece} {g : Heap}, Blk g b (S_api_Piece.cs z) 46 → CellsAt g ((⟨b, 0, none⟩ : Addr).add 3) (S_api_Id.cs z.f_Id) := fun R => R.cls rfl
          refine ⟨y.f_Id, ci B22, x.f_Id, ci C9, y.f_V, B22.cl rfl, x.f_V, C9.cl rfl, Ids_ok fun h33 X33 => ⟨(C9.ext X33 C9.lt).cl rfl, (B22.ext X33 B22.lt).cl rfl, CmpI_ok (bx0 fun h39 B39 X39 => ?_)⟩⟩
          refine Or_ok (xs := [idsP y.f_Id x.f_Id, cI y.f_V x.f_V]) B39 (by simp) ?_
          have X2 := X33.trans (X39.mono X33.size)
          show piece_Merge_j4 _ _ _ _ _ _ _ _ _ (decide (ordP y x ≥ 0)) _ _ _ _
          by_cases ho : ordP y x ≥ 0
          · rw [if_pos ho] at eS
            rw [show decide (ordP y x ≥ 0) = true from by simpa using ho]
            unfold piece_Merge_j4
            rw [if_pos rfl]
            have z2' := X2.size
            exact done _ (X022.trans (X2.mono (by omega))) (by omega) (by rw [eS]; exact M22.ext X2 (by omega))
          · rw [if_neg ho] at eS
            rw [show decide (ordP y x ≥ 0) = false from by simpa using ho]
            exact j4f _ X2 eS
      · rw [if_neg ok, if_pos (by simp)]
        exact done h12 X012 (by omega) (by unfold stepM; rw [if_neg ok]; exact M12)
    · rw [if_neg (by simpa using hi)]
      rw [take_all (by omega)] at M3
      exact ⟨⟨.inr rfl, X3, by rw [if_neg (by decide)]; exact M3, z3⟩, by show (0 : Nat) < 1; decide⟩
  · rw [if_neg (by simp)]
    rw [if_neg (by decide)] at M2
    have IM := InvM.fold l l.length
    rw [List.take_length] at IM
    obtain ⟨es, ck, m1, m2, m3⟩ := M2
    unfold maps_Values_map_piece_place_api_Piece_piece_place_api_Piece
    refine bx0 fun h3 B3 X3 => ?_
    have z3 := X3.size
    unfold slices_SortedFunc_api_Piece__piece_compare slices_Collect_api_Piece
    refine ⟨h2.size, h.size, ck, es, (l.foldl stepM []).map (·.2), rfl, B3.cl0 rfl, by rw [X3.block _ z2]; exact m1, m2, ?_, ?_, ?_⟩
    · have := congrArg (List.map (·.2)) m3
      rw [List.map_map, List.map_map] at this
      rw [List.map_map]
      exact this
    · rw [List.length_map]; exact Nat.le_trans IM.len m
    · intro t xs h4 hp R hl X4
      have z4 := X4.size
      refine ⟨rfl, h3.size, xs, R, hl, z4, ?_, fun zs h5 pz sz R5 X5 => ?_⟩
      · rw [hp.length_eq, List.length_map]; exact Nat.le_trans IM.len m
      · refine H zs t h5 (IM.mrg (pz.trans hp) sz) (R5.mono (by omega)) (by rw [hl, pz.length_eq]) ?_
        exact ((X2.trans (X3.mono (by omega))).trans (X4.mono (by omega))).trans (X5.mono (by omega))
end Go.Q.Yz
set_option linter.unusedVariables false
set_option linter.unusedSimpArgs false
set_option maxRecDepth 100000
/- Contracts: a query is run. -/
namespace Go.Q.Yz
open Go.Q.Rw
abbrev qcs5 := S_api_Query.cs
theorem sel_U (t : ByteArray) {P : ByteArray → Prop} (h : P (ofL (U t))) : P t := by rwa [ofL_U] at h
theorem Check_ok {q : S_api_Query} {k : Int → Heap → Prop} {h : Heap} (hs : q.f_Select.size ≤ 100000000) (H : ∀ h', Ext h.size h h' → k (chkQ q) h') : query_Check q k h := by
  unfold query_Check
  refine bx0 fun h2 B1 X1 => ⟨q.f_Select, B1.cl0 rfl, ?_⟩
  have z1 := X1.size
  refine sel_U q.f_Select (P := fun t => label_Selector t _ h2) ?_
  have ul := U_len q.f_Select
  refine Selector_ok (by omega) (fun h5 e X5 => ?_) (fun name qs s h5 e R rl X5 => ?_)
  · have z5 := X5.size
    refine bx rfl (by decide) fun h8 B8 X8 => ?_
    rw [if_pos (by decide)]
    have := H h8 (X1.trans ((X5.mono z1).trans (X8.mono (by omega))))
    unfold chkQ at this
    rw [e] at this
    exact this
  · have z5 := X5.size
    refine bx rfl (by decide) fun h8 B8 X8 => ?_
    have z8 := X8.size
    rw [if_neg (by simp)]
    have X := X1.trans ((X5.mono z1).trans (X8.mono (by omega)))
    have H2 := H h8 X
    have C1 := (B1.ext X5 B1.lt).ext X8 (Nat.lt_of_lt_of_le B1.lt z5)
    unfold chkQ at H2
    rw [e] at H2
    simp only [Option.isNone_some, Bool.false_eq_true, if_false] at H2
    refine ⟨q.f_Agg, C1.cl rfl, ?_⟩
    unfold query_Check_g1 query_Check_g3 query_Check_g2
    by_cases h0 : q.f_Agg < 0
    · rw [if_pos (by simpa using h0), if_pos rfl, if_pos rfl]
      rw [if_pos (by omega)] at H2; exact H2
    · rw [if_neg (by simpa using h0)]
      refine ⟨q.f_Agg, C1.cl rfl, ?_⟩
      by_cases h6 : q.f_Agg > 6
      · rw [if_pos (by simpa using h6), if_pos rfl]
        rw [if_pos (by omega)] at H2; exact H2
      · rw [if_neg (by simpa using h6)]
        refine ⟨q.f_Agg, C1.cl rfl, ?_⟩
        by_cases e6 : q.f_Agg = 6
        · rw [if_pos (by simpa using e6)]
          refine ⟨q.f_Step, C1.cl rfl, ?_⟩
          by_cases st : q.f_Step < 1
          · rw [if_pos (by simpa using st)]
            rw [if_pos (by omega)] at H2; exact H2
          · rw [if_neg (by simpa using st)]
            rw [if_neg (by omega)] at H2; exact H2
        · rw [if_neg (by simpa using e6), if_neg (by simp)]
          rw [if_neg (by omega)] at H2; exact H2
theorem parse_len {l n : Tx} {ls : List LU} (hl : l.length ≤ 100000000) (h : parseU l = some (n, ls)) : okL ls ∧ ls.length ≤ 8 := by
  unfold parseU at h
  cases hs : selU l with
  | none => rw [hs] at h; cases h
  | some x =>
    obtain ⟨name, qs⟩ := x
    rw [hs] at h
    dsimp only at h
    obtain ⟨a, b, c⟩ := sel_len hs
    split at h
    · cases h
    · split at h
      · cases h
        refine ⟨fun x hx => ?_, by simpa using c⟩
        obtain ⟨y, hy, rfl⟩ := List.mem_map.1 hx
        have := b y hy
        dsimp only
        omega
      · cases h
theorem lsOf {α β : Type} {cs : α → List Value} {w : Nat} {f : β → α} (hc : ∀ x, (cs x).length = w) (hw : 0 < w) {B E : Nat} {h : Heap} {s : Slc} {xs : List β} (R : Row B h E w s (xs.flatMap fun x => cs (f x))) (hl : s.len = xs.length) : LsAt cs w h s (xs.map f) := by
  refine ls_of_slc hc ?_ (by simp [hl]) hw
  have := R.slc
  rw [List.flatMap_map]; exact this
theorem Ask_ok {q : S_api_Query} {p1 : Slc} {l : List Pc} {hz : Int} {k : Slc × Int → Heap → Prop} {h : Heap} (L : Pcs h p1 l) (m : l.length ≤ 1000000) (hs : q.f_Select.size ≤ 100000000) (hp : ∀ p ∈ l, p.f_Series.size ≤ 100000000)
    (H0 : ∀ h', chkQ q ≠ 0 → Ext h.size h h' → k (⟨none, 0, 0⟩, chkQ q) h')
    (H1 : ∀ zs s h', chkQ q = 0 → IsMrg l zs → Row h.size h' 46 5 s ((askQ q hz zs).flatMap S_api_Piece.cs) → s.len = (askQ q hz zs).length → Ext h.size h h' → k (s, 0) h') : query_Ask q p1 hz k h := by
  unfold query_Ask
  refine bx0 fun h2 B1 X1 => ⟨q, CellsAt.of_blk B1, Check_ok hs fun h5 X5 => ?_⟩
  have z1 := X1.size
  have z5 := X5.size
  have X05 := X1.trans (X5.mono z1)
  by_cases hc : chkQ q = 0
  rotate_left
  · rw [if_pos (by simpa using hc)]
    exact H0 h5 hc X05
  rw [if_neg (by simpa using hc)]
  have l1 := B1.lt
  have C1 := B1.ext X5 l1
  refine ⟨q.f_Select, C1.cl0 rfl, sel_U q.f_Select (P := fun t => label_Selector t _ h5) ?_⟩
  have ul := U_len q.f_Select
  refine Selector_ok (by omega) (fun h8 e X8 => ?_) (fun name qs sq h8 e Rq ql X8 => ?_)
  · unfold chkQ at hc
    rw [e] at hc
    simp at hc
  have z8 := X8.size
  have hask : ∀ zs, askQ q hz zs = askP q.f_From q.f_To hz (chs name qs) zs := fun zs => by unfold askQ; rw [e]
  refine bx rfl (by decide) fun h11 B9 X11 => ⟨_, _, rfl, rfl, ?_⟩
  have z11 := X11.size
  have XM := Ext.push h11 (.map #[] 0) (Nat.le_refl _)
  have M0 : MapAt .string Value.string Value.bool (h11.push (.map #[] 0)) (some h11.size) ([] : List (ByteArray × Bool)) := MapAt.mk0
  have B9' := B9.ext XM B9.lt
  have l9 := B9.lt
  generalize h11.push (.map #[] 0) = h13 at *
  have z13 := XM.size
  have ml := M0.lt
  have X013 : Ext h.size h h13 := X05.trans ((X8.mono (by omega)).trans ((X11.mono (by omega)).trans (XM.mono (by omega))))
  have D1 : Blk h13 h.size (qcs5 q) 23 := ((C1.ext X8 (by omega)).ext X11 (by omega)).ext XM (by omega)
  have Rq13 : Row h5.size h13 86 3 sq (qs.flatMap qcs) := (Rq.ext X11 fun g hg => (Rq.bd hg).2).ext XM fun g hg => by have := (Rq.bd hg).2; omega
  refine ⟨q.f_From, D1.cl rfl, q.f_To, D1.cl rfl, bx0 fun h17 B16 X17 => ⟨(D1.ext X17 D1.lt).cl rfl, (D1.ext X17 D1.lt).cl rfl, ?_⟩⟩
  have z17 := X17.size
  have X017 := X013.trans (X17.mono (by omega))
  refine Merge_ok B16 (L.ext X017) m fun zs t h21 IM R21 tl X21 => ?_
  have z21 := X21.size
  have E1 := (D1.ext X17 D1.lt).ext X21 (Nat.lt_of_lt_of_le D1.lt z17)
  refine ⟨E1.cl rfl, E1.cl rfl, ?_⟩
  have zl := IM.len
  have et : (if hz > q.f_From then hz else q.f_From) = max q.f_From hz := by split <;> omega
  refine Between_ok (ls_of_slc pcs5 R21.slc tl (by decide)) (by omega) fun u h25 R25 ul25 X25 => ?_
  have z25 := X25.size
  rw [et] at R25 ul25
  obtain ⟨bs, eb⟩ : ∃ bs, bs = zs.filter fun p => decide (max q.f_From hz ≤ p.f_T) && decide (p.f_T ≤ q.f_To) := ⟨_, rfl⟩
  rw [← eb] at R25 ul25
  have fin : askQ q hz zs = bs.filter fun p => chs name qs p.f_Series := by
    rw [hask, eb, List.filter_filter]
    unfold askP
    congr 1
    funext p
    rw [Bool.and_comm]
  have bl : bs.length ≤ 1000000 := by rw [eb]; exact Nat.le_trans (List.length_filter_le _ _) (by omega)
  have X1325 : Ext h13.size h13 h25 := X17.trans ((X21.mono z17).trans (X25.mono (by omega)))
  have M25 := M0.ext X1325 ml
  have F9 := B9'.ext X1325 B9'.lt
  have Rq25 := Rq13.ext X1325 fun g hg => (Rq13.bd hg).2
  have X025 := X013.trans (X1325.mono X013.size)
  have hpb : ∀ p ∈ bs, p.f_Series.size ≤ 100000000 := fun p hp' => by rw [eb] at hp'; exact hp p (IM.sub p (List.mem_filter.1 hp').1)
  have hq8 := (sel_len e).2.2
  unfold query_Ask_l1
  refine ⟨fun r h' => 0 ≤ r.2 ∧ r.2 ≤ (bs.length : Int) ∧ Upd h11.size h25 h' ∧ Row h25.size h' 46 5 r.1 (((bs.take r.2.toNat).filter fun p => chs name qs p.f_Series).flatMap S_api_Piece.cs) ∧ r.1.len = ((bs.take r.2.toNat).filter fun p => chs name qs p.f_Series).length ∧ ∃ ml : List (ByteArray × Bool), MapAt .string Value.string Value.bool h' (some h11.size) ml ∧ ∀ e ∈ ml, e.2 = chs name qs e.1,
    fun r _ => bs.length - r.2.toNat, ⟨by dsimp only; omega, by dsimp only; omega, Upd.refl _ _, by simpa using Row.nil _ _ _ _, by simp, [], M25, by simp⟩, ?_⟩
  rintro t12 i h26 ⟨i0, i1, UU, R, rl, ml, M, me⟩
  dsimp only at i0 i1 R rl ⊢
  have z26 := UU.size
  have base : ∀ {h'}, Upd h11.size h25 h' → Ext h.size h h' := fun {h'} U => X025.trans (U.ext (by omega) X025.size)
  unfold query_Ask_l1b
  have uT : ∀ {h'}, Upd h11.size h25 h' → Pcs h' u bs := fun {h'} U => ls_of_slc pcs5 (R25.keep fun g hg => U.block g (R25.bd hg).2 (by have := (R25.bd hg).1; omega)).slc ul25 (by decide)
  have uE : ∀ {a b}, Upd h11.size h25 a → Ext h25.size a b → Upd h11.size h25 b := fun {a b} U X => ⟨Nat.le_trans U.size X.size, fun g hg hn => (X.block g hg).trans (U.block g hg hn)⟩
  rw [ul25]
  by_cases hi : i < (bs.length : Int)
  rotate_left
  · rw [if_neg (by simpa using hi)]
    rw [take_all (by omega)] at R rl
    exact H1 zs t12 h26 hc IM (by rw [fin]; exact R.mono (by omega)) (by rw [fin]; exact rl) (base UU)
  rw [if_pos (by simpa using hi)]
  obtain ⟨a, x, ha, g0, g1, hx, hcx⟩ := (uT UU).it i0 hi
  have xs := hpb x (List.mem_of_getElem? hx)
  have tk := take1 i0 hx
  refine ⟨a, ha, g0, by rw [← ul25]; exact g1, x, hcx, bx rfl (by decide) fun h30 B28 X30 => ⟨x.f_Series, B28.cl0 rfl, ml, M.ext X30 M.lt, ?_⟩⟩
  have z30 := X30.size
  have U30 := uE UU (X30.mono z26)
  have lfl : ((bs.take i.toNat).filter fun p => chs name qs p.f_Series).length ≤ 1000000 := Nat.le_trans (List.length_filter_le _ _) (by rw [List.length_take]; omega)
  have j3 : ∀ h' ml', Upd h11.size h25 h' → (∀ g, g < h30.size → g ≠ h11.size → h'[g]? = h30[g]?) → h30.size ≤ h'.size → MapAt .string Value.string Value.bool h' (some h11.size) ml' → (∀ e ∈ ml', e.2 = chs name qs e.1) →
      query_Ask_j3 ⟨h8.size, 0, none⟩ h11.size t12 ⟨h26.size, 0, none⟩ u (bs.length : Int) i (chs name qs x.f_Series) k (fun r h' => (0 ≤ r.2 ∧ r.2 ≤ (bs.length : Int) ∧ Upd h11.size h25 h' ∧ Row h25.size h' 46 5 r.1 (((bs.take r.2.toNat).filter fun p => chs name qs p.f_Series).flatMap S_api_Piece.cs) ∧ r.1.len = ((bs.take r.2.toNat).filter fun p => chs name qs p.f_Series).length ∧ ∃ ml : List (ByteArray × Bool), MapAt .string Value.string Value.bool h' (some h11.size) ml ∧ ∀ e ∈ ml, e.2 = chs name qs e.1) ∧ bs.length - r.2.toNat < bs.length - i.toNat) h' := fun h' ml' U' K' z' M' me' => by
    have Rk : Row h25.size h' 46 5 t12 _ := (R.ext X30 fun g hg => (R.bd hg).2).keep fun g hg => K' g (by have := (R.bd hg).2; omega) (by have := (R.bd hg).1; omega)
    have Bk : Blk h' h26.size (S_api_Piece.cs x) 46 := B28.old (K' _ B28.lt (by omega))
    unfold query_Ask_j3 query_Ask_j2
    rw [wI i0 hi bl]
    cases hch : chs name qs x.f_Series with
    | true =>
      rw [if_pos rfl]
      have ef : (bs.take (i + 1).toNat).filter (fun p => chs name qs p.f_Series) = (bs.take i.toNat).filter (fun p => chs name qs p.f_Series) ++ [x] := by rw [tk, List.filter_append]; simp [hch]
      refine ⟨x, CellsAt.of_blk Bk, bx0 fun h35 B35 X35 => app1 (Rk.ext X35 fun g hg => (Rk.bd hg).2) (by have := X35.size; omega) rfl rfl (pcs_one x) (by omega) (by unfold maxLen; omega) fun s h37 R37 l37 X37 => ?_⟩
      have z35 := X35.size
      have X3 := (X35.mono (B' := h25.size) (by omega)).trans X37
      refine ⟨⟨by dsimp only; omega, by dsimp only; omega, uE U' X3, ?_, ?_, ml', M'.ext X3 (by omega), me'⟩, by dsimp only; omega⟩
      · dsimp only; rw [ef, List.flatMap_append]; simpa using R37
      · dsimp only; rw [ef, l37, rl]; simp
    | false =>
      rw [if_neg (by simp)]
      have ef : (bs.take (i + 1).toNat).filter (fun p => chs name qs p.f_Series) = (bs.take i.toNat).filter (fun p => chs name qs p.f_Series) := by rw [tk, List.filter_append]; simp [hch]
      refine ⟨⟨by dsimp only; omega, by dsimp only; omega, U', ?_, ?_, ml', M', me'⟩, by dsimp only; omega⟩
      · dsimp only; rw [ef]; exact Rk
      · dsimp only; rw [ef]; exact rl
  cases hg : mget ml x.f_Series with
  | some b =>
    rw [if_neg (by simp)]
    have := me _ (mget_mem hg)
    dsimp only at this
    rw [show ((some b : Option Bool).getD false) = chs name qs x.f_Series from this]
    exact j3 h30 ml U30 (fun _ _ _ => rfl) (Nat.le_refl _) (M.ext X30 M.lt) me
  | none =>
    rw [if_pos (by simp)]
    refine ⟨x.f_Series, B28.cl0 rfl, sel_U x.f_Series (P := fun t => label_Parse t _ h30) ?_⟩
    have ux := U_len x.f_Series
    have g4 : ∀ h' b, b = chs name qs x.f_Series → Ext h30.size h30 h' → query_Ask_g4 ⟨h8.size, 0, none⟩ h11.size t12 ⟨h26.size, 0, none⟩ u (bs.length : Int) i b k _ h' := fun h' b hb X' => by
      subst hb
      have z' := X'.size
      have M' := (M.ext X30 M.lt).ext X' (by omega)
      unfold query_Ask_g4
      refine ⟨x.f_Series, (B28.ext X' B28.lt).cl0 rfl, _, ml, _, rfl, M', rfl, j3 _ (mput ml x.f_Series (chs name qs x.f_Series)) ?_ (fun g hg hn => ?_) (by rw [setM_size]; exact z') (M'.put kStr _ _) fun e he => ?_⟩
      · have U' := uE U30 (X'.mono (by omega))
        exact ⟨by rw [setM_size]; exact U'.size, fun g hg hn => by rw [setM_other hn]; exact U'.block g hg hn⟩
      · rw [setM_other hn]; exact X'.block g hg
      · have none' : mput ml x.f_Series (chs name qs x.f_Series) = ml ++ [(x.f_Series, chs name qs x.f_Series)] := mput_none (mget_not hg)
        rw [none'] at he
        rcases List.mem_append.1 he with he | he
        · exact me e he
        · simp only [List.mem_singleton] at he; subst he; rfl
    refine Parse_ok (by omega) (fun h40 ep X40 => ?_) (fun n ls sl h40 ep Rl ll X40 => ?_)
    · refine bx rfl (by decide) fun h43 B41 X43 => ?_
      rw [if_neg (by decide)]
      exact g4 h43 false (by unfold chs; rw [ep]) (X40.trans (X43.mono X40.size))
    · have z40 := X40.size
      refine bx rfl (by decide) fun h43 B41 X43 => ?_
      rw [if_pos (by simp)]
      have z43 := X43.size
      have X3043 : Ext h30.size h30 h43 := X40.trans (X43.mono z40)
      have k43 : ∀ g, g < h25.size → g ≠ h11.size → h43[g]? = h25[g]? := fun g hg hn => (X3043.block g (by omega)).trans (U30.block g hg hn)
      have F43 : Blk h43 h8.size (S_api_Selector.cs ⟨ofL name, sq⟩) 53 := F9.old (k43 _ F9.lt (by omega))
      have Rq43 := Rq25.keep fun g hg => k43 g (Rq25.bd hg).2 (by have := (Rq.bd hg).2; omega)
      obtain ⟨okl, l8⟩ := parse_len (by omega) ep
      refine ⟨_, CellsAt.of_blk F43, _, CellsAt.of_blk B41, Chooses_ok (qs := qs) (ls := ls) (lsOf scs3_len (by decide) Rq43 ql) ?_ (by omega) (by omega) okl fun h51 X51 => g4 h51 _ ?_ (X3043.trans (X51.mono (by omega)))⟩
      · exact (lsOf labcs_len (by decide) Rl ll).ext X43
      · unfold chs; rw [ep]
theorem askQ_sub {q : S_api_Query} {hz : Int} {zs : List Pc} : List.Sublist (askQ q hz zs) zs := by
  unfold askQ
  split
  · exact List.nil_sublist _
  · exact List.filter_sublist
theorem grp_mem {l g : List Pc} (h : g ∈ grp l) : List.Sublist g l := by
  have := grp_flat l
  have h2 : List.Sublist g (grp l).flatten := List.sublist_flatten_of_mem h
  rwa [this] at h2
theorem Run_ok {q : S_api_Query} {p1 : Slc} {l : List Pc} {hz : Int} {k : Slc × Int → Heap → Prop} {h : Heap} (L : Pcs h p1 l) (m : l.length ≤ 1000) (hs : q.f_Select.size ≤ 100000000) (hp : ∀ p ∈ l, p.f_Series.size ≤ 100000000 ∧ in64 p.f_V ∧ in64 p.f_T) (q6 : in64 q.f_Step)
    (H : ∀ zs s h', IsMrg l zs ∨ (chkQ q ≠ 0 ∧ zs = []) → Ext h.size h h' → RowsV h' s (runP q hz zs).1 → (∀ g, s.blk = some g → h.size ≤ g) → k (s, (runP q hz zs).2) h') : query_Run q p1 hz k h := by
  unfold query_Run
  refine bx0 fun h2 B1 X1 => ⟨q, CellsAt.of_blk B1, ?_⟩
  have z1 := X1.size
  refine Ask_ok (L.ext X1) (by omega) hs (fun p h => (hp p h).1) (fun h5 hc X5 => ?_) (fun zs s h5 hc IM R sl X5 => ?_)
  · rw [if_pos (by simpa using hc)]
    have e : runP q hz [] = ([], chkQ q) := by unfold runP; rw [if_pos hc]
    have := H [] ⟨none, 0, 0⟩ h5 (.inr ⟨hc, rfl⟩) (X1.trans (X5.mono z1))
    rw [e] at this
    exact this (.nil _) fun g hg => by cases hg
  · rw [if_neg (by simp)]
    have z5 := X5.size
    have X05 := X1.trans (X5.mono z1)
    obtain ⟨as', ea⟩ : ∃ x, x = askQ q hz zs := ⟨_, rfl⟩
    have er : runP q hz zs = match rowsL q.f_Agg q.f_Step (grp as') with | none => ([], 19) | some r => (r, 0) := by unfold runP; rw [if_neg (by simpa using hc), ea]; rfl
    rw [← ea] at R sl
    have sub : List.Sublist as' zs := by rw [ea]; exact askQ_sub
    have al : as'.length ≤ 1000 := Nat.le_trans sub.length_le (Nat.le_trans IM.len m)
    have qa : 0 ≤ q.f_Agg ∧ q.f_Agg ≤ 6 ∧ (q.f_Agg = 6 → 0 < q.f_Step) := by
      unfold chkQ at hc
      split at hc
      · omega
      · split at hc
        · omega
        · omega
    have hb : ∀ p ∈ as', in64 p.f_V ∧ in64 p.f_T := fun p h => (hp p (IM.sub p (sub.mem h))).2
    have srt := IM.srt.sublist sub
    refine Groups_ok (ls_of_slc pcs5 R.slc sl (by decide)) (by omega) R.cap fun t ss h7 R7 tl G X7 => ?_
    have z7 := X7.size
    have X07 := X05.trans (X7.mono (by omega))
    have C1 := (B1.ext X5 B1.lt).ext X7 (Nat.lt_of_lt_of_le B1.lt z5)
    have gl : ss.length = (grp as').length := G.1
    have gfl := grp_flat as'
    have glen : ∀ n, ((grp as').take n).flatten.length ≤ 1000 := fun n => by
      have : ((grp as').take n).flatten.length ≤ (grp as').flatten.length := by
        conv => rhs; rw [← List.take_append_drop n (grp as'), List.flatten_append]
        simp
      rw [gfl] at this; omega
    have gcount : (grp as').length ≤ 1000 := by
      have key : ∀ gs : List (List Pc), (∀ g ∈ gs, g ≠ []) → gs.length ≤ gs.flatten.length := fun gs => by
        induction gs with
        | nil => simp
        | cons g r ih =>
          intro hne
          have := ih fun x hx => hne x (List.mem_cons_of_mem _ hx)
          have := List.length_pos_iff.2 (hne g List.mem_cons_self)
          simp only [List.length_cons, List.flatten_cons, List.length_append]; omega
      have := key (grp as') fun g hg => grp_ne hg
      rw [gfl] at this; omega
    unfold query_Run_l1
    refine ⟨fun r h' => 0 ≤ r.2 ∧ r.2 ≤ (ss.length : Int) ∧ Ext h7.size h7 h' ∧ ∃ rs, Row h7.size h' 50 4 r.1 (rvs rs) ∧ r.1.len = rs.length ∧ rs.length ≤ ((grp as').take r.2.toNat).flatten.length ∧ rowsL q.f_Agg q.f_Step (grp as') = (rowsL q.f_Agg q.f_Step ((grp as').drop r.2.toNat)).map (rs ++ ·),
      fun r _ => ss.length - r.2.toNat, ⟨by dsimp only; omega, by dsimp only; omega, Ext.refl _ _, [], Row.nil _ _ _ _, rfl, by simp, by simp⟩, ?_⟩
    rintro t10 i h8 ⟨i0, i1, X8, rs, Rr, rl, rb, eR⟩
    dsimp only at i0 i1 Rr rl rb eR ⊢
    have z8 := X8.size
    have X08 := X07.trans (X8.mono X07.size)
    unfold query_Run_l1b
    rw [tl]
    by_cases hi : i < (ss.length : Int)
    · rw [if_pos (by simpa using hi)]
      obtain ⟨sg, hsg⟩ : ∃ x, ss[i.toNat]? = some x := ⟨_, List.getElem?_eq_getElem (by omega)⟩
      obtain ⟨g, hg⟩ : ∃ x, (grp as')[i.toNat]? = some x := ⟨_, List.getElem?_eq_getElem (by omega)⟩
      have gm := List.mem_of_getElem? hg
      have Lg := (G.2 _ _ _ hsg hg).ext X8
      have R78 := R7.ext X8 fun g hg => (R7.bd hg).2
      obtain ⟨a, ha, hcl⟩ := slc_get R78.slc (i := i.toNat) (v := Slc.v sg) (by rw [List.getElem?_map, hsg]; rfl)
      have gs := grp_mem gm
      have ed : (grp as').drop i.toNat = g :: (grp as').drop (i + 1).toNat := by
        rw [show (i + 1).toNat = i.toNat + 1 from by omega]
        obtain ⟨h1, h2⟩ := List.getElem?_eq_some_iff.1 hg
        rw [← h2]; exact List.drop_eq_getElem_cons h1
      have D1 := C1.ext X8 C1.lt
      have ptw : g.Pairwise fun a b => a.f_T < b.f_T := by
        refine List.Pairwise.imp_of_mem ?_ (srt.sublist gs)
        intro a b ha hb hlt
        have := grp_same gm a ha b hb
        rcases hlt with hlt | hlt
        · rw [this, cS_self] at hlt; omega
        · exact hlt.2
      refine ⟨a, ha, i0, hi, sg, by rw [Nat.mul_one]; exact hcl, q, CellsAt.of_blk D1, ?_⟩
      refine Rows_ok Lg (by have := gs.length_le; omega) (fun p h => hb p (gs.mem h)) (grp_ne gm) ptw ⟨qa.1, qa.2.1⟩ qa.2.2 q6 (fun h9 e X9 => ?_) (fun r2 s2 h9 e X9 V => ?_)
      · rw [if_pos (by decide)]
        have e2 : runP q hz zs = ([], 19) := by rw [er, eR, ed]; unfold rowsL; rw [e]; rfl
        have := H zs ⟨none, 0, 0⟩ h9 (.inl IM) (X08.trans (X9.mono X08.size))
        rw [e2] at this
        exact this (.nil _) fun g hg => by cases hg
      · rw [if_neg (by simp)]
        have z9 := X9.size
        have rlen : r2.length ≤ g.length := by
          unfold rowsP at e
          have gp : 1 ≤ g.length := List.length_pos_iff.2 (grp_ne gm)
          split at e
          · cases e; simp
          split at e
          · cases e; simpa using gp
          split at e
          · cases e; simpa using gp
          split at e
          · cases e; simpa using gp
          split at e
          · cases e; simpa using gp
          split at e
          · split at e
            · cases e; simp
            · cases hr : rateP g with
              | none => rw [hr] at e; cases e
              | some n => rw [hr] at e; cases e; simpa using gp
          · cases e
            have key : ∀ (g : List Pc) (o : List RI), (g.foldl (eachE q.f_Step) o).length ≤ o.length + g.length := fun g => by
              induction g with
              | nil => simp
              | cons p r ih =>
                intro o
                rw [List.foldl_cons]
                have h1 := ih (eachE q.f_Step o p)
                have h2 := eachE_len q.f_Step o p
                simp only [List.length_cons]; omega
            simpa [eachP] using key g []
        have tkf : ((grp as').take (i + 1).toNat).flatten.length = ((grp as').take i.toNat).flatten.length + g.length := by
          rw [take1 i0 hg, List.flatten_append]; simp
        have gb := glen (i + 1).toNat
        refine ⟨rvs r2, V.1, app1 (Rr.ext X9 fun g hg => (Rr.bd hg).2) (by omega) rfl (by rw [rvs_len, V.2]) (rvs_cells r2) (by rw [V.2]; omega) (by rw [V.2]; unfold maxLen; omega) fun s h14 R14 l14 X14 => ?_⟩
        rw [wI i0 hi (by omega)]
        refine ⟨⟨by dsimp only; omega, by dsimp only; omega, (X8.trans (X9.mono z8)).trans X14, rs ++ r2, by rw [rvs_app]; exact R14, by rw [l14, rl, V.2]; simp, ?_, ?_⟩, by dsimp only; omega⟩
        · dsimp only; rw [tkf, List.length_append]; omega
        · dsimp only
          rw [eR, ed]
          conv => lhs; unfold rowsL
          rw [e]
          dsimp only
          rw [Option.map_map]
          congr 1
          funext y
          simp
    · rw [if_neg (by simpa using hi)]
      have ed : (grp as').drop i.toNat = [] := List.drop_of_length_le (by omega)
      rw [ed] at eR
      have e2 : runP q hz zs = (rs, 0) := by rw [er, eR]; simp [rowsL]
      have := H zs t10 h8 (.inl IM) X08
      rw [e2] at this
      exact this (.of Rr rl) fun g hg => by have := (Rr.bd hg).1; have := X07.size; omega
end Go.Q.Yz
