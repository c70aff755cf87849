/- A part of the proof of statements of this seat: lemmas, no statement of their own. -/
import Derived.Test.YtidhlagdagbggaaGreatYzQh
set_option linter.unusedVariables false
set_option linter.unusedSimpArgs false
set_option maxRecDepth 100000
/- How many rows there are. -/
namespace Go.Q.Yz
open Go.Q.Rw
theorem rowsP_bd {agg step : Int} {g : List Pc} {r : List RI} (hg : g ≠ []) (e : rowsP agg step g = some r) : r.length ≤ g.length := by
  have gp : 1 ≤ g.length := List.length_pos_iff.2 hg
  unfold rowsP at e
  split at e
  · cases e; simp
  split at e
  · cases e; simpa using gp
  split at e
  · cases e; simpa using gp
  split at e
  · cases e; simpa using gp
  split at e
  · cases e; simpa using gp
  split at e
  · split at e
    · cases e; simp
    · cases hr : rateP g with
      | none => rw [hr] at e; cases e
      | some n => rw [hr] at e; cases e; simpa using gp
  · cases e
    have key : ∀ (g : List Pc) (o : List RI), (g.foldl (eachE step) o).length ≤ o.length + g.length := fun g => by
      induction g with
      | nil => simp
      | cons p r ih =>
        intro o
        rw [List.foldl_cons]
        have h1 := ih (eachE step o p)
        have h2 := eachE_len step o p
        simp only [List.length_cons]; omega
    simpa [eachP] using key g []
theorem rowsL_bd {agg step : Int} : ∀ {gs : List (List Pc)} {r : List RI}, (∀ g ∈ gs, g ≠ []) → rowsL agg step gs = some r → r.length ≤ gs.flatten.length
  | [], r, _, e => by cases e; simp
  | g :: gs, r, hne, e => by
    unfold rowsL at e
    cases e1 : rowsP agg step g with
    | none => rw [e1] at e; cases e
    | some x =>
      rw [e1] at e
      dsimp only at e
      cases e2 : rowsL agg step gs with
      | none => rw [e2] at e; cases e
      | some y =>
        rw [e2] at e; cases e
        have := rowsP_bd (hne g List.mem_cons_self) e1
        have := rowsL_bd (fun z hz => hne z (List.mem_cons_of_mem _ hz)) e2
        rw [List.flatten_cons, List.length_append, List.length_append]; omega
theorem runP_bd {q : S_api_Query} {hz : Int} {zs : List Pc} : (runP q hz zs).1.length ≤ zs.length := by
  unfold runP
  split
  · simp
  · cases e : rowsL q.f_Agg q.f_Step (grp (askQ q hz zs)) with
    | none => simp
    | some r =>
      have := rowsL_bd (fun g hg => grp_ne hg) e
      rw [grp_flat] at this
      exact Nat.le_trans this askQ_sub.length_le
/-- what an argument of pieces is -/
def OkPc (p : Pc) : Prop := in64 p.f_V ∧ in64 p.f_T
theorem fold_min : ∀ (l : List Pc) (a : Int), l.foldl (fun m p => if p.f_V < m then p.f_V else m) a ≤ a ∧ (∀ p ∈ l, l.foldl (fun m p => if p.f_V < m then p.f_V else m) a ≤ p.f_V) ∧ (l.foldl (fun m p => if p.f_V < m then p.f_V else m) a = a ∨ ∃ p ∈ l, l.foldl (fun m p => if p.f_V < m then p.f_V else m) a = p.f_V)
  | [], a => ⟨Int.le_refl _, by simp, .inl rfl⟩
  | x :: l, a => by
    obtain ⟨h1, h2, h3⟩ := fold_min l (if x.f_V < a then x.f_V else a)
    simp only [List.foldl_cons]
    by_cases hx : x.f_V < a
    · simp only [if_pos hx] at h1 h2 h3 ⊢
      refine ⟨by omega, fun p hp => ?_, ?_⟩
      · rcases List.mem_cons.1 hp with rfl | hp
        · exact h1
        · exact h2 p hp
      · rcases h3 with h3 | ⟨p, hp, e⟩
        · exact .inr ⟨x, List.mem_cons_self, h3⟩
        · exact .inr ⟨p, List.mem_cons_of_mem _ hp, e⟩
    · simp only [if_neg hx] at h1 h2 h3 ⊢
      refine ⟨h1, fun p hp => ?_, ?_⟩
      · rcases List.mem_cons.1 hp with rfl | hp
        · omega
        · exact h2 p hp
      · rcases h3 with h3 | ⟨p, hp, e⟩
        · exact .inl h3
        · exact .inr ⟨p, List.mem_cons_of_mem _ hp, e⟩
theorem fold_max : ∀ (l : List Pc) (a : Int), a ≤ l.foldl (fun m p => if p.f_V > m then p.f_V else m) a ∧ (∀ p ∈ l, p.f_V ≤ l.foldl (fun m p => if p.f_V > m then p.f_V else m) a) ∧ (l.foldl (fun m p => if p.f_V > m then p.f_V else m) a = a ∨ ∃ p ∈ l, l.foldl (fun m p => if p.f_V > m then p.f_V else m) a = p.f_V)
  | [], a => ⟨Int.le_refl _, by simp, .inl rfl⟩
  | x :: l, a => by
    obtain ⟨h1, h2, h3⟩ := fold_max l (if x.f_V > a then x.f_V else a)
    simp only [List.foldl_cons]
    by_cases hx : x.f_V > a
    · simp only [if_pos hx] at h1 h2 h3 ⊢
      refine ⟨by omega, fun p hp => ?_, ?_⟩
      · rcases List.mem_cons.1 hp with rfl | hp
        · exact h1
        · exact h2 p hp
      · rcases h3 with h3 | ⟨p, hp, e⟩
        · exact .inr ⟨x, List.mem_cons_self, h3⟩
        · exact .inr ⟨p, List.mem_cons_of_mem _ hp, e⟩
    · simp only [if_neg hx] at h1 h2 h3 ⊢
      refine ⟨h1, fun p hp => ?_, ?_⟩
      · rcases List.mem_cons.1 hp with rfl | hp
        · omega
        · exact h2 p hp
      · rcases h3 with h3 | ⟨p, hp, e⟩
        · exact .inl h3
        · exact .inr ⟨p, List.mem_cons_of_mem _ hp, e⟩
theorem minV_spec {g : List Pc} (ne : g ≠ []) : (∀ p ∈ g, minV g ≤ p.f_V) ∧ ∃ p ∈ g, p.f_V = minV g := by
  cases g with
  | nil => exact absurd rfl ne
  | cons x l =>
    obtain ⟨h1, h2, h3⟩ := fold_min l x.f_V
    refine ⟨fun p hp => ?_, ?_⟩
    · rcases List.mem_cons.1 hp with rfl | hp
      · exact h1
      · exact h2 p hp
    · rcases h3 with h3 | ⟨p, hp, e⟩
      · exact ⟨x, List.mem_cons_self, h3.symm⟩
      · exact ⟨p, List.mem_cons_of_mem _ hp, e.symm⟩
theorem maxV_spec {g : List Pc} (ne : g ≠ []) : (∀ p ∈ g, p.f_V ≤ maxV g) ∧ ∃ p ∈ g, p.f_V = maxV g := by
  cases g with
  | nil => exact absurd rfl ne
  | cons x l =>
    obtain ⟨h1, h2, h3⟩ := fold_max l x.f_V
    refine ⟨fun p hp => ?_, ?_⟩
    · rcases List.mem_cons.1 hp with rfl | hp
      · exact h1
      · exact h2 p hp
    · rcases h3 with h3 | ⟨p, hp, e⟩
      · exact ⟨x, List.mem_cons_self, h3.symm⟩
      · exact ⟨p, List.mem_cons_of_mem _ hp, e.symm⟩
end Go.Q.Yz
set_option linter.unusedVariables false
set_option linter.unusedSimpArgs false
set_option maxRecDepth 100000
/- Sums by digits. -/
namespace Go.Q.Yz
open Go.Q.Rw
/-! sums by digits -/
def dig (x : S_api_Wide) : List Int := [x.f_Lo % 4294967296, x.f_Lo / 4294967296, (x.f_Hi + 9223372036854775808) % 4294967296, (x.f_Hi + 9223372036854775808) / 4294967296]
abbrev u64s (l : List Int) : List Value := l.map (Value.int .u64)
theorem Digits_ok {x : S_api_Wide} {k : Slc → Heap → Prop} {h : Heap} (b0 : 0 ≤ x.f_Lo ∧ x.f_Lo < 18446744073709551616) (b1 : in64 x.f_Hi) (H : ∀ b h', Blk h' b (u64s (dig x)) 41 → h.size ≤ b → Ext h.size h h' → k ⟨some ⟨b, 0, none⟩, 4, 4⟩ h') : ref01_digits x k h := by
  obtain ⟨c0, c1⟩ := b1
  unfold ref01_digits
  refine bx0 fun h2 B1 X1 => ⟨x.f_Hi, B1.cl0 rfl, _, rfl, x.f_Lo, B1.cl rfl, x.f_Lo, B1.cl rfl, ?_⟩
  have e : ([.int .u64 (Int.tmod x.f_Lo 4294967296), .int .u64 (IntKind.u64.wrap (Int.tdiv x.f_Lo 4294967296)), .int .u64 (Int.tmod (IntKind.u64.wrap (IntKind.u64.wrap x.f_Hi + 9223372036854775808)) 4294967296), .int .u64 (IntKind.u64.wrap (Int.tdiv (IntKind.u64.wrap (IntKind.u64.wrap x.f_Hi + 9223372036854775808)) 4294967296))] : List Value) = u64s (dig x) := by
    have e1 : IntKind.u64.wrap (IntKind.u64.wrap x.f_Hi + 9223372036854775808) = x.f_Hi + 9223372036854775808 := by rw [wrapU, wrapU]; omega
    rw [e1, Int.tmod_eq_emod_of_nonneg b0.1, Int.tdiv_eq_ediv_of_nonneg b0.1, Int.tmod_eq_emod_of_nonneg (by omega), Int.tdiv_eq_ediv_of_nonneg (by omega), wrapU64 (by omega) (by omega), wrapU64 (by omega) (by omega)]
    rfl
  rw [e]
  refine bx0 fun h8 B7 X8 => H _ h8 B7 X1.size (X1.trans (X8.mono X1.size))
theorem RAdd_ok {a b : Int} {k : S_api_Wide × Int → Heap → Prop} {h : Heap} (ba : bd2 a) (bb : bd2 b) (H : ∀ h', Ext h.size h h' → k (wd (a + b), 0) h') : ref01_Add (wd a) (wd b) k h := by
  unfold ref01_Add
  refine bx0 fun h2 B1 X1 => bx0 fun h4 B3 X3 => bx0 fun h6 B5 X5 => ?_
  have z1 := X1.size
  have z3 := X3.size
  have z5 := X5.size
  have C1 := (B1.ext X3 B1.lt).ext X5 (Nat.lt_of_lt_of_le B1.lt z3)
  have C3 := B3.ext X5 B3.lt
  have la : 0 ≤ (wd a).f_Lo ∧ (wd a).f_Lo < 18446744073709551616 := by unfold wd; dsimp only; omega
  have lb : 0 ≤ (wd b).f_Lo ∧ (wd b).f_Lo < 18446744073709551616 := by unfold wd; dsimp only; omega
  have ha := wd_hi (n := a) (by omega) (by omega)
  have hb := wd_hi (n := b) (by omega) (by omega)
  refine ⟨wd a, CellsAt.of_blk C1, wd b, CellsAt.of_blk C3, Digits_ok la ha fun g1 h10 D1 s1 X10 => ⟨(CellsAt.of_blk C3).ext X10, Digits_ok lb hb fun g2 h13 D2 s2 X13 => ?_⟩⟩
  have z10 := X10.size
  have z13 := X13.size
  have E1 := D1.ext X13 D1.lt
  have X06 : Ext h.size h h6 := X1.trans ((X3.mono z1).trans (X5.mono (by omega)))
  have X013 : Ext h.size h h13 := X06.trans ((X10.mono (by omega)).trans (X13.mono (by omega)))
  have E5 := (B5.ext X10 B5.lt).ext X13 (Nat.lt_of_lt_of_le B5.lt z10)
  have l5 := B5.lt
  -- the digits
  obtain ⟨x0, hx0⟩ : ∃ x, x = (wd a).f_Lo % 4294967296 := ⟨_, rfl⟩
  obtain ⟨x1, hx1⟩ : ∃ x, x = (wd a).f_Lo / 4294967296 := ⟨_, rfl⟩
  obtain ⟨x2, hx2⟩ : ∃ x, x = ((wd a).f_Hi + 9223372036854775808) % 4294967296 := ⟨_, rfl⟩
  obtain ⟨x3, hx3⟩ : ∃ x, x = ((wd a).f_Hi + 9223372036854775808) / 4294967296 := ⟨_, rfl⟩
  obtain ⟨y0, hy0⟩ : ∃ x, x = (wd b).f_Lo % 4294967296 := ⟨_, rfl⟩
  obtain ⟨y1, hy1⟩ : ∃ x, x = (wd b).f_Lo / 4294967296 := ⟨_, rfl⟩
  obtain ⟨y2, hy2⟩ : ∃ x, x = ((wd b).f_Hi + 9223372036854775808) % 4294967296 := ⟨_, rfl⟩
  obtain ⟨y3, hy3⟩ : ∃ x, x = ((wd b).f_Hi + 9223372036854775808) / 4294967296 := ⟨_, rfl⟩
  have ex : dig (wd a) = [x0, x1, x2, x3] := by unfold dig; rw [hx0, hx1, hx2, hx3]
  have ey : dig (wd b) = [y0, y1, y2, y3] := by unfold dig; rw [hy0, hy1, hy2, hy3]
  rw [ex] at D1 E1
  rw [ey] at D2
  have aeq : a = ((x3 * 4294967296 + x2) - 9223372036854775808) * 18446744073709551616 + (x1 * 4294967296 + x0) := by unfold wd at *; dsimp only at *; omega
  have beq' : b = ((y3 * 4294967296 + y2) - 9223372036854775808) * 18446744073709551616 + (y1 * 4294967296 + y0) := by unfold wd at *; dsimp only at *; omega
  have bx0' : 0 ≤ x0 ∧ x0 < 4294967296 := by omega
  have bx1 : 0 ≤ x1 ∧ x1 < 4294967296 := by omega
  have bx2 : 0 ≤ x2 ∧ x2 < 4294967296 := by omega
  have bx3 : 0 ≤ x3 ∧ x3 < 4294967296 := by unfold in64 at ha; omega
  have by0 : 0 ≤ y0 ∧ y0 < 4294967296 := by omega
  have by1 : 0 ≤ y1 ∧ y1 < 4294967296 := by omega
  have by2 : 0 ≤ y2 ∧ y2 < 4294967296 := by omega
  have by3 : 0 ≤ y3 ∧ y3 < 4294967296 := by unfold in64 at hb; omega
  clear hx0 hx1 hx2 hx3 hy0 hy1 hy2 hy3 la lb ha hb
  unfold ref01_Add_l1
  obtain ⟨s0, hs0⟩ : ∃ s, s = x0 + y0 + 0 := ⟨_, rfl⟩
  obtain ⟨s1', hs1⟩ : ∃ s, s = x1 + y1 + s0 / 4294967296 := ⟨_, rfl⟩
  obtain ⟨s2', hs2⟩ : ∃ s, s = x2 + y2 + s1' / 4294967296 := ⟨_, rfl⟩
  obtain ⟨s3, hs3⟩ : ∃ s, s = x3 + y3 + s2' / 4294967296 := ⟨_, rfl⟩
  let Z : List Int := [s0 % 4294967296, s1' % 4294967296, s2' % 4294967296, s3 % 4294967296]
  let Cy : List Int := [0, s0 / 4294967296, s1' / 4294967296, s2' / 4294967296, s3 / 4294967296]
  refine ⟨fun q hh => ∃ j : Nat, q.2.2 = (j : Int) ∧ j ≤ 4 ∧ Row h13.size hh 41 1 q.1 (u64s (Z.take j)) ∧ q.1.len = j ∧ Cy[j]? = some q.2.1 ∧ Ext h13.size h13 hh, fun q _ => 4 - q.2.2.toNat, ⟨0, rfl, by decide, Row.nil _ _ _ _, rfl, rfl, Ext.refl _ _⟩, ?_⟩
  rintro t8 c i hh ⟨j, ei, j4, R, tl, cy, X⟩
  dsimp only at ei R tl cy ⊢
  subst ei
  unfold ref01_Add_l1b
  by_cases hj : j < 4
  · rw [if_pos (by simp; omega)]
    obtain ⟨x, hx⟩ : ∃ x, [x0, x1, x2, x3][j]? = some x := ⟨_, List.getElem?_eq_getElem (by simpa using hj)⟩
    obtain ⟨y, hy⟩ : ∃ y, [y0, y1, y2, y3][j]? = some y := ⟨_, List.getElem?_eq_getElem (by simpa using hj)⟩
    have fact : 0 ≤ c ∧ c ≤ 1 ∧ (0 ≤ x ∧ x < 4294967296) ∧ (0 ≤ y ∧ y < 4294967296) ∧ Z.take (j + 1) = Z.take j ++ [(x + y + c) % 4294967296] ∧ Cy[j + 1]? = some ((x + y + c) / 4294967296) := by
      have : j = 0 ∨ j = 1 ∨ j = 2 ∨ j = 3 := by omega
      rcases this with rfl | rfl | rfl | rfl <;> (cases hx; cases hy; cases cy)
      · exact ⟨by omega, by omega, bx0', by0, by rw [← hs0]; rfl, by rw [← hs0]; rfl⟩
      · exact ⟨by omega, by omega, bx1, by1, by rw [← hs1]; rfl, by rw [← hs1]; rfl⟩
      · exact ⟨by omega, by omega, bx2, by2, by rw [← hs2]; rfl, by rw [← hs2]; rfl⟩
      · exact ⟨by omega, by omega, bx3, by3, by rw [← hs3]; rfl, by rw [← hs3]; rfl⟩
    obtain ⟨c0, c1, bx, by', ez, ec⟩ := fact
    have e1 : IntKind.u64.wrap (IntKind.u64.wrap (x + y) + c) = x + y + c := by rw [wrapU64 (x := x + y) (by omega) (by omega), wrapU64 (by omega) (by omega)]
    refine ⟨_, rfl, by omega, by show (j : Int) < 4; omega, x, ?_, _, rfl, by omega, by show (j : Int) < 4; omega, y, ?_, ?_⟩
    · rw [Nat.mul_one]; exact (E1.ext X E1.lt).cl (by rw [Int.toNat_natCast, List.getElem?_map, hx]; rfl)
    · rw [Nat.mul_one]; exact (D2.ext X D2.lt).cl (by rw [Int.toNat_natCast, List.getElem?_map, hy]; rfl)
    · rw [e1, Int.tmod_eq_emod_of_nonneg (by omega), Int.tdiv_eq_ediv_of_nonneg (by omega)]
      refine bx0 fun h19 B19 X19 => app1 (R.ext X19 fun g hg => (R.bd hg).2) (by have := X.size; have := X19.size; omega) rfl rfl (fun v hv => by simp at hv; subst hv; rfl) (by omega) (by unfold maxLen; omega) fun s h21 R21 l21 X21 => ⟨_, rfl, _, rfl, ?_⟩
      rw [wrapU64 (by omega) (by omega), wrapI64 (by omega) (by omega)]
      refine ⟨⟨j + 1, by dsimp only; omega, by omega, by rw [ez, u64s, List.map_append]; exact R21, by dsimp only; omega, ec, (X.trans (X19.mono X.size)).trans X21⟩, by dsimp only; omega⟩
  · rw [if_neg (by simp; omega)]
    have j4' : j = 4 := by omega
    subst j4'
    have ec : c = s3 / 4294967296 := by cases cy; rfl
    have zl : Z.take 4 = Z := rfl
    rw [zl] at R
    have cell : ∀ (n : Nat) (v : Int), Z[n]? = some v → ∃ a, t8.a = some a ∧ cellH hh (a.add (n * 1)) = some (.int .u64 v) := fun n v hv => by
      obtain ⟨a, ha, hc⟩ := slc_get R.slc (i := n) (v := Value.int .u64 v) (by rw [List.getElem?_map, hv]; rfl)
      exact ⟨a, ha, by rw [Nat.mul_one]; exact hc⟩
    obtain ⟨a', ea'⟩ : ∃ x, x = a := ⟨_, rfl⟩
    rw [← ea'] at aeq ba H
    clear ea'
    obtain ⟨a, ha, c3⟩ := cell 3 _ rfl
    obtain ⟨_, e2, c2⟩ := cell 2 _ rfl
    obtain ⟨_, e1, c1⟩ := cell 1 _ rfl
    obtain ⟨_, e0, c0⟩ := cell 0 _ rfl
    rw [ha] at e2 e1 e0
    cases e2; cases e1; cases e0
    have lt3 : (3 : Int) < (t8.len : Int) := by rw [tl]; decide
    refine ⟨a, ha, by decide, lt3, _, c3, ?_⟩
    have hE := E5.ext X E5.lt
    have zz := X.size
    -- what the digits stand for
    have key : a' + b + 340282366920938463463374607431768211456 = (s3 % 4294967296 * 4294967296 + s2' % 4294967296) * 18446744073709551616 + (s1' % 4294967296 * 4294967296 + s0 % 4294967296) + s3 / 4294967296 * 340282366920938463463374607431768211456 := by omega
    have r3 : 0 ≤ s3 % 4294967296 ∧ s3 % 4294967296 < 4294967296 := by omega
    have r2 : 0 ≤ s2' % 4294967296 ∧ s2' % 4294967296 < 4294967296 := by omega
    have r1 : 0 ≤ s1' % 4294967296 ∧ s1' % 4294967296 < 4294967296 := by omega
    have r0 : 0 ≤ s0 % 4294967296 ∧ s0 % 4294967296 < 4294967296 := by omega
    have rc : 0 ≤ s3 / 4294967296 ∧ s3 / 4294967296 ≤ 1 := by omega
    rw [ec]
    obtain ⟨d3, e3⟩ : ∃ d, d = s3 % 4294967296 := ⟨_, rfl⟩
    obtain ⟨d2, e2⟩ : ∃ d, d = s2' % 4294967296 := ⟨_, rfl⟩
    obtain ⟨d1, e1⟩ : ∃ d, d = s1' % 4294967296 := ⟨_, rfl⟩
    obtain ⟨d0, e0⟩ : ∃ d, d = s0 % 4294967296 := ⟨_, rfl⟩
    obtain ⟨cc, ecc⟩ : ∃ d, d = s3 / 4294967296 := ⟨_, rfl⟩
    rw [← e3, ← e2, ← e1, ← e0, ← ecc] at key
    rw [← e3] at r3 c3
    rw [← e2] at r2 c2
    rw [← e1] at r1 c1
    rw [← e0] at r0 c0
    rw [← ecc] at rc ⊢
    rw [← e3]
    clear e3 e2 e1 e0 ecc hs0 hs1 hs2 hs3 aeq beq' cell
    rw [if_neg (by
      simp only [Bool.or_eq_true, Bool.and_eq_true, Bool.not_eq_true', decide_eq_false_iff_not, decide_eq_true_eq, beq_iff_eq]
      omega)]
    refine ⟨a, ha, by decide, lt3, _, c3, a, ha, by decide, by omega, _, c2, a, ha, by decide, by omega, _, c1, a, ha, by decide, by omega, _, c0, ?_⟩
    have ew : (⟨IntKind.i64.wrap (IntKind.u64.wrap (IntKind.u64.wrap (d3 * 4294967296) + d2)), IntKind.u64.wrap (IntKind.u64.wrap (d1 * 4294967296) + d0)⟩ : S_api_Wide) = wd (a' + b) := by
      rw [wrapU64 (x := d3 * 4294967296) (by omega) (by omega), wrapU64 (x := d3 * 4294967296 + d2) (by omega) (by omega), wrapU64 (x := d1 * 4294967296) (by omega) (by omega), wrapU64 (x := d1 * 4294967296 + d0) (by omega) (by omega), wrapI]
      unfold wd
      congr 1 <;> omega
    rw [ew]
    refine bset hE rfl (Nat.le_refl _) fun h36 F U => ⟨_, CellsAt.of_blk F, H h36 ((X013.trans (X.mono (by omega))).trans (U.ext (by omega) (by omega)))⟩
end Go.Q.Yz
