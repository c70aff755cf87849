/- A part of the proof of statements of this seat: lemmas, no statement of their own. -/
import Derived.Test.YtidhlagdagbggaaQrC
set_option linter.unusedVariables false
set_option linter.unusedSimpArgs false
set_option maxRecDepth 100000
/- QueryBounds over the predicates. -/
namespace Go.Q.Yg
open Go.Q.Rw
def AdjG (gs : List (List Pc)) : Prop := ∀ (i : Nat) g g2, gs[i]? = some g → gs[i + 1]? = some g2 → ∀ x ∈ g, ∀ y ∈ g2, x.f_Series ≠ y.f_Series
theorem grpF_adj : ∀ (n : Nat) (l : List Pc), AdjG (grpF n l)
  | n, [] => by cases n <;> (intro i g g2 h; simp [grpF] at h)
  | 0, x :: l => by intro i g g2 h; simp [grpF] at h
  | n + 1, x :: l => by
    intro i g g2 h1 h2
    simp only [grpF] at h1 h2
    cases i with
    | succ i => exact grpF_adj n _ i g g2 (by simpa using h1) (by simpa using h2)
    | zero =>
      simp only [List.getElem?_cons_zero, Option.some.injEq] at h1
      simp only [Nat.zero_add, List.getElem?_cons_succ] at h2
      intro a ha b hb
      have ea : a.f_Series = x.f_Series := by
        rw [← h1] at ha
        rcases List.mem_cons.1 ha with rfl | ha
        · rfl
        · have := List.all_eq_true.1 (List.all_takeWhile (p := fun p : Pc => decide (p.f_Series = x.f_Series)) (l := l)) a ha; simpa using this
      have hm := List.mem_of_getElem? h2
      have sm := grpF_same _ _ g2 hm
      cases hd : l.dropWhile (fun p => decide (p.f_Series = x.f_Series)) with
      | nil => rw [hd] at h2; cases n <;> simp [grpF] at h2
      | cons y r =>
        rw [hd] at h2
        have hy : y ∈ g2 := by
          cases n with
          | zero => simp [grpF] at h2
          | succ n => simp only [grpF, List.getElem?_cons_zero, Option.some.injEq] at h2; rw [← h2]; exact List.mem_cons_self
        have np : y.f_Series ≠ x.f_Series := by
          have : ∀ {l : List Pc} {y r}, l.dropWhile (fun p => decide (p.f_Series = x.f_Series)) = y :: r → y.f_Series ≠ x.f_Series := fun {l} => by
            induction l with
            | nil => intro y r h; cases h
            | cons z l ih =>
              intro y r h
              rw [List.dropWhile_cons] at h
              split at h
              · exact ih h
              · rename_i hz
                cases h
                simpa using hz
          exact this hd
        rw [ea, sm b hb y hy]
        exact np.symm
theorem grp_adj (l : List Pc) : AdjG (grp l) := grpF_adj _ l
theorem fold_min : ∀ (l : List Pc) (a : Int), l.foldl (fun m p => if p.f_V < m then p.f_V else m) a ≤ a ∧ (∀ p ∈ l, l.foldl (fun m p => if p.f_V < m then p.f_V else m) a ≤ p.f_V) ∧ (l.foldl (fun m p => if p.f_V < m then p.f_V else m) a = a ∨ ∃ p ∈ l, l.foldl (fun m p => if p.f_V < m then p.f_V else m) a = p.f_V)
  | [], a => ⟨Int.le_refl _, by simp, .inl rfl⟩
  | x :: l, a => by
    obtain ⟨h1, h2, h3⟩ := fold_min l (if x.f_V < a then x.f_V else a)
    simp only [List.foldl_cons]
    by_cases hx : x.f_V < a
    · simp only [if_pos hx] at h1 h2 h3 ⊢
      refine ⟨by omega, fun p hp => ?_, ?_⟩
      · rcases List.mem_cons.1 hp with rfl | hp
        · exact h1
        · exact h2 p hp
      · rcases h3 with h3 | ⟨p, hp, e⟩
        · exact .inr ⟨x, List.mem_cons_self, h3⟩
        · exact .inr ⟨p, List.mem_cons_of_mem _ hp, e⟩
    · simp only [if_neg hx] at h1 h2 h3 ⊢
      refine ⟨h1, fun p hp => ?_, ?_⟩
      · rcases List.mem_cons.1 hp with rfl | hp
        · omega
        · exact h2 p hp
      · rcases h3 with h3 | ⟨p, hp, e⟩
        · exact .inl h3
        · exact .inr ⟨p, List.mem_cons_of_mem _ hp, e⟩
theorem fold_max : ∀ (l : List Pc) (a : Int), a ≤ l.foldl (fun m p => if p.f_V > m then p.f_V else m) a ∧ (∀ p ∈ l, p.f_V ≤ l.foldl (fun m p => if p.f_V > m then p.f_V else m) a) ∧ (l.foldl (fun m p => if p.f_V > m then p.f_V else m) a = a ∨ ∃ p ∈ l, l.foldl (fun m p => if p.f_V > m then p.f_V else m) a = p.f_V)
  | [], a => ⟨Int.le_refl _, by simp, .inl rfl⟩
  | x :: l, a => by
    obtain ⟨h1, h2, h3⟩ := fold_max l (if x.f_V > a then x.f_V else a)
    simp only [List.foldl_cons]
    by_cases hx : x.f_V > a
    · simp only [if_pos hx] at h1 h2 h3 ⊢
      refine ⟨by omega, fun p hp => ?_, ?_⟩
      · rcases List.mem_cons.1 hp with rfl | hp
        · exact h1
        · exact h2 p hp
      · rcases h3 with h3 | ⟨p, hp, e⟩
        · exact .inr ⟨x, List.mem_cons_self, h3⟩
        · exact .inr ⟨p, List.mem_cons_of_mem _ hp, e⟩
    · simp only [if_neg hx] at h1 h2 h3 ⊢
      refine ⟨h1, fun p hp => ?_, ?_⟩
      · rcases List.mem_cons.1 hp with rfl | hp
        · omega
        · exact h2 p hp
      · rcases h3 with h3 | ⟨p, hp, e⟩
        · exact .inl h3
        · exact .inr ⟨p, List.mem_cons_of_mem _ hp, e⟩
theorem minV_spec {g : List Pc} (ne : g ≠ []) : (∀ p ∈ g, minV g ≤ p.f_V) ∧ ∃ p ∈ g, p.f_V = minV g := by
  cases g with
  | nil => exact absurd rfl ne
  | cons x l =>
    obtain ⟨h1, h2, h3⟩ := fold_min l x.f_V
    refine ⟨fun p hp => ?_, ?_⟩
    · rcases List.mem_cons.1 hp with rfl | hp
      · exact h1
      · exact h2 p hp
    · rcases h3 with h3 | ⟨p, hp, e⟩
      · exact ⟨x, List.mem_cons_self, h3.symm⟩
      · exact ⟨p, List.mem_cons_of_mem _ hp, e.symm⟩
theorem maxV_spec {g : List Pc} (ne : g ≠ []) : (∀ p ∈ g, p.f_V ≤ maxV g) ∧ ∃ p ∈ g, p.f_V = maxV g := by
  cases g with
  | nil => exact absurd rfl ne
  | cons x l =>
    obtain ⟨h1, h2, h3⟩ := fold_max l x.f_V
    refine ⟨fun p hp => ?_, ?_⟩
    · rcases List.mem_cons.1 hp with rfl | hp
      · exact h1
      · exact h2 p hp
    · rcases h3 with h3 | ⟨p, hp, e⟩
      · exact ⟨x, List.mem_cons_self, h3.symm⟩
      · exact ⟨p, List.mem_cons_of_mem _ hp, e.symm⟩
def f0 (p : Pc) : RI := (p.f_Series, p.f_T, p.f_V)
theorem rowsL_0 {step : Int} : ∀ gs : List (List Pc), rowsL 0 step gs = some (gs.flatten.map f0)
  | [] => rfl
  | g :: gs => by
    unfold rowsL
    rw [rowsL_0 gs, List.flatten_cons, List.map_append]
    rfl
theorem rowsL_v {agg step : Int} (v : List Pc → Int) (h : ∀ g, rowsP agg step g = some [(ser g, 0, v g)]) : ∀ gs : List (List Pc), rowsL agg step gs = some (gs.map fun g => (ser g, 0, v g))
  | [] => rfl
  | g :: gs => by
    unfold rowsL
    rw [rowsL_v v h gs, h g]
    rfl
theorem ser_of {g : List Pc} {x : Pc} (hs : ∀ a ∈ g, ∀ b ∈ g, a.f_Series = b.f_Series) (hx : x ∈ g) : ser g = x.f_Series := by
  cases g with
  | nil => cases hx
  | cons y r => exact hs y List.mem_cons_self x hx
theorem Less_ok {a b : Int} {k : Bool → Heap → Prop} {h : Heap} (ba : in64 a) (bb : in64 b) (H : ∀ h', Ext h.size h h' → k (decide (a < b)) h') : ref01_Less (wd a) (wd b) k h := by
  unfold ref01_Less
  refine bx0 fun h2 B1 X1 => bx0 fun h4 B3 X3 => ?_
  have C1 := B1.ext X3 B1.lt
  have X := X1.trans (X3.mono X1.size)
  refine ⟨(wd a).f_Hi, C1.cl0 rfl, (wd b).f_Hi, B3.cl0 rfl, ?_⟩
  obtain ⟨a0, a1⟩ := ba
  obtain ⟨b0, b1⟩ := bb
  by_cases e : (wd a).f_Hi = (wd b).f_Hi
  · rw [if_neg (by simpa using e)]
    refine ⟨(wd a).f_Lo, C1.cl rfl, (wd b).f_Lo, B3.cl rfl, ?_⟩
    rw [show decide ((wd a).f_Lo < (wd b).f_Lo) = decide (a < b) from by
      rw [decide_eq_decide]; unfold wd at *; dsimp only at *; omega]
    exact H h4 X
  · rw [if_pos (by simpa using e)]
    refine ⟨(wd a).f_Hi, C1.cl0 rfl, (wd b).f_Hi, B3.cl0 rfl, ?_⟩
    rw [show decide ((wd a).f_Hi < (wd b).f_Hi) = decide (a < b) from by
      rw [decide_eq_decide]; unfold wd at *; dsimp only at *; omega]
    exact H h4 X
theorem wd_beq (a b : Int) : (((wd a).f_Hi == (wd b).f_Hi) && ((wd a).f_Lo == (wd b).f_Lo)) = decide (a = b) := by
  rw [Bool.eq_iff_iff]
  simp only [Bool.and_eq_true, beq_iff_eq, decide_eq_true_eq]
  constructor
  · rintro ⟨h1, h2⟩; unfold wd at *; dsimp only at *; omega
  · rintro rfl; exact ⟨rfl, rfl⟩
theorem By_ok {q : S_api_Query} {agg : Int} {p1 : Slc} {l : List Pc} {hz : Int} {k : Slc × Int → Heap → Prop} {h : Heap} (L : Pcs h p1 l) (m : l.length ≤ 1000) (hs : q.f_Select.size ≤ 100000000) (hp : ∀ p ∈ l, p.f_Series.size ≤ 100000000 ∧ in64 p.f_V ∧ in64 p.f_T) (q6 : in64 q.f_Step)
    (H : ∀ zs s h', IsMrg l zs ∨ (chkQ ⟨q.f_Select, q.f_From, q.f_To, agg, q.f_Step⟩ ≠ 0 ∧ zs = []) → Ext h.size h h' → RowsV h' s (runP ⟨q.f_Select, q.f_From, q.f_To, agg, q.f_Step⟩ hz zs).1 → k (s, (runP ⟨q.f_Select, q.f_From, q.f_To, agg, q.f_Step⟩ hz zs).2) h') : law19_by q agg p1 hz k h := by
  unfold law19_by
  refine bx0 fun h2 B1 X1 => bset1 B1 (by show 3 < 5; decide) fun h3 B2 U => ?_
  have z1 := X1.size
  have z3 := U.size
  replace B2 : Blk h3 h.size (qcs5 ⟨q.f_Select, q.f_From, q.f_To, agg, q.f_Step⟩) 36 := B2
  have X : Ext h.size h h3 := X1.trans (U.ext (Nat.le_refl _) (by omega))
  exact ⟨_, CellsAt.of_blk B2, Run_ok (L.ext X) m hs hp q6 fun zs s h' im X' R _ => H zs s h' im (X.trans (X'.mono X.size)) R⟩
theorem flat_at {α : Type} {gs : List (List α)} {i : Nat} {g : List α} (hg : gs[i]? = some g) : gs.flatten = (gs.take i).flatten ++ (g ++ (gs.drop (i + 1)).flatten) := by
  obtain ⟨h1, h2⟩ := List.getElem?_eq_some_iff.1 hg
  conv => lhs; rw [← List.take_append_drop i gs, List.flatten_append, List.drop_eq_getElem_cons h1, h2, List.flatten_cons]
theorem Bounds_loop {s0 s3 s4 s1 : Slc} {gs : List (List Pc)} {k : Bool → Heap → Prop} {h : Heap} (R0 : RowsV h s0 (gs.flatten.map f0)) (R3 : RowsV h s3 (gs.map fun g => (ser g, 0, minV g))) (R4 : RowsV h s4 (gs.map fun g => (ser g, 0, maxV g))) (R1 : RowsV h s1 (gs.map fun g => (ser g, 0, (g.length : Int))))
    (ne : ∀ g ∈ gs, g ≠ []) (same : ∀ g ∈ gs, ∀ x ∈ g, ∀ y ∈ g, x.f_Series = y.f_Series) (adj : AdjG gs) (hv : ∀ g ∈ gs, ∀ p ∈ g, in64 p.f_V) (m : gs.flatten.length ≤ 1000) (mg : gs.length ≤ 1000) (H : ∀ h', Ext h.size h h' → k true h') : law19_QueryBounds_l2 s0 s3 s4 s1 0 0 k h := by
  unfold law19_QueryBounds_l2
  have len0 : s0.len = gs.flatten.length := by rw [R0.2, List.length_map]
  have len3 : s3.len = gs.length := by rw [R3.2]; simp
  have len4 : s4.len = gs.length := by rw [R4.2]; simp
  have len1 : s1.len = gs.length := by rw [R1.2]; simp
  refine ⟨fun q h' => Ext h.size h h' ∧ ∃ i : Nat, q.2 = (i : Int) ∧ i ≤ gs.length ∧ q.1 = ((gs.take i).flatten.length : Int), fun q _ => gs.length - q.2.toNat, ⟨Ext.refl _ _, 0, rfl, by omega, by simp⟩, ?_⟩
  rintro at' ii h1 ⟨X1, i, ei, il, ea⟩
  dsimp only at ei ea
  subst ei; subst ea
  have z1 := X1.size
  unfold law19_QueryBounds_l2b
  by_cases hi : i < gs.length
  rotate_left
  · rw [if_neg (by rw [len3]; simp; omega)]
    have : i = gs.length := by omega
    subst this
    rw [List.take_length, len0, if_pos (by simp)]
    exact awake_ok fun h'' X => by unfold law19_QueryBounds_g10; exact H h'' (X1.trans (X.mono z1))
  rw [if_pos (by rw [len3]; simp; omega)]
  obtain ⟨g, hg⟩ : ∃ g, gs[i]? = some g := ⟨_, List.getElem?_eq_getElem hi⟩
  have gm := List.mem_of_getElem? hg
  have gne := ne g gm
  have gsm := same g gm
  have fl := flat_at hg
  obtain ⟨base, eb⟩ : ∃ b, b = (gs.take i).flatten.length := ⟨_, rfl⟩
  rw [← eb]
  have gl : base + g.length ≤ gs.flatten.length := by rw [fl, List.length_append, List.length_append, ← eb]; omega
  have tk1 : (gs.take (i + 1)).flatten.length = base + g.length := by
    rw [List.take_succ_eq_append_getElem hi, List.flatten_append, List.length_append, ← eb]
    obtain ⟨_, h2⟩ := List.getElem?_eq_some_iff.1 hg
    rw [h2]; simp
  have at_n : ∀ n, n < g.length → gs.flatten[base + n]? = g[n]? := fun n hn => by
    rw [fl, List.getElem?_append_right (by omega), ← eb, List.getElem?_append_left (by omega)]; congr 1; omega
  obtain ⟨mn1, mn2⟩ := minV_spec gne
  obtain ⟨mx1, mx2⟩ := maxV_spec gne
  have gi : (gs.map fun g => (ser g, (0 : Int), minV g))[i]? = some (ser g, 0, minV g) := by rw [List.getElem?_map, hg]; rfl
  have gi4 : (gs.map fun g => (ser g, (0 : Int), maxV g))[i]? = some (ser g, 0, maxV g) := by rw [List.getElem?_map, hg]; rfl
  have gi1 : (gs.map fun g => (ser g, (0 : Int), (g.length : Int)))[i]? = some (ser g, 0, (g.length : Int)) := by rw [List.getElem?_map, hg]; rfl
  have in3 : ∀ {h'}, Ext h.size h h' → ∃ a, s3.a = some a ∧ CellsAt h' (a.add (i * 4)) (S_api_Row.cs (toRow (ser g, 0, minV g))) := fun {h'} X => by
    obtain ⟨a, r, ha, hr, hc⟩ := (R3.ext X).it (i := (i : Int)) (by omega) (by rw [← R3.2, len3]; omega)
    rw [Int.toNat_natCast] at hr hc
    rw [gi] at hr; cases hr
    exact ⟨a, ha, hc⟩
  have in4 : ∀ {h'}, Ext h.size h h' → ∃ a, s4.a = some a ∧ CellsAt h' (a.add (i * 4)) (S_api_Row.cs (toRow (ser g, 0, maxV g))) := fun {h'} X => by
    obtain ⟨a, r, ha, hr, hc⟩ := (R4.ext X).it (i := (i : Int)) (by omega) (by rw [← R4.2, len4]; omega)
    rw [Int.toNat_natCast] at hr hc
    rw [gi4] at hr; cases hr
    exact ⟨a, ha, hc⟩
  have in1 : ∀ {h'}, Ext h.size h h' → ∃ a, s1.a = some a ∧ CellsAt h' (a.add (i * 4)) (S_api_Row.cs (toRow (ser g, 0, (g.length : Int)))) := fun {h'} X => by
    obtain ⟨a, r, ha, hr, hc⟩ := (R1.ext X).it (i := (i : Int)) (by omega) (by rw [← R1.2, len1]; omega)
    rw [Int.toNat_natCast] at hr hc
    rw [gi1] at hr; cases hr
    exact ⟨a, ha, hc⟩
  have mnb : in64 (minV g) := by obtain ⟨p, hp, e⟩ := mn2; rw [← e]; exact hv g gm p hp
  have mxb : in64 (maxV g) := by obtain ⟨p, hp, e⟩ := mx2; rw [← e]; exact hv g gm p hp
  have ilt : ((i : Nat) : Int) < (s3.len : Int) := by rw [len3]; omega
  have ilt4 : ((i : Nat) : Int) < (s4.len : Int) := by rw [len4]; omega
  have ilt1 : ((i : Nat) : Int) < (s1.len : Int) := by rw [len1]; omega
  unfold law19_QueryBounds_l3
  refine ⟨fun q h' => Ext h.size h h' ∧ ∃ n : Nat, n ≤ g.length ∧ q.1 = ((base + n : Nat) : Int) ∧ q.2.1 = (n : Int) ∧ q.2.2.1 = (g.take n).any (fun p => decide (p.f_V = minV g)) ∧ q.2.2.2 = (g.take n).any (fun p => decide (p.f_V = maxV g)), fun q _ => g.length - q.2.1.toNat, ⟨X1, 0, by omega, rfl, rfl, by simp, by simp⟩, ?_⟩
  rintro at' nn found other h2 ⟨X2, n, nl, ea, en, ef, eo⟩
  dsimp only at ea en ef eo
  subst ea; subst en; subst ef; subst eo
  have z2 := X2.size
  unfold law19_QueryBounds_l3b
  rw [len0]
  -- is the next one of the series?
  have stop : n = g.length → law19_QueryBounds_g4 s0 s3 s4 s1 ((base + n : Nat) : Int) (i : Int) (n : Int) ((g.take n).any (fun p => decide (p.f_V = minV g))) ((g.take n).any (fun p => decide (p.f_V = maxV g))) false k (fun s h' => (Ext h.size h h' ∧ ∃ i : Nat, s.2 = (i : Int) ∧ i ≤ gs.length ∧ s.1 = ((gs.take i).flatten.length : Int)) ∧ gs.length - s.2.toNat < gs.length - ((i : Nat) : Int).toNat) (fun s h' => (Ext h.size h h' ∧ ∃ n : Nat, n ≤ g.length ∧ s.1 = ((base + n : Nat) : Int) ∧ s.2.1 = (n : Int) ∧ s.2.2.1 = (g.take n).any (fun p => decide (p.f_V = minV g)) ∧ s.2.2.2 = (g.take n).any (fun p => decide (p.f_V = maxV g))) ∧ g.length - s.2.1.toNat < g.length - ((n : Nat) : Int).toNat) h2 := fun en => by
    subst en
    rw [List.take_length]
    have any1 : g.any (fun p => decide (p.f_V = minV g)) = true := by obtain ⟨p, hp, e⟩ := mn2; exact List.any_eq_true.2 ⟨p, hp, by simpa using e⟩
    have any2 : g.any (fun p => decide (p.f_V = maxV g)) = true := by obtain ⟨p, hp, e⟩ := mx2; exact List.any_eq_true.2 ⟨p, hp, by simpa using e⟩
    rw [any1, any2]
    unfold law19_QueryBounds_g4
    rw [if_neg (by simp), if_neg (by simp)]
    obtain ⟨a1, ha1, hc1⟩ := in1 X2
    obtain ⟨a3, ha3, hc3⟩ := in3 X2
    obtain ⟨a4, ha4, hc4⟩ := in4 X2
    refine ⟨a1, ha1, by omega, ilt1, wd (g.length : Int), by rw [Int.toNat_natCast]; exact rowWide hc1, ?_⟩
    have ew : (if BinOp.neq = .eql then (((wd (g.length : Int)).f_Hi == (⟨0, (IntKind.u64.wrap ((g.length : Nat) : Int))⟩ : S_api_Wide).f_Hi) && ((wd (g.length : Int)).f_Lo == (⟨0, (IntKind.u64.wrap ((g.length : Nat) : Int))⟩ : S_api_Wide).f_Lo)) else !(((wd (g.length : Int)).f_Hi == (⟨0, (IntKind.u64.wrap ((g.length : Nat) : Int))⟩ : S_api_Wide).f_Hi) && ((wd (g.length : Int)).f_Lo == (⟨0, (IntKind.u64.wrap ((g.length : Nat) : Int))⟩ : S_api_Wide).f_Lo))) = false := by
      rw [if_neg (by decide)]
      have : g.length ≤ 1000 := by omega
      rw [wrapU64 (by omega) (by omega)]
      have h1 : (wd (g.length : Int)).f_Hi = 0 := by unfold wd; dsimp only; omega
      have h2 : (wd (g.length : Int)).f_Lo = (g.length : Int) := by unfold wd; dsimp only; omega
      rw [h1, h2]; simp
    rw [ew]
    unfold law19_QueryBounds_g8
    rw [if_neg (by simp)]
    refine ⟨a3, ha3, by omega, ilt, ser g, by rw [Int.toNat_natCast]; exact cls0 hc3 rfl, a4, ha4, by omega, ilt4, ser g, by rw [Int.toNat_natCast]; exact cls0 hc4 rfl, ?_⟩
    unfold law19_QueryBounds_g9
    rw [if_neg (by simp)]
    refine ⟨_, rfl, ?_⟩
    rw [wrapI64 (by omega) (by omega)]
    exact ⟨⟨X2, i + 1, by dsimp only; omega, by omega, by dsimp only; rw [tk1]⟩, by dsimp only; omega⟩
  by_cases hn : n < g.length
  · -- one more of it
    rw [if_pos (by rw [decide_eq_true_eq]; omega)]
    obtain ⟨x, hx⟩ : ∃ x, g[n]? = some x := ⟨_, List.getElem?_eq_getElem hn⟩
    have xm := List.mem_of_getElem? hx
    have gx : (gs.flatten.map f0)[base + n]? = some (f0 x) := by rw [List.getElem?_map, at_n n hn, hx]; rfl
    have in0 : ∀ {h'}, Ext h.size h h' → ∃ a, s0.a = some a ∧ CellsAt h' (a.add ((base + n) * 4)) (S_api_Row.cs (toRow (f0 x))) := fun {h'} X => by
      obtain ⟨a, r, ha, hr, hc⟩ := (R0.ext X).it (i := ((base + n : Nat) : Int)) (by omega) (by rw [← R0.2, len0]; omega)
      rw [Int.toNat_natCast] at hr hc
      rw [gx] at hr; cases hr
      exact ⟨a, ha, hc⟩
    obtain ⟨a0, ha0, hc0⟩ := in0 X2
    obtain ⟨a3, ha3, hc3⟩ := in3 X2
    have lt0 : ((base + n : Nat) : Int) < (gs.flatten.length : Int) := by omega
    refine ⟨a0, ha0, by omega, lt0, x.f_Series, by rw [Int.toNat_natCast]; exact cls0 hc0 rfl, a3, ha3, by omega, ilt, ser g, by rw [Int.toNat_natCast]; exact cls0 hc3 rfl, ?_⟩
    rw [ser_of gsm xm]
    rw [show (x.f_Series.toList == x.f_Series.toList) = true from by simp]
    unfold law19_QueryBounds_g4
    rw [if_pos rfl, len0]
    refine ⟨a0, ha0, by omega, lt0, wd x.f_V, by rw [Int.toNat_natCast]; exact rowWide hc0, bx rfl (Nat.le_refl _) fun h5 B X5 => ?_⟩
    have z5 := X5.size
    have X05 := X2.trans (X5.mono z2)
    obtain ⟨b3, hb3, hd3⟩ := in3 X05
    have xv := hv g gm x xm
    refine ⟨_, CellsAt.of_blk B, b3, hb3, by omega, ilt, wd (minV g), by rw [Int.toNat_natCast]; exact rowWide hd3, Less_ok xv mnb fun h6 X6 => ?_⟩
    have z6 := X6.size
    rw [show decide (x.f_V < minV g) = false from by simp; exact mn1 x xm]
    rw [if_neg (by simp)]
    have X06 := X05.trans (X6.mono (by omega))
    obtain ⟨b4, hb4, hd4⟩ := in4 X06
    refine ⟨b4, hb4, by omega, ilt4, wd (maxV g), by rw [Int.toNat_natCast]; exact rowWide hd4, wd x.f_V, (CellsAt.of_blk B).ext X6, Less_ok mxb xv fun h7 X7 => ?_⟩
    have z7 := X7.size
    rw [show decide (maxV g < x.f_V) = false from by simp; exact mx1 x xm]
    have X07 := X06.trans (X7.mono (by omega))
    have Bw : CellsAt h7 ⟨h2.size, 0, none⟩ (S_api_Wide.cs (wd x.f_V)) := ((CellsAt.of_blk B).ext X6).ext X7
    have tk : g.take (n + 1) = g.take n ++ [x] := by
      obtain ⟨h1, h2⟩ := List.getElem?_eq_some_iff.1 hx
      rw [List.take_succ_eq_append_getElem h1, h2]
    have an : ∀ f : Pc → Bool, (g.take (n + 1)).any f = ((g.take n).any f || f x) := fun f => by rw [tk, List.any_append]; simp
    have g7 : ∀ b1 b2, b1 = (g.take (n + 1)).any (fun p => decide (p.f_V = minV g)) → b2 = (g.take (n + 1)).any (fun p => decide (p.f_V = maxV g)) → law19_QueryBounds_g7 s0 s3 s4 s1 ((base + n : Nat) : Int) (i : Int) (n : Int) b1 b2 k (fun s h' => (Ext h.size h h' ∧ ∃ i : Nat, s.2 = (i : Int) ∧ i ≤ gs.length ∧ s.1 = ((gs.take i).flatten.length : Int)) ∧ gs.length - s.2.toNat < gs.length - ((i : Nat) : Int).toNat) (fun s h' => (Ext h.size h h' ∧ ∃ n : Nat, n ≤ g.length ∧ s.1 = ((base + n : Nat) : Int) ∧ s.2.1 = (n : Int) ∧ s.2.2.1 = (g.take n).any (fun p => decide (p.f_V = minV g)) ∧ s.2.2.2 = (g.take n).any (fun p => decide (p.f_V = maxV g))) ∧ g.length - s.2.1.toNat < g.length - ((n : Nat) : Int).toNat) h7 := fun b1 b2 e1 e2 => by
      unfold law19_QueryBounds_g7
      refine ⟨_, rfl, _, rfl, ?_⟩
      rw [wrapI64 (by omega) (by omega), wrapI64 (by omega) (by omega)]
      exact ⟨⟨X07, n + 1, by omega, by dsimp only; omega, by dsimp only; omega, e1, e2⟩, by dsimp only; omega⟩
    have g6 : ∀ b1, b1 = (g.take (n + 1)).any (fun p => decide (p.f_V = minV g)) → law19_QueryBounds_g6 s0 s3 s4 s1 ((base + n : Nat) : Int) (i : Int) (n : Int) ((g.take n).any (fun p => decide (p.f_V = maxV g))) ⟨h2.size, 0, none⟩ b1 k _ _ h7 := fun b1 e1 => by
      unfold law19_QueryBounds_g6
      cases hf : (g.take n).any (fun p => decide (p.f_V = maxV g)) with
      | true => rw [if_pos rfl]; exact g7 _ _ e1 (by rw [an, hf]; simp)
      | false =>
        rw [if_neg (by simp)]
        obtain ⟨c4, hc4, hd4⟩ := in4 X07
        refine ⟨_, Bw, c4, hc4, by omega, ilt4, wd (maxV g), by rw [Int.toNat_natCast]; exact rowWide hd4, ?_⟩
        rw [if_pos rfl, wd_beq]
        exact g7 _ _ e1 (by rw [an, hf]; simp)
    unfold law19_QueryBounds_j5
    rw [if_neg (by simp)]
    cases hf : (g.take n).any (fun p => decide (p.f_V = minV g)) with
    | true => rw [if_pos rfl]; exact g6 _ (by rw [an, hf]; simp)
    | false =>
      rw [if_neg (by simp)]
      obtain ⟨c3, hc3', hd3'⟩ := in3 X07
      refine ⟨_, Bw, c3, hc3', by omega, ilt, wd (minV g), by rw [Int.toNat_natCast]; exact rowWide hd3', ?_⟩
      rw [if_pos rfl, wd_beq]
      exact g6 _ (by rw [an, hf]; simp)
  · have en : n = g.length := by omega
    by_cases hl : base + n < gs.flatten.length
    · rw [if_pos (by rw [decide_eq_true_eq]; omega)]
      -- the next one is of another series
      have hB : ∃ g2, gs[i + 1]? = some g2 := by
        refine ⟨_, List.getElem?_eq_getElem (Nat.lt_of_not_le fun hle => ?_)⟩
        rw [fl, List.drop_of_length_le hle] at hl
        simp only [List.flatten_nil, List.append_nil, List.length_append, ← eb] at hl
        omega
      obtain ⟨g2, hg2⟩ := hB
      have g2ne := ne g2 (List.mem_of_getElem? hg2)
      obtain ⟨y, r2, e2⟩ : ∃ y r, g2 = y :: r := by cases g2 with
        | nil => exact absurd rfl g2ne
        | cons y r => exact ⟨y, r, rfl⟩
      have gy : gs.flatten[base + n]? = some y := by
        rw [fl, List.getElem?_append_right (by omega), List.getElem?_append_right (by omega)]
        obtain ⟨h1, h2⟩ := List.getElem?_eq_some_iff.1 hg2
        rw [List.drop_eq_getElem_cons h1, h2, e2, List.flatten_cons, ← eb, show base + n - base - g.length = 0 from by omega]; rfl
      obtain ⟨x, xr, ex⟩ : ∃ x r, g = x :: r := by cases g with
        | nil => exact absurd rfl gne
        | cons y r => exact ⟨y, r, rfl⟩
      have xm : x ∈ g := by rw [ex]; exact List.mem_cons_self
      have diff := adj i g g2 hg hg2 x xm y (by rw [e2]; exact List.mem_cons_self)
      obtain ⟨a0, r, ha0, hr, hc0⟩ := (R0.ext X2).it (i := ((base + n : Nat) : Int)) (by omega) (by rw [← R0.2, len0]; omega)
      rw [Int.toNat_natCast, List.getElem?_map, gy] at hr
      cases hr
      obtain ⟨a3, ha3, hc3⟩ := in3 X2
      refine ⟨a0, ha0, by omega, by omega, y.f_Series, cls0 hc0 rfl, a3, ha3, by omega, ilt, ser g, by rw [Int.toNat_natCast]; exact cls0 hc3 rfl, ?_⟩
      rw [show (y.f_Series.toList == (ser g).toList) = false from by
        rw [beq_eq_false_iff_ne]
        intro e
        rw [ser_of gsm xm] at e
        exact diff (ba_ext e).symm]
      exact stop en
    · rw [if_neg (by rw [decide_eq_true_eq]; omega)]
      exact stop en
theorem QueryBounds_ok {q : S_api_Query} {p1 : Slc} {l : List Pc} {hz : Int} {k : Bool → Heap → Prop} {h : Heap} (L : Pcs h p1 l) (hok : ∀ p ∈ l, OkPc p) (q6 : in64 q.f_Step) (H : ∀ h', Ext h.size h h' → k true h') : law19_QueryBounds q p1 hz k h := by
  unfold law19_QueryBounds
  refine bx0 fun h2 B1 X1 => ?_
  have z1 := X1.size
  have l1 := B1.lt
  have aw : law19_QueryBounds_g1 p1 hz ⟨h.size, 0, none⟩ true k h2 := by
    unfold law19_QueryBounds_g1
    rw [if_pos rfl]
    exact awake_ok fun h'' X => H h'' (X1.trans (X.mono z1))
  refine Great_ok (n := 40) (L.ext X1) (by decide) (by rw [if_pos rfl]; exact aw) fun l40 s400 => ?_
  rw [if_neg (by simp)]
  refine ⟨q.f_Select, B1.cl0 rfl, ?_⟩
  by_cases hs : q.f_Select.size ≤ 400
  rotate_left
  · rw [show decide ((q.f_Select.size : Int) > 400) = true from by simp; omega]
    exact aw
  rw [show decide ((q.f_Select.size : Int) > 400) = false from by simp; omega]
  unfold law19_QueryBounds_g1
  rw [if_neg (by simp)]
  have hp : ∀ p ∈ l, p.f_Series.size ≤ 100000000 ∧ in64 p.f_V ∧ in64 p.f_T := fun p hp => ⟨by have := s400 p hp; omega, hok p hp⟩
  have L2 := L.ext X1
  -- what the four tell
  obtain ⟨c, ec⟩ : ∃ c : Int, c = if (selU (U q.f_Select)).isNone then 4 else 0 := ⟨_, rfl⟩
  have chk : ∀ a, 0 ≤ a → a ≤ 4 → chkQ ⟨q.f_Select, q.f_From, q.f_To, a, q.f_Step⟩ = c := fun a a0 a1 => by
    rw [ec]; unfold chkQ; dsimp only
    split
    · rfl
    · rw [if_neg (by omega)]
  have rn : ∀ a zs rs, 0 ≤ a → a ≤ 4 → rowsL a q.f_Step (grp (if c = 0 then askQ q hz zs else [])) = some rs → runP ⟨q.f_Select, q.f_From, q.f_To, a, q.f_Step⟩ hz zs = (rs, c) := fun a zs rs a0 a1 e => by
    unfold runP
    rw [chk a a0 a1]
    by_cases hc : c = 0
    · rw [if_neg (by simpa using hc)]
      rw [if_pos hc] at e
      have ea : askQ ⟨q.f_Select, q.f_From, q.f_To, a, q.f_Step⟩ hz zs = askQ q hz zs := rfl
      rw [ea]
      dsimp only
      rw [e, hc]
    · rw [if_pos hc]
      rw [if_neg hc] at e
      cases e; rfl
  refine ⟨q, CellsAt.of_blk B1, By_ok L2 (by omega) (by omega) hp q6 fun z0 s0 h9 im0 X9 R0 => ?_⟩
  have z9 := X9.size
  refine ⟨q, CellsAt.of_blk (B1.ext X9 l1), By_ok (L2.ext X9) (by omega) (by omega) hp q6 fun z3 s3 h12 im3 X12 R3 => ?_⟩
  have z12 := X12.size
  have X212 := X9.trans (X12.mono z9)
  refine ⟨q, CellsAt.of_blk (B1.ext X212 l1), By_ok (L2.ext X212) (by omega) (by omega) hp q6 fun z4 s4 h15 im4 X15 R4 => ?_⟩
  have z15 := X15.size
  have X215 := X212.trans (X15.mono (by omega))
  refine ⟨q, CellsAt.of_blk (B1.ext X215 l1), By_ok (L2.ext X215) (by omega) (by omega) hp q6 fun z5 s1 h18 im1 X18 R1 => ?_⟩
  have z18 := X18.size
  have X018 := X1.trans ((X215.trans (X18.mono (by omega))).mono z1)
  obtain ⟨gs, egs⟩ : ∃ gs, gs = grp (if c = 0 then askQ q hz z0 else []) := ⟨_, rfl⟩
  have same : ∀ z, (c = 0 → z = z0) → grp (if c = 0 then askQ q hz z else []) = gs := fun z e => by
    rw [egs]; by_cases hc : c = 0
    · rw [e hc]
    · rw [if_neg hc, if_neg hc]
  have un : ∀ {z a}, 0 ≤ a → a ≤ 4 → (IsMrg l z ∨ (chkQ ⟨q.f_Select, q.f_From, q.f_To, a, q.f_Step⟩ ≠ 0 ∧ z = [])) → c = 0 → z = z0 := fun {z a} a0 a1 im hc => by
    have h0 := im0.resolve_right fun h => h.1 ((chk 0 (by decide) (by decide)).trans hc)
    exact (im.resolve_right fun h => h.1 ((chk a a0 a1).trans hc)).uniq h0 fun _ => Iff.rfl
  have e0 := rn 0 z0 _ (by decide) (by decide) (rowsL_0 _)
  have e3 := rn 3 z3 _ (by decide) (by decide) (rowsL_v minV (fun g => rfl) _)
  have e4 := rn 4 z4 _ (by decide) (by decide) (rowsL_v maxV (fun g => rfl) _)
  have e1 := rn 1 z5 _ (by decide) (by decide) (rowsL_v (fun g => (g.length : Int)) (fun g => rfl) _)
  rw [← egs] at e0
  rw [same z3 (un (by decide) (by decide) im3)] at e3
  rw [same z4 (un (by decide) (by decide) im4)] at e4
  rw [same z5 (un (by decide) (by decide) im1)] at e1
  rw [e0] at R0
  rw [e3] at R3
  rw [e4] at R4
  rw [e1] at R1
  rw [e0, e3, e4, e1]
  have l3 : s3.len = gs.length := by rw [R3.2]; simp
  have l4 : s4.len = gs.length := by rw [R4.2]; simp
  have l1' : s1.len = gs.length := by rw [R1.2]; simp
  rw [l3, l4, l1', if_neg (by simp)]
  have sub : List.Sublist (if c = 0 then askQ q hz z0 else []) z0 := by
    split
    · exact askQ_sub
    · exact List.nil_sublist _
  have zsub : ∀ p ∈ z0, p ∈ l := fun p hp => by
    rcases im0 with im | ⟨_, e⟩
    · exact im.sub p hp
    · rw [e] at hp; cases hp
  have fl : gs.flatten = if c = 0 then askQ q hz z0 else [] := by rw [egs, grp_flat]
  have fl40 : gs.flatten.length ≤ 1000 := by rw [fl]; have := sub.length_le; have := im_len im0; omega
  have gne : ∀ g ∈ gs, g ≠ [] := fun g hg => by rw [egs] at hg; exact grp_ne hg
  have gle : gs.length ≤ gs.flatten.length := by
    have key : ∀ gs : List (List Pc), (∀ g ∈ gs, g ≠ []) → gs.length ≤ gs.flatten.length := fun gs => by
      induction gs with
      | nil => simp
      | cons g r ih =>
        intro hne
        have := ih fun x hx => hne x (List.mem_cons_of_mem _ hx)
        have := List.length_pos_iff.2 (hne g List.mem_cons_self)
        simp only [List.length_cons, List.flatten_cons, List.length_append]; omega
    exact key gs gne
  refine Bounds_loop (((R0.ext X12).ext X15).ext X18) ((R3.ext X15).ext X18) (R4.ext X18) R1 gne (fun g hg => by rw [egs] at hg; exact grp_same hg) (by rw [egs]; exact grp_adj _) (fun g hg p hp => ?_) fl40 (by omega) fun h' X => H h' (X018.trans (X.mono X018.size))
  rw [egs] at hg
  exact (hok p (zsub p (((grp_mem hg).trans sub).mem hp))).1
end Go.Q.Yg
