/- A part of the proof of statements of this seat: lemmas, no statement of their own. -/
import Derived.Test.YtcmbgfmbmbgbiaaYbRgA
set_option linter.unusedVariables false
set_option linter.unusedSimpArgs false
namespace Go.Q.Yb
theorem mget_map {K V W : Type} [DecidableEq K] (f : V → W) (k : K) : ∀ l : List (K × V), mget (l.map fun q => (q.1, f q.2)) k = (mget l k).map f
  | [] => rfl
  | p :: r => by
    simp only [List.map_cons, mget]
    by_cases h : p.1 = k
    · rw [if_pos h, if_pos h]; rfl
    · rw [if_neg h, if_neg h]; exact mget_map f k r
theorem mput_map {K V W : Type} [DecidableEq K] (f : V → W) (k : K) (v : V) : ∀ l : List (K × V), mput (l.map fun q => (q.1, f q.2)) k (f v) = (mput l k v).map fun q => (q.1, f q.2)
  | [] => rfl
  | p :: r => by
    simp only [List.map_cons, mput]
    by_cases h : p.1 = k
    · rw [if_pos h, if_pos h]; rfl
    · rw [if_neg h, if_neg h, List.map_cons, mput_map f k v r]
theorem mget_mem {K V : Type} [DecidableEq K] {k : K} {v : V} : ∀ {l : List (K × V)}, mget l k = some v → (k, v) ∈ l
  | [], h => by cases h
  | p :: r, h => by
    simp only [mget] at h
    by_cases hp : p.1 = k
    · rw [if_pos hp] at h; cases h; rw [← hp]; simp
    · rw [if_neg hp] at h; exact List.mem_cons_of_mem _ (mget_mem h)
theorem mput_mem {K V : Type} [DecidableEq K] {k : K} {v : V} {q : K × V} : ∀ {l : List (K × V)}, q ∈ mput l k v → q = (k, v) ∨ q ∈ l
  | [], h => by simp [mput] at h; exact .inl h
  | p :: r, h => by
    simp only [mput] at h
    by_cases hp : p.1 = k
    · rw [if_pos hp] at h
      rcases List.mem_cons.1 h with h | h
      · exact .inl h
      · exact .inr (List.mem_cons_of_mem _ h)
    · rw [if_neg hp] at h
      rcases List.mem_cons.1 h with h | h
      · exact .inr (by rw [h]; simp)
      · rcases mput_mem h with h | h
        · exact .inl h
        · exact .inr (List.mem_cons_of_mem _ h)
/-- a row of structs of one's own: one of them is written -/
theorem fm_sets {α : Type} {cs : α → List Value} {w : Nat} (hc : ∀ x, (cs x).length = w) : ∀ (xs : List α) (i : Nat) (x : α), i < xs.length → (xs.flatMap cs).take (i * w) ++ cs x ++ (xs.flatMap cs).drop ((i + 1) * w) = (xs.set i x).flatMap cs
  | [], i, x, h => by simp at h
  | y :: r, 0, x, h => by
    simp only [Nat.zero_mul, List.take_zero, List.nil_append, List.flatMap_cons, List.set_cons_zero, Nat.zero_add, Nat.one_mul]
    rw [List.drop_append_of_le_length (by rw [hc]; exact Nat.le_refl _), List.drop_of_length_le (by rw [hc]; exact Nat.le_refl _), List.nil_append]
  | y :: r, i + 1, x, h => by
    simp only [List.flatMap_cons, List.set_cons_succ]
    rw [← fm_sets hc r i x (by simpa using h)]
    rw [List.take_append, hc, List.take_of_length_le (by rw [hc, Nat.add_mul]; omega), List.drop_append, hc, List.drop_of_length_le (by rw [hc, Nat.add_mul]; omega)]
    rw [show (i + 1) * w - w = i * w from by rw [Nat.add_mul]; omega, show (i + 1 + 1) * w - w = (i + 1) * w from by rw [Nat.add_mul (i + 1)]; omega]
    simp only [List.append_assoc, List.nil_append]
theorem tk_sets (cur v : List Value) (a n : Nat) (h : a + v.length ≤ n) (hn : n ≤ cur.length) : (cur.take a ++ v ++ cur.drop (a + v.length)).take n = (cur.take n).take a ++ v ++ (cur.take n).drop (a + v.length) := by
  have hl : (cur.take a ++ v).length = a + v.length := by rw [List.length_append, List.length_take]; omega
  rw [List.take_append, hl, List.take_of_length_le (by omega), List.take_take, Nat.min_eq_left (by omega), List.drop_take]
theorem Row.setS {α : Type} {cs : α → List Value} {B E w : Nat} {h : Heap} {s : Slc} {xs : List α} (hc : ∀ x, (cs x).length = w) (R : Row B h E w s (xs.flatMap cs)) (hl : s.len = xs.length) {i : Nat} (hi : i < xs.length) (x : α) {a : Addr} (ha : s.a = some a) :
    WrsAt h (a.add (i * w)) w ∧ Row B (setsH h (a.add (i * w)) 0 (cs x)) E w s ((xs.set i x).flatMap cs) ∧ B ≤ a.block := by
  rcases R.2.2 with ⟨k, _⟩ | ⟨g, cur, a1, a2, a3, a4, a5, a6⟩
  · rw [k] at ha; cases ha
  · rw [ha] at a1; cases a1
    have hiw : i * w + w ≤ s.len * w := by
      have : (i + 1) * w ≤ s.len * w := Nat.mul_le_mul_right _ (by omega)
      rw [Nat.add_mul] at this; omega
    have hcap : s.len * w ≤ s.cap * w := Nat.mul_le_mul_right _ a4
    rw [add_mk, Nat.zero_add]
    refine ⟨fun j hj => by rw [add_mk]; exact a3.wr (by omega), ⟨by rw [fm_len hc, List.length_set, hl], R.2.1, .inr ⟨g, _, ha, a2, a3.sets (cs x) (i * w) 0 (by rw [hc]; omega), a4, ?_, ?_⟩⟩, a2⟩
    · simp only [List.length_append, List.length_take, List.length_drop, hc]; omega
    · rw [← fm_sets hc xs i x hi, ← a6, tk_sets cur (cs x) (i * w + 0) (s.len * w) (by rw [hc]; omega) (by omega), hc, Nat.add_zero, show (i + 1) * w = i * w + w from by rw [Nat.add_mul, Nat.one_mul]]
/-! ### copied -/
theorem Copied_ok {t : S_api_Tenant} {zs : List Z} {k : S_api_Tenant → Heap → Prop} {h : Heap} (K : KAt h t.f_Keys zs) (hz : zs.length ≤ 1000000)
    (H : ∀ s zs' h', KOwn h.size h' s zs' → zs'.map absK = zs.map absK → Ext h.size h h' → k { t with f_Keys := s } h') : reg_copied t k h := by
  have kl := K.len
  unfold reg_copied
  refine ⟨_, _, rfl, rfl, ?_⟩
  have P := Blk.push h (S_api_Tenant.cs t) 130
  have W := Ext.push h (.cells (S_api_Tenant.cs t).toArray 130) (Nat.le_refl _)
  obtain ⟨h2, e2⟩ : ∃ y, y = h.push (.cells (S_api_Tenant.cs t).toArray 130) := ⟨_, rfl⟩
  rw [← e2] at P W ⊢
  have z2 := W.size
  have pl := P.lt
  refine ⟨_, _, rfl, rfl, ?_⟩
  have Q := Blk.push h2 (S_api_Tenant.cs zT) 130
  have W3 := Ext.push h2 (.cells (S_api_Tenant.cs zT).toArray 130) (Nat.le_refl _)
  obtain ⟨h3, e3⟩ : ∃ y, y = h2.push (.cells (S_api_Tenant.cs zT).toArray 130) := ⟨_, rfl⟩
  rw [← e3] at Q W3 ⊢
  have z3 := W3.size
  have ql := Q.lt
  have P3 := P.ext W3 pl
  refine ⟨t.f_Keys, by rw [add_mk, P3.cell]; rfl, _, by rw [add_mk]; exact P3.wr (by rw [tcs_len]; omega), rfl, ?_⟩
  rw [show (⟨h.size, 0, none⟩ : Addr).add 1 = ⟨h.size, 1, none⟩ from by simp]
  have P4 : Blk (setH h3 ⟨h.size, 1, none⟩ (Slc.v ⟨none, 0, 0⟩)) h.size (S_api_Tenant.cs { t with f_Keys := ⟨none, 0, 0⟩ }) 130 := P3.set
  have Q4 : Blk (setH h3 ⟨h.size, 1, none⟩ (Slc.v ⟨none, 0, 0⟩)) h2.size (S_api_Tenant.cs zT) 130 := Q.old (setH_other (by dsimp only; omega))
  have X4 : Ext h.size h3 (setH h3 ⟨h.size, 1, none⟩ (Slc.v ⟨none, 0, 0⟩)) := Ext.set _ _ (Nat.le_refl _)
  generalize setH h3 ⟨h.size, 1, none⟩ (Slc.v ⟨none, 0, 0⟩) = h4 at *
  have z4 := X4.size
  have X04 : Ext h.size h h4 := (W.trans (W3.mono z2)).trans X4
  refine ⟨fun i h' => ∃ s zs', 0 ≤ i ∧ i ≤ zs.length ∧ Blk h' h.size (S_api_Tenant.cs { t with f_Keys := s }) 130 ∧ Blk h' h2.size (S_api_Tenant.cs zT) 130 ∧ KOwn (h2.size + 1) h' s zs' ∧ zs'.map absK = (zs.take i.toNat).map absK ∧ Ext h.size h h',
    fun i _ => (zs.length - i).toNat, ⟨⟨none, 0, 0⟩, [], by omega, by omega, P4, Q4, KOwn.nil _ _, by simp, X04⟩, ?_⟩
  rintro i h1 ⟨s, zs', i0, i1, P1, Q1, O1, ab, X1⟩
  have z1 := X1.size
  have p1 := P1.lt
  have q1 := Q1.lt
  have al : zs'.length = i.toNat := by have := congrArg List.length ab; simp only [List.length_map, List.length_take] at this; omega
  unfold reg_copied_l1b
  by_cases hi : i < zs.length
  · rw [if_pos (by rw [decide_eq_true_eq]; omega)]
    have hx : zs[i.toNat]? = some (zs[i.toNat]'(by omega)) := by simp
    generalize zs[i.toNat]'(by omega) = z at *
    obtain ⟨a, ha, C⟩ := (K.ext X1).1.at' i.toNat z.1 (by rw [List.getElem?_map, hx]; rfl)
    obtain ⟨zS, zl, zB, z48⟩ := K.2 z (List.mem_of_getElem? hx)
    refine ⟨a, ha, i0, by omega, z.1, C, _, _, rfl, rfl, ?_⟩
    have T := Blk.push h1 (S_api_Wrapped.cs zW) 132
    have T2 := T.sets_all (vs := S_api_Wrapped.cs z.1) rfl
    have W5 := (Ext.push h1 (.cells (S_api_Wrapped.cs zW).toArray 132) (Nat.le_refl _)).trans (Ext.sets _ (a := ⟨h1.size, 0, none⟩) 0 (S_api_Wrapped.cs z.1) (Nat.le_refl _))
    refine ⟨_, WrsAt.of_blk T (by rw [wcs_len]; omega), rfl, ?_⟩
    generalize setsH (h1.push (.cells (S_api_Wrapped.cs zW).toArray 132)) ⟨h1.size, 0, none⟩ 0 (S_api_Wrapped.cs z.1) = h5 at *
    have z5 := W5.size
    have tl := T2.lt
    refine ⟨z.1.f_B, by rw [add_mk, T2.cell]; rfl, Clone_ok zl (zS.ext (X1.trans (W5.mono z1))) (by omega) fun r h6 R6 X6 => ?_⟩
    have z6 := X6.size
    have T6 := T2.ext X6 tl
    refine ⟨_, by rw [add_mk]; exact T6.wr (by rw [wcs_len]; omega), rfl, ?_⟩
    rw [show (⟨h1.size, 0, none⟩ : Addr).add 13 = ⟨h1.size, 13, none⟩ from by simp]
    have T7 : Blk (setH h6 ⟨h1.size, 13, none⟩ (Slc.v r)) h1.size (S_api_Wrapped.cs { z.1 with f_B := r }) 132 := T6.set
    have R7 : Row h5.size (setH h6 ⟨h1.size, 13, none⟩ (Slc.v r)) 5 1 r (b8 z.2) := R6.keep fun g hg => setH_other (by have := (R6.bd hg).1; dsimp only; omega)
    have X17 : Ext h1.size h1 (setH h6 ⟨h1.size, 13, none⟩ (Slc.v r)) := (W5.trans (X6.mono z5)).trans (Ext.set _ _ (Nat.le_refl _))
    generalize setH h6 ⟨h1.size, 13, none⟩ (Slc.v r) = h7 at *
    have z7 := X17.size
    have P7 := P1.ext X17 p1
    have Q7 := Q1.ext X17 q1
    have O7 := O1.step z7 fun g _ g2 => X17.block g g2
    refine ⟨s, by rw [add_mk, P7.cell]; rfl, { z.1 with f_B := r }, CellsAt.of_blk T7, _, _, rfl, rfl, ?_⟩
    have sl := O7.2.1
    refine App.row (O7.1.pushed _) (by simp; omega) rfl rfl (oneC (by kernel_rfl)) (by omega) (by simp only [maxLen]; omega) fun s' h8 R8 l8 z8 F8 _ => ?_
    simp at z8
    have X8 : Ext (h2.size + 1) h7 h8 := ⟨by omega, fun g hg => by rw [F8 g (by simp; omega) fun e => by have := (O7.1.bd e).1; omega, Array.getElem?_push, if_neg (by omega)]⟩
    have P8 := P7.ext X8 (by omega)
    have Q8 := Q7.ext X8 (by omega)
    refine ⟨_, by rw [add_mk]; exact P8.wr (by rw [tcs_len]; omega), rfl, ?_⟩
    rw [show (⟨h.size, 0, none⟩ : Addr).add 1 = ⟨h.size, 1, none⟩ from by simp]
    have P9 : Blk (setH h8 ⟨h.size, 1, none⟩ (Slc.v s')) h.size (S_api_Tenant.cs { t with f_Keys := s' }) 130 := P8.set
    have oth : ∀ g, g ≠ h.size → (setH h8 ⟨h.size, 1, none⟩ (Slc.v s'))[g]? = h8[g]? := fun g hg => setH_other hg
    have z9 : (setH h8 ⟨h.size, 1, none⟩ (Slc.v s')).size = h8.size := setH_size
    generalize setH h8 ⟨h.size, 1, none⟩ (Slc.v s') = h9 at *
    rw [wrapI64 (by omega) (by omega)]
    have old : ∀ {B : Nat} {xs : List Value} {u : Slc}, Row B h7 5 1 u xs → h2.size + 1 ≤ B → Row B h9 5 1 u xs := fun {B xs u} Ru hB => Ru.keep fun g hg => by
      have bd := Ru.bd hg
      rw [oth g (by omega), F8 g (by simp; omega) fun e => (Row.ne_row O7.1 Ru (by decide) e) hg, Array.getElem?_push, if_neg (by omega)]
    refine ⟨⟨s', zs' ++ [({ z.1 with f_B := r }, z.2)], by omega, by omega, P9, Q8.old (oth _ (by omega)), ⟨by
        have := R8.keep fun g hg => oth g (by have := (R8.bd hg).1; omega)
        simpa using this, by rw [l8, List.length_append]; simp; omega, fun y hy => ?_⟩, ?_, ?_⟩, by dsimp only; omega⟩
    · rcases List.mem_append.1 hy with hy | hy
      · obtain ⟨a1, a2⟩ := O7.2.2 y hy
        exact ⟨old a1 (Nat.le_refl _), a2⟩
      · simp at hy; subst hy
        exact ⟨(old R7 (by omega)).mono (by omega), by have := R7.pb; exact this, zB, z48⟩
    · rw [show (i + 1).toNat = i.toNat + 1 from by omega, List.take_add_one, hx, List.map_append, List.map_append, ab]; rfl
    · have : Ext h.size h7 h9 := (X8.mono (by omega)).trans ⟨by omega, fun g hg => oth g (by omega)⟩
      exact X1.trans ((X17.mono z1).trans this)
  · rw [if_neg (by rw [decide_eq_true_eq]; omega)]
    refine ⟨_, CellsAt.of_blk P1, _, WrsAt.of_blk Q1 (by rw [tcs_len]; omega), rfl, _, CellsAt.of_blk (Q1.sets_all (vs := S_api_Tenant.cs { t with f_Keys := s }) rfl), ?_⟩
    have oth : ∀ g, g ≠ h2.size → (setsH h1 ⟨h2.size, 0, none⟩ 0 (S_api_Tenant.cs { t with f_Keys := s }))[g]? = h1[g]? := fun g hg => setsH_other _ _ hg
    have z9 : (setsH h1 ⟨h2.size, 0, none⟩ 0 (S_api_Tenant.cs { t with f_Keys := s })).size = h1.size := setsH_size _ _
    generalize setsH h1 ⟨h2.size, 0, none⟩ 0 (S_api_Tenant.cs { t with f_Keys := s }) = h9 at *
    refine H s zs' _ ((O1.step (by omega) fun g g1 g2 => oth g (by omega)).mono (by omega)) ?_ (X1.trans ⟨by omega, fun g hg => oth g (by omega)⟩)
    rw [ab, List.take_of_length_le (by omega)]
end Go.Q.Yb
