/- A part of the proof of statements of this seat: lemmas, no statement of their own. -/
import Derived.Test.YtcmbgfmbmbgbiaaYbVt3
import Derived.Test.YtcmbgfmbmbgbiaaYbVtJ
import Derived.Test.YtcmbgfmbmbgbiaaQLs
import Derived.Test.YtcmbgfmbmbgbiaaQArgA
set_option linter.unusedVariables false
set_option linter.unusedSimpArgs false
set_option maxHeartbeats 1000000
namespace Go.Q.Yb
open Go.Sort
section
variable {B : Nat} {h h' : Heap} {s : Slc} {d : Array Int}
theorem Sort_ok {k : Unit → Heap → Prop} (R : U64 B h s d) (hz : d.size ≤ 32) (H : ∀ d' h', U64 B h' s d' → PermIn 0 d.size d d' → SortedIn ltInt 0 d.size d' → Onl s h h' → k () h') : slices_Sort_uint64_uint64 s k h := by
  have sl := R.len
  unfold slices_Sort_uint64_uint64
  refine ⟨_, rfl, ?_⟩
  rw [wrapU64 (by omega) (by omega), sl]
  refine Len_ok (by omega) ?_
  have hb : bitsLen d.size ≤ 8 := by
    have key : (List.range 33).all (fun n => decide (bitsLen n ≤ 8)) = true := by decide +kernel
    have := List.all_eq_true.1 key d.size (by simp; omega)
    simpa using this
  exact Pdq_ok (pdqQ 40) (N := 40) (pdqQ_ok 40) (by omega) ⟨B, d, 0, d.size, R, rfl, rfl, Nat.zero_le _, Nat.le_refl _, hz, .inl rfl, ⟨by omega, by omega⟩, H⟩
theorem WHalf_ok {p : Int} {k : Int → Heap → Prop} (p0 : 0 ≤ p) (p1 : p < 9223372036854775808) (H : k (p / 2 + 1) h) : vote_Half p k h := by
  unfold vote_Half
  have e : shr .i64 (if 0 > p then 0 else p) (1 : Int).toNat = p / 2 := by
    rw [if_neg (by omega)]
    unfold shr
    rw [show (2 : Int) ^ (min (1 : Int).toNat IntKind.i64.bits) = 2 from rfl, Int.fdiv_eq_ediv_of_nonneg _ (by omega)]
  rw [e, wrapI64 (by omega) (by omega)]
  exact ⟨_, rfl, H⟩
theorem WRHalf_ok {p : Int} {k : Int → Heap → Prop} (p0 : 0 ≤ p) (p1 : p < 9223372036854775808) (H : k (p / 2 + 1) h) : ref24_Half p k h := by
  unfold ref24_Half
  by_cases hp : p < 1
  · rw [if_pos (decide_eq_true hp)]
    have e : p = 0 := by omega
    rw [e] at H; exact H
  · rw [if_neg (by rw [decide_eq_true_eq]; exact hp), Int.tdiv_eq_ediv_of_nonneg (by omega), wrapI64 (x := p / 2) (by omega) (by omega), wrapI64 (by omega) (by omega)]
    exact ⟨_, rfl, H⟩
theorem n64_at {zs : List Int} {i : Int} (S : SlcAt h s (u8s zs)) (sl : s.len = zs.length) (i0 : 0 ≤ i) {v : Int} (hx : zs[i.toNat]? = some v) :
    ∃ a : Addr, s.a = some a ∧ (0 : Int) ≤ i ∧ i < (s.len : Int) ∧ cellH h (a.add (i.toNat * 1)) = some (.int .u64 v) := by
  have i1 := (List.getElem?_eq_some_iff.1 hx).1
  cases ha : s.a with
  | none =>
    have e : zs = [] := List.map_eq_nil_iff.1 (S.1 ha)
    rw [e] at i1; simp at i1
  | some a =>
    refine ⟨a, rfl, i0, by omega, ?_⟩
    rw [Nat.mul_one]
    exact S.2 a ha i.toNat _ (by unfold u8s; rw [List.getElem?_map, hx]; rfl)
theorem Commit_ok {zs : List Int} {k : Int → Heap → Prop} (S : SlcAt h s (u8s zs)) (sl : s.len = zs.length) (hz : zs.length ≤ 32)
    (H : ∀ c h', Cm zs c → Ext h.size h h' → k c h') : vote_Commit s k h := by
  unfold vote_Commit
  by_cases z0 : zs.length = 0
  · rw [if_pos (by rw [beq_iff_eq]; omega)]
    exact H 0 h (.inl ⟨List.eq_nil_of_length_eq_zero z0, rfl⟩) (Ext.refl _ _)
  rw [if_neg (by rw [beq_iff_eq]; omega)]
  unfold slices_Values_uint64_uint64
  have X1 := Ext.push h (.cells #[Slc.v s] 82) (Nat.le_refl h.size)
  have P := Blk.push h [Slc.v s] 82
  have z1 := X1.size
  change Blk (h.push (.cells #[Slc.v s] 82)) h.size [Slc.v s] 82 at P
  generalize h.push (.cells #[Slc.v s] 82) = h1 at *
  unfold slices_Sorted_uint64
  refine ⟨h.size, s, zs, rfl, by rw [P.cell]; rfl, sl, S.ext X1, by omega, by omega, fun s2 h2 R2 l2 X2 => ?_⟩
  have R2' : U64 h1.size h2 s2 zs.toArray := by unfold U64; simpa using R2
  have z2 := X2.size
  have zl : zs.toArray.size = zs.length := List.size_toArray
  refine Sort_ok R2' (by omega) fun d' h3 R3 P3 S3 O3 => ?_
  have X3 := O3.ext R2' z2
  have l3 := R3.len
  have dz : d'.size = zs.length := by rw [← l3, l2]
  show vote_Half (s2.len : Int) _ h3
  rw [l2]
  refine WHalf_ok (by omega) (by omega) ?_
  rw [wrapI64 (by omega) (by omega)]
  obtain ⟨g, ha, hc⟩ := R3.ld (i := zs.length - (zs.length / 2 + 1)) (by omega)
  have ei : ((zs.length : Int) - ((zs.length : Int) / 2 + 1)).toNat = zs.length - (zs.length / 2 + 1) := by omega
  refine ⟨_, ha, by omega, by omega, _, by rw [add_mk, Nat.zero_add, Nat.mul_one, ei]; exact hc, ?_⟩
  refine H _ h3 (Cm.of (by omega) dz (by have := perm_of rfl P3; simpa using this) fun i j hij hj => mono_of dz (by rw [zl] at S3; exact S3) hij hj) (X1.trans ((X2.trans X3).mono z1))
/-- the document's -/
theorem RCommit_ok {zs : List Int} {c : Int} {k : Int → Heap → Prop} (S : SlcAt h s (u8s zs)) (sl : s.len = zs.length) (hz : zs.length ≤ 32) (nn : ∀ v ∈ zs, 0 ≤ v) (C : Cm zs c) (H : k c h) : ref24_Commit s k h := by
  have c0 : 0 ≤ c := by
    rcases C with ⟨_, rfl⟩ | ⟨h1, _, _⟩
    · omega
    · exact nn c h1
  unfold ref24_Commit ref24_Commit_l1
  refine ⟨fun st h' => h' = h ∧ 0 ≤ st.2 ∧ st.2 ≤ zs.length ∧ 0 ≤ st.1 ∧ st.1 ≤ c ∧ (c ∈ zs.take st.2.toNat → c ≤ st.1), fun st _ => (zs.length - st.2).toNat, ⟨rfl, by dsimp only; omega, by dsimp only; omega, by dsimp only; omega, c0, by simp⟩, ?_⟩
  rintro best i h' ⟨e, i0, i1, b0, b1, bc⟩
  subst e
  dsimp only at i0 i1 b0 b1 bc
  unfold ref24_Commit_l1b
  by_cases hi : i < zs.length
  · rw [if_pos (by rw [decide_eq_true_eq]; omega)]
    have hx : zs[i.toNat]? = some (zs[i.toNat]'(by omega)) := by simp
    have hxm := List.mem_of_getElem? hx
    generalize zs[i.toNat]'(by omega) = v at *
    obtain ⟨a, ha, q0, q1, hc⟩ := n64_at S sl i0 hx
    have et : zs.take (i + 1).toNat = zs.take i.toNat ++ [v] := by rw [show (i + 1).toNat = i.toNat + 1 from by omega, List.take_add_one, hx]; rfl
    unfold ref24_Commit_l3
    refine ⟨fun st h'' => h'' = h' ∧ 0 ≤ st.2 ∧ st.2 ≤ zs.length ∧ st.1 = cnt (zs.take st.2.toNat) v, fun st _ => (zs.length - st.2).toNat, ⟨rfl, by dsimp only; omega, by dsimp only; omega, by simp [cnt]⟩, ?_⟩
    rintro n j h'' ⟨e, j0, j1, en⟩
    subst e
    dsimp only at j0 j1 en
    have nb : cnt (zs.take j.toNat) v ≤ zs.length := Nat.le_trans List.countP_le_length (by rw [List.length_take]; omega)
    unfold ref24_Commit_l3b
    by_cases hj : j < zs.length
    · rw [if_pos (by rw [decide_eq_true_eq]; omega)]
      have hy : zs[j.toNat]? = some (zs[j.toNat]'(by omega)) := by simp
      generalize zs[j.toNat]'(by omega) = w at *
      obtain ⟨a2, ha2, r0, r1, hc2⟩ := n64_at S sl j0 hy
      have ej : cnt (zs.take (j + 1).toNat) v = cnt (zs.take j.toNat) v + if v ≤ w then 1 else 0 := by
        rw [show (j + 1).toNat = j.toNat + 1 from by omega, List.take_add_one, hy]
        unfold cnt
        rw [List.countP_append]
        simp [List.countP_cons]
      refine ⟨a2, ha2, r0, r1, w, hc2, a, ha, q0, q1, v, hc, ?_⟩
      by_cases hw : w ≥ v
      · rw [if_pos (decide_eq_true hw), wrapI64 (by omega) (by omega)]
        refine ⟨_, rfl, ?_⟩
        unfold ref24_Commit_j4
        rw [wrapI64 (by omega) (by omega)]
        refine ⟨_, rfl, ⟨rfl, by dsimp only; omega, by dsimp only; omega, ?_⟩, by dsimp only; omega⟩
        dsimp only
        rw [ej, if_pos (by omega), en]; rfl
      · rw [if_neg (by rw [decide_eq_true_eq]; exact hw)]
        unfold ref24_Commit_j4
        rw [wrapI64 (by omega) (by omega)]
        refine ⟨_, rfl, ⟨rfl, by dsimp only; omega, by dsimp only; omega, ?_⟩, by dsimp only; omega⟩
        dsimp only
        rw [ej, if_neg (by omega), en]; rfl
    rw [if_neg (by rw [decide_eq_true_eq]; omega), sl]
    rw [List.take_of_length_le (by omega)] at en
    refine WRHalf_ok (by omega) (by omega) ?_
    have nx : ∀ b' : Int, 0 ≤ b' → b' ≤ c → (c ∈ zs.take i.toNat ++ [v] → c ≤ b') → ref24_Commit_j2 s i b' k (fun st h' => (h' = h'' ∧ 0 ≤ st.2 ∧ st.2 ≤ (zs.length : Int) ∧ 0 ≤ st.1 ∧ st.1 ≤ c ∧ (c ∈ zs.take st.2.toNat → c ≤ st.1)) ∧ ((zs.length : Int) - st.2).toNat < ((zs.length : Int) - i).toNat) h'' := fun b' g0 g1 g2 => by
      unfold ref24_Commit_j2
      rw [wrapI64 (by omega) (by omega)]
      exact ⟨_, rfl, ⟨rfl, by dsimp only; omega, by dsimp only; omega, g0, g1, by dsimp only; rw [et]; exact g2⟩, by dsimp only; omega⟩
    have half : ∀ w, zs.length / 2 + 1 ≤ cnt zs w → w ≤ c := fun w hw => by
      rcases C with ⟨e, _⟩ | ⟨_, _, h3⟩
      · rw [e] at hxm; cases hxm
      · exact h3 w hw
    have own : zs.length / 2 + 1 ≤ cnt zs c := by
      rcases C with ⟨e, _⟩ | ⟨_, h2, _⟩
      · rw [e] at hxm; cases hxm
      · exact h2
    by_cases hh : n ≥ (zs.length : Int) / 2 + 1
    · rw [if_pos (decide_eq_true hh)]
      refine ⟨a, ha, q0, by omega, v, hc, _, rfl, ?_⟩
      have vc := half v (by omega)
      have v0 := nn v hxm
      by_cases hvb : v > best
      · rw [if_pos hvb]
        refine nx v v0 vc fun hm => ?_
        rcases List.mem_append.1 hm with hm | hm
        · have := bc hm; omega
        · simp at hm; omega
      · rw [if_neg hvb]
        refine nx best b0 b1 fun hm => ?_
        rcases List.mem_append.1 hm with hm | hm
        · exact bc hm
        · simp at hm; omega
    · rw [if_neg (by rw [decide_eq_true_eq]; exact hh)]
      refine nx best b0 b1 fun hm => ?_
      rcases List.mem_append.1 hm with hm | hm
      · exact bc hm
      · simp only [List.mem_singleton] at hm
        subst hm
        omega
  · rw [if_neg (by rw [decide_eq_true_eq]; omega)]
    rw [List.take_of_length_le (by omega)] at bc
    have : best = c := by
      rcases C with ⟨_, rfl⟩ | ⟨h1, _, _⟩
      · omega
      · have := bc h1; omega
    rw [this]; exact H
theorem Least_ok {zs : List Int} {k : Int → Heap → Prop} (S : SlcAt h s (u8s zs)) (sl : s.len = zs.length) (hz : zs.length ≤ 32) (H : k (lst zs) h) : vote_Least s k h := by
  unfold vote_Least
  by_cases z0 : zs.length = 0
  · rw [if_pos (by rw [beq_iff_eq]; omega)]
    rw [List.eq_nil_of_length_eq_zero z0] at H; exact H
  rw [if_neg (by rw [beq_iff_eq]; omega)]
  unfold slices_Min_uint64_uint64
  rw [if_neg (by rw [decide_eq_true_eq]; omega)]
  unfold slices_Min_uint64_uint64_j1
  have hx0 : zs[(0 : Int).toNat]? = some (zs[0]'(by omega)) := by simp
  obtain ⟨a, ha, q0, q1, hc⟩ := n64_at S sl (by omega) hx0
  refine ⟨a, ha, q0, q1, _, hc, ?_⟩
  unfold slices_Min_uint64_uint64_l2
  refine ⟨fun st h' => h' = h ∧ 1 ≤ st.2 ∧ st.2 ≤ zs.length ∧ st.1 = lst (zs.take st.2.toNat), fun st _ => (zs.length - st.2).toNat, ⟨rfl, by dsimp only; omega, by dsimp only; omega, ?_⟩, ?_⟩
  · cases zs with
    | nil => simp at z0
    | cons x r => rfl
  rintro m i h' ⟨e, i0, i1, em⟩
  subst e
  dsimp only at i0 i1 em
  unfold slices_Min_uint64_uint64_l2b
  by_cases hi : i < zs.length
  · rw [if_pos (by rw [decide_eq_true_eq]; omega)]
    have hx : zs[i.toNat]? = some (zs[i.toNat]'(by omega)) := by simp
    generalize zs[i.toNat]'(by omega) = v at *
    obtain ⟨a', ha', r0, r1, hc'⟩ := n64_at S sl (by omega) hx
    rw [wrapI64 (by omega) (by omega)]
    refine ⟨a', ha', r0, r1, v, hc', _, rfl, _, rfl, ⟨rfl, by dsimp only; omega, by dsimp only; omega, ?_⟩, by dsimp only; omega⟩
    dsimp only
    have nt : zs.take i.toNat ≠ [] := fun e => by
      have := congrArg List.length e
      rw [List.length_take, List.length_nil] at this; omega
    rw [show (i + 1).toNat = i.toNat + 1 from by omega, List.take_add_one, hx]
    show _ = lst (zs.take i.toNat ++ [v])
    rw [lst_snoc, if_neg nt, em]
  · rw [if_neg (by rw [decide_eq_true_eq]; omega)]
    rw [List.take_of_length_le (by omega)] at em
    rw [em]; exact H
end
theorem cm3 : Cm [5, 3, 9] 5 := .inr ⟨by decide, by decide, fun v hv => by
  unfold cnt at hv
  simp only [List.countP_cons, List.countP_nil, List.length_cons, List.length_nil] at hv
  by_cases h : v ≤ 5
  · exact h
  · rw [if_neg (c := decide (v ≤ 5) = true) (by rw [decide_eq_true_eq]; omega), if_neg (c := decide (v ≤ 3) = true) (by rw [decide_eq_true_eq]; omega)] at hv
    have h1 : (if decide (v ≤ 9) = true then 1 else 0) ≤ 1 := by split <;> omega
    omega⟩
theorem cm4 : Cm [5, 3, 9, 1] 3 := .inr ⟨by decide, by decide, fun v hv => by
  unfold cnt at hv
  simp only [List.countP_cons, List.countP_nil, List.length_cons, List.length_nil] at hv
  by_cases h : v ≤ 3
  · exact h
  · rw [if_neg (c := decide (v ≤ 3) = true) (by rw [decide_eq_true_eq]; omega), if_neg (c := decide (v ≤ 1) = true) (by rw [decide_eq_true_eq]; omega)] at hv
    have h1 : (if decide (v ≤ 9) = true then 1 else 0) ≤ 1 := by split <;> omega
    have h2 : (if decide (v ≤ 5) = true then 1 else 0) ≤ 1 := by split <;> omega
    omega⟩
theorem awakeC_ok {k : Bool → Heap → Prop} {h : Heap} (H : ∀ h', Ext h.size h h' → k true h') : law24_awake k h := by
  unfold law24_awake
  refine ⟨_, _, rfl, rfl, ?_⟩
  have X1 := Ext.push h (.cells ([.int .u64 5, .int .u64 3, .int .u64 9] : List Value).toArray 22) (Nat.le_refl h.size)
  have P := Blk.push h ([.int .u64 5, .int .u64 3, .int .u64 9] : List Value) 22
  have z1 := X1.size
  generalize h.push (.cells ([.int .u64 5, .int .u64 3, .int .u64 9] : List Value).toArray 22) = h1 at *
  refine Commit_ok (zs := [5, 3, 9]) (P.slc (o := 0) (n := 3) rfl) rfl (by decide) fun c h2 C2 X2 => ?_
  rw [C2.one cm3, if_pos (by decide)]
  have X02 := X1.trans (X2.mono z1)
  refine ⟨_, _, rfl, rfl, ?_⟩
  have X3 := Ext.push h2 (.cells ([.int .u64 5, .int .u64 3, .int .u64 9, .int .u64 1] : List Value).toArray 22) (Nat.le_refl h2.size)
  have Q := Blk.push h2 ([.int .u64 5, .int .u64 3, .int .u64 9, .int .u64 1] : List Value) 22
  have z3 := X3.size
  generalize h2.push (.cells ([.int .u64 5, .int .u64 3, .int .u64 9, .int .u64 1] : List Value).toArray 22) = h3 at *
  refine Commit_ok (zs := [5, 3, 9, 1]) (Q.slc (o := 0) (n := 4) rfl) rfl (by decide) fun c h4 C4 X4 => ?_
  rw [C4.one cm4]
  unfold law24_awake_g1
  exact H h4 (X02.trans ((X3.trans (X4.mono z3)).mono X02.size))
theorem Commits_ok {W : Heap} {s : Slc} {zs : List Int} {at' more : Int} {k : Bool → Heap → Prop} (S : SlcAt W s (u8s zs)) (sl : s.len = zs.length) (wz : ∀ v ∈ zs, 0 ≤ v ∧ v < 18446744073709551616) (hm : 0 ≤ more ∧ more < 18446744073709551616)
    (H : ∀ h', Ext W.size W h' → k true h') : law24_VoteCommits s at' more k W := by
  unfold law24_VoteCommits
  by_cases hg : (s.len : Int) > 32
  · rw [if_pos (decide_eq_true hg)]
    exact awakeC_ok H
  rw [if_neg (by rw [decide_eq_true_eq]; exact hg)]
  refine Commit_ok S sl (by omega) fun c h1 C1 X1 => ?_
  have z1 := X1.size
  have S1 := S.ext X1
  unfold law24_VoteCommits_l1
  refine ⟨fun st h' => h' = h1 ∧ 0 ≤ st.2 ∧ st.2 ≤ zs.length ∧ st.1 = lst (zs.take st.2.toNat), fun st _ => (zs.length - st.2).toNat, ⟨rfl, by dsimp only; omega, by dsimp only; omega, by simp [lst]⟩, ?_⟩
  rintro m i h' ⟨e, i0, i1, em⟩
  subst e
  dsimp only at i0 i1 em
  unfold law24_VoteCommits_l1b
  by_cases hi : i < zs.length
  · rw [if_pos (by rw [decide_eq_true_eq]; omega)]
    have hx : zs[i.toNat]? = some (zs[i.toNat]'(by omega)) := by simp
    generalize zs[i.toNat]'(by omega) = v at *
    obtain ⟨a, ha, r0, r1, hc⟩ := n64_at S1 sl (by omega) hx
    have et : zs.take (i + 1).toNat = zs.take i.toNat ++ [v] := by rw [show (i + 1).toNat = i.toNat + 1 from by omega, List.take_add_one, hx]; rfl
    have nx : ∀ m' : Int, m' = lst (zs.take i.toNat ++ [v]) → law24_VoteCommits_j2 s at' more c i m' k (fun st h'' => (h'' = h' ∧ 0 ≤ st.2 ∧ st.2 ≤ (zs.length : Int) ∧ st.1 = lst (zs.take st.2.toNat)) ∧ ((zs.length : Int) - st.2).toNat < ((zs.length : Int) - i).toNat) h' := fun m' hm' => by
      unfold law24_VoteCommits_j2
      rw [wrapI64 (by omega) (by omega)]
      exact ⟨_, rfl, ⟨rfl, by dsimp only; omega, by dsimp only; omega, by dsimp only; rw [et]; exact hm'⟩, by dsimp only; omega⟩
    have g3 : ∀ f : Bool, (f = true ↔ zs.take i.toNat = [] ∨ v < m) → law24_VoteCommits_g3 s at' more c m i f k (fun st h'' => (h'' = h' ∧ 0 ≤ st.2 ∧ st.2 ≤ (zs.length : Int) ∧ st.1 = lst (zs.take st.2.toNat)) ∧ ((zs.length : Int) - st.2).toNat < ((zs.length : Int) - i).toNat) h' := fun f hf => by
      unfold law24_VoteCommits_g3
      cases f with
      | true =>
        rw [if_pos rfl]
        refine ⟨a, ha, r0, r1, v, hc, nx v ?_⟩
        rw [lst_snoc]
        rcases hf.1 rfl with e | e
        · rw [if_pos e]
        · split
          · rfl
          · rw [if_pos (by omega)]
      | false =>
        rw [if_neg (by simp)]
        refine nx m ?_
        have hn : ¬ (zs.take i.toNat = [] ∨ v < m) := fun e => by have := hf.2 e; cases this
        rw [lst_snoc, if_neg (fun e => hn (.inl e)), if_neg (fun e => hn (.inr (by omega))), em]
    by_cases hi0 : i = 0
    · rw [if_pos (by simpa using hi0)]
      exact g3 true (by rw [hi0]; simp)
    · rw [if_neg (by simpa using hi0)]
      refine ⟨a, ha, r0, r1, v, hc, g3 _ ?_⟩
      rw [decide_eq_true_eq]
      refine ⟨fun e => .inr e, fun e => e.resolve_left fun e2 => ?_⟩
      have := congrArg List.length e2
      rw [List.length_take, List.length_nil] at this; omega
  rw [if_neg (by rw [decide_eq_true_eq]; omega)]
  rw [List.take_of_length_le (by omega)] at em
  refine RCommit_ok S1 sl (by omega) (fun v hv => (wz v hv).1) C1 ?_
  rw [if_neg (by simp)]
  refine Least_ok S1 sl (by omega) ?_
  unfold law24_VoteCommits_g4
  rw [if_neg (by rw [em]; simp)]
  have fin : ∀ h'', Ext h'.size h' h'' → law24_awake (fun r h2 => k r h2) h'' := fun h'' X => awakeC_ok fun h2 X2 => H h2 (X1.trans ((X.trans (X2.mono X.size)).mono z1))
  by_cases ho : at' < 0 ∨ at' ≥ (s.len : Int)
  · rw [if_pos (by rw [Bool.or_eq_true, decide_eq_true_eq, decide_eq_true_eq]; exact ho)]
    unfold law24_VoteCommits_g5
    rw [if_pos rfl]
    exact fin h' (Ext.refl _ _)
  rw [if_neg (by rw [Bool.or_eq_true, decide_eq_true_eq, decide_eq_true_eq]; exact ho)]
  have hx : zs[at'.toNat]? = some (zs[at'.toNat]'(by omega)) := by simp
  have hxm := List.mem_of_getElem? hx
  generalize zs[at'.toNat]'(by omega) = v at *
  obtain ⟨a, ha, r0, r1, hc⟩ := n64_at S1 sl (by omega) hx
  have wv := wz v hxm
  refine ⟨a, ha, r0, r1, v, hc, a, ha, r0, r1, v, hc, ?_⟩
  unfold law24_VoteCommits_g5
  by_cases hov : IntKind.u64.wrap (v + more) < v
  · rw [if_pos (decide_eq_true hov)]
    exact fin h' (Ext.refl _ _)
  rw [if_neg (by rw [decide_eq_true_eq]; exact hov)]
  have ew : IntKind.u64.wrap (v + more) = v + more := by
    rw [wU64] at hov ⊢
    omega
  refine ⟨_, _, rfl, rfl, ?_⟩
  have X2 := Ext.push h' (.cells ([] : List Value).toArray 22) (Nat.le_refl h'.size)
  have N := Blk.push h' ([] : List Value) 22
  have z2 := X2.size
  generalize h'.push (.cells ([] : List Value).toArray 22) = h2 at *
  have R2 : Row h'.size h2 22 1 ⟨some ⟨h'.size, 0, none⟩, 0, 0⟩ [] := ⟨by simp, by simp [maxLen], .inr ⟨h'.size, [], rfl, Nat.le_refl _, N, Nat.le_refl _, by simp, by simp⟩⟩
  refine ⟨_, S1.ext X2, ?_⟩
  rw [sl]
  refine App.row R2 z2 rfl (by unfold u8s; simp) (fun x hx => by obtain ⟨y, _, rfl⟩ := List.mem_map.1 hx; rfl) (by simp only; omega) (by simp only [maxLen]; omega) fun s3 h3 R3 l3 z3 ho3 _ => ?_
  have X3 : Ext h'.size h' h3 := X2.trans ⟨z3, fun g hg => ho3 g (by omega) fun e => by simp [Slc.blk] at e; omega⟩
  have R3' : U64 h'.size h3 s3 zs.toArray := by unfold U64; simpa using R3
  have zl : zs.toArray.size = zs.length := List.size_toArray
  obtain ⟨g, ha3, hc3⟩ := R3'.ld (i := at'.toNat) (by omega)
  have ev : zs.toArray[at'.toNat]! = v := by
    rw [getElem!_pos zs.toArray at'.toNat (by omega)]
    have := (List.getElem?_eq_some_iff.1 hx).2
    simpa using this
  rw [ev] at hc3
  simp only [Nat.zero_add] at l3
  have eg : (⟨g, 0, none⟩ : Addr).add (at'.toNat * 1) = ⟨g, at'.toNat, none⟩ := by rw [add_mk, Nat.zero_add, Nat.mul_one]
  obtain ⟨wr, R4, O4⟩ := R3'.st (i := at'.toNat) (by omega) ha3 (v + more)
  refine ⟨_, ha3, by omega, by omega, v, by rw [eg]; exact hc3, _, ha3, by omega, by omega, _, by rw [eg]; exact wr, rfl, ?_⟩
  rw [ew, eg]
  have X4 : Ext h'.size h' (setH h3 ⟨g, at'.toNat, none⟩ (.int .u64 (v + more))) := X3.trans (O4.ext R3' X3.size)
  have S4 : SlcAt (setH h3 ⟨g, at'.toNat, none⟩ (.int .u64 (v + more))) s3 (u8s (zs.set at'.toNat (v + more))) := by
    have := Row.slc R4
    simpa using this
  refine Commit_ok S4 (by rw [List.length_set]; omega) (by rw [List.length_set]; omega) fun c2 h5 C5 X5 => ?_
  have X05 := X4.trans (X5.mono X4.size)
  rw [if_pos (by rw [decide_eq_true_eq]; exact C1.rise hx (by omega) C5)]
  refine awakeC_ok fun h6 X6 => ?_
  unfold law24_VoteCommits_g6
  exact H h6 (X1.trans ((X05.trans (X6.mono X05.size)).mono z1))
theorem Commits_all {W : Heap} {s : Slc} {zs : List Int} {at' more : Int} {k : Bool → Heap → Prop} (S : SlcAt W s (zs.map (Value.int .u64))) (sl : s.len = zs.length) (wz : ∀ n ∈ zs, (Lit.int .u64 n).wf = true) (hm : (Lit.int .u64 more).wf = true)
    (H : ∀ h', Ext W.size W h' → k true h') : law24_VoteCommits s at' more k W := Commits_ok S sl (fun v hv => wf_u64 (wz v hv)) (wf_u64 hm) H
end Go.Q.Yb
