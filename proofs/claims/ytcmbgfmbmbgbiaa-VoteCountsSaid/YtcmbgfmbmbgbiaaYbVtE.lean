/- A part of the proof of statements of this seat: lemmas, no statement of their own. -/
import Derived.Test.YtcmbgfmbmbgbiaaYbVtD
import Derived.Test.YtcmbgfmbmbgbiaaQArgA
set_option linter.unusedVariables false
set_option linter.unusedSimpArgs false
set_option maxHeartbeats 1000000
namespace Go.Q.Yb
open Go.Sort
/-- a ballot that stands: what is told of it -/
structure Bal (h : Heap) (b : Nat) (n : Int) (y : Nat) : Prop where
  T : BalAt h b n y
  l : y < 2 ^ n.toNat
theorem Bal.other {h h' : Heap} {b c : Nat} {n : Int} {y : Nat} (A : Bal h b n y) (U : Upd c h h') (hne : b ≠ c) : Bal h' b n y := ⟨A.T.old (U.block b A.T.lt hne), A.l⟩
theorem Bal.ext {h h' : Heap} {b : Nat} {n : Int} {y : Nat} (A : Bal h b n y) (X : Ext h.size h h') : Bal h' b n y := ⟨A.T.ext X A.T.lt, A.l⟩
theorem Say_ok {h : Heap} {b : Nat} {n p : Int} {y : Nat} {k : Bool → Heap → Prop} (A : Bal h b n y) (n0 : 0 ≤ n) (n1 : n ≤ 32) (hp : p < 9223372036854775808)
    (H : ∀ r y' h', Bal h' b n y' → Upd b h h' → k r h') : vote_Ballot_Yes (some ⟨b, 0, none⟩) p k h :=
  Yes_ok A.T n0 n1 A.l hp (fun p0 pn hb h' T U => H true _ h' ⟨T, set_lt (by omega) A.l hb⟩ U) fun _ => H false y h A (Upd.refl _ _)
theorem u8_at {W h : Heap} {s : Slc} {zs : List Int} {i : Int} (S : SlcAt W s (zs.map (Value.int .u8))) (sl : s.len = zs.length) (X : Ext W.size W h) (hB : isB zs) (i0 : 0 ≤ i) (i1 : i < zs.length) :
    ∃ a : Addr, s.a = some a ∧ (0 : Int) ≤ i ∧ i < (s.len : Int) ∧ ∃ v, (0 ≤ v ∧ v < 256) ∧ cellH h (a.add (i.toNat * 1)) = some (.int .u8 v) := by
  have hx : zs[i.toNat]? = some (zs[i.toNat]'(by omega)) := by simp
  have hv := hB _ (List.mem_of_getElem? hx)
  cases ha : s.a with
  | none => have := S.1 ha; rw [List.map_eq_nil_iff] at this; rw [this] at i1; simp at i1; omega
  | some a =>
    refine ⟨a, rfl, i0, by omega, _, hv, ?_⟩
    rw [Nat.mul_one]
    exact X.cellAt (S.2 a ha i.toNat _ (by rw [List.getElem?_map, hx]; rfl))
theorem Meets_ok {W : Heap} {s1 s2 : Slc} {z1 z2 : List Int} {p : Int} {k : Bool → Heap → Prop} (S1 : SlcAt W s1 (z1.map (Value.int .u8))) (l1 : s1.len = z1.length) (B1 : isB z1) (S2 : SlcAt W s2 (z2.map (Value.int .u8))) (l2 : s2.len = z2.length) (B2 : isB z2) (hp : 0 ≤ p ∧ p < 256)
    (H : ∀ h', Ext W.size W h' → k true h') : law24_VoteMeets p s1 s2 k W := by
  unfold law24_VoteMeets
  by_cases hg : (s1.len : Int) > 40 ∨ (s2.len : Int) > 40
  · rw [if_pos (by rw [Bool.or_eq_true, decide_eq_true_eq, decide_eq_true_eq]; exact hg)]
    exact awake24_ok H
  rw [if_neg (by rw [Bool.or_eq_true, decide_eq_true_eq, decide_eq_true_eq]; exact hg)]
  have et : Int.tmod p 33 = p % 33 := Int.tmod_eq_emod_of_nonneg hp.1
  rw [et, wrapI64 (by omega) (by omega)]
  refine ⟨_, rfl, ?_⟩
  generalize eN : p % 33 = n
  have n0 : 0 ≤ n := by omega
  have n1 : n ≤ 32 := by omega
  refine VNew_ok fun b1 h1 m1 em T1 g1 X1 => ?_
  have em1 : m1 = n := by rw [em]; split <;> (try split) <;> omega
  subst em1
  have w1 := X1.size
  refine VNew_ok fun b2 h2 m2 em2 T2 g2 X2 => ?_
  have : m2 = m1 := by rw [em2]; split <;> (try split) <;> omega
  subst this
  have w2 := X2.size
  refine VNew_ok fun b3 h3 m3 em3 T3 g3 X3 => ?_
  have : m3 = m2 := by rw [em3]; split <;> (try split) <;> omega
  subst this
  have w3 := X3.size
  have t1 := T1.lt
  have t2 := T2.lt
  have two : 0 < 2 ^ m3.toNat := Nat.two_pow_pos _
  have A1 : Bal h3 b1 m3 0 := ⟨(T1.ext X2 t1).ext X3 (by omega), two⟩
  have A2 : Bal h3 b2 m3 0 := ⟨T2.ext X3 t2, two⟩
  have A3 : Bal h3 b3 m3 0 := ⟨T3, two⟩
  have d12 : b1 ≠ b2 := by omega
  have d13 : b1 ≠ b3 := by omega
  have d23 : b2 ≠ b3 := by omega
  have X03 : Ext W.size W h3 := X1.trans ((X2.mono w1).trans (X3.mono (by omega)))
  have up : ∀ {c : Nat} {x y : Heap}, W.size ≤ c → Ext W.size W x → Upd c x y → Ext W.size W y := fun hc X U => X.trans (U.ext hc X.size)
  unfold law24_VoteMeets_l1
  refine ⟨fun i h' => 0 ≤ i ∧ i ≤ z1.length ∧ ∃ y1 y2 y3, Bal h' b1 m3 y1 ∧ Bal h' b2 m3 y2 ∧ Bal h' b3 m3 y3 ∧ Ext W.size W h', fun i _ => (z1.length - i).toNat, ⟨by omega, by omega, 0, 0, 0, A1, A2, A3, X03⟩, ?_⟩
  rintro i h4 ⟨i0, i1, y1, y2, y3, C1, C2, C3, X4⟩
  unfold law24_VoteMeets_l1b
  by_cases hi : i < z1.length
  · rw [if_pos (by rw [decide_eq_true_eq]; omega)]
    obtain ⟨a, ha, q0, q1, v, hv, hc⟩ := u8_at S1 l1 X4 B1 i0 hi
    refine ⟨a, ha, q0, q1, v, hc, ?_⟩
    rw [wrapI64 (by omega) (by omega)]
    refine Say_ok C1 n0 n1 (by omega) fun r y1' h5 D1 U5 => ?_
    have X5 := up (by omega) X4 U5
    obtain ⟨a', ha', _, _, v', hv', hc'⟩ := u8_at S1 l1 X5 B1 i0 hi
    refine ⟨a', ha', q0, q1, v', hc', ?_⟩
    rw [wrapI64 (by omega) (by omega)]
    refine Say_ok (C3.other U5 (fun e => d13 e.symm)) n0 n1 (by omega) fun r y3' h6 D3 U6 => ?_
    rw [wrapI64 (by omega) (by omega)]
    exact ⟨_, rfl, ⟨by omega, by omega, y1', y2, y3', D1.other U6 d13, (C2.other U5 (fun e => d12 e.symm)).other U6 d23, D3, up (by omega) X5 U6⟩, by dsimp only; omega⟩
  rw [if_neg (by rw [decide_eq_true_eq]; omega)]
  unfold law24_VoteMeets_l2
  refine ⟨fun i h' => 0 ≤ i ∧ i ≤ z2.length ∧ ∃ y1 y2 y3, Bal h' b1 m3 y1 ∧ Bal h' b2 m3 y2 ∧ Bal h' b3 m3 y3 ∧ Ext W.size W h', fun i _ => (z2.length - i).toNat, ⟨by omega, by omega, y1, y2, y3, C1, C2, C3, X4⟩, ?_⟩
  clear C1 C2 C3 X4 y1 y2 y3
  rintro j h5 ⟨j0, j1, y1, y2, y3, C1, C2, C3, X4⟩
  unfold law24_VoteMeets_l2b
  by_cases hj : j < z2.length
  · rw [if_pos (by rw [decide_eq_true_eq]; omega)]
    obtain ⟨a, ha, q0, q1, v, hv, hc⟩ := u8_at S2 l2 X4 B2 j0 hj
    refine ⟨a, ha, q0, q1, v, hc, ?_⟩
    rw [wrapI64 (by omega) (by omega)]
    refine Say_ok C2 n0 n1 (by omega) fun r y2' h6 D2 U5 => ?_
    have X5 := up (by omega) X4 U5
    obtain ⟨a', ha', _, _, v', hv', hc'⟩ := u8_at S2 l2 X5 B2 j0 hj
    refine ⟨a', ha', q0, q1, v', hc', ?_⟩
    rw [wrapI64 (by omega) (by omega)]
    refine Say_ok (C3.other U5 (fun e => d23 e.symm)) n0 n1 (by omega) fun r y3' h7 D3 U6 => ?_
    rw [wrapI64 (by omega) (by omega)]
    exact ⟨_, rfl, ⟨by omega, by omega, y1, y2', y3', (C1.other U5 d12).other U6 d13, D2.other U6 d23, D3, up (by omega) X5 U6⟩, by dsimp only; omega⟩
  rw [if_neg (by rw [decide_eq_true_eq]; omega)]
  have fin : ∀ {h' : Heap}, Ext W.size W h' → law24_awake (fun r h'' => k r h'') h' := fun X => awake24_ok fun h'' X' => H h'' (X.trans (X'.mono X.size))
  refine Won_ok C1.T n0 n1 C1.l ?_
  by_cases w1 : ((pcR 32 y1 : Nat) : Int) ≥ m3 / 2 + 1
  · rw [decide_eq_true w1, if_neg (by simp)]
    refine Won_ok C2.T n0 n1 C2.l ?_
    by_cases w2 : ((pcR 32 y2 : Nat) : Int) ≥ m3 / 2 + 1
    · rw [decide_eq_true w2]
      unfold law24_VoteMeets_g3
      rw [if_neg (by simp)]
      refine Count_ok C1.T n1 C1.l (Count_ok C2.T n1 C2.l (Count_ok C3.T n1 C3.l ?_))
      have h1 := pcR_le 32 y1
      have h2 := pcR_le 32 y2
      have h3 := pcR_bd 32 m3.toNat y3 C3.l
      rw [wrapI64 (by omega) (by omega), if_pos (by rw [decide_eq_true_eq]; omega)]
      unfold law24_VoteMeets_g4
      exact fin X4
    · rw [decide_eq_false w2]
      unfold law24_VoteMeets_g3
      rw [if_pos (by simp)]
      exact fin X4
  · rw [decide_eq_false w1, if_pos (by simp)]
    unfold law24_VoteMeets_g3
    rw [if_pos rfl]
    exact fin X4
theorem Meets_all {W : Heap} {s1 s2 : Slc} {z1 z2 : List Int} {p : Int} {k : Bool → Heap → Prop} (S1 : SlcAt W s1 (z1.map (Value.int .u8))) (l1 : s1.len = z1.length) (B1 : ∀ n ∈ z1, (Lit.int .u8 n).wf = true) (S2 : SlcAt W s2 (z2.map (Value.int .u8))) (l2 : s2.len = z2.length) (B2 : ∀ n ∈ z2, (Lit.int .u8 n).wf = true) (hp : (Lit.int .u8 p).wf = true)
    (H : ∀ h', Ext W.size W h' → k true h') : law24_VoteMeets p s1 s2 k W := Meets_ok S1 l1 (wf_isB B1) S2 l2 (wf_isB B2) (wf_u8 hp) H
end Go.Q.Yb
