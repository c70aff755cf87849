/- A part of the proof of statements of this seat: lemmas, no statement of their own. -/
import Derived.Test.YtcmbgfmbmbgbiaaYbVtE
set_option linter.unusedVariables false
set_option linter.unusedSimpArgs false
set_option maxHeartbeats 1000000
namespace Go.Q.Yb
open Go.Sort
theorem i64_at {W h : Heap} {s : Slc} {zs : List Int} {i : Int} (S : SlcAt W s (zs.map (Value.int .i64))) (sl : s.len = zs.length) (X : Ext W.size W h) (i0 : 0 ≤ i) {v : Int} (hx : zs[i.toNat]? = some v) :
    ∃ a : Addr, s.a = some a ∧ (0 : Int) ≤ i ∧ i < (s.len : Int) ∧ cellH h (a.add (i.toNat * 1)) = some (.int .i64 v) := by
  have i1 := (List.getElem?_eq_some_iff.1 hx).1
  cases ha : s.a with
  | none => have := S.1 ha; rw [List.map_eq_nil_iff] at this; rw [this] at i1; simp at i1
  | some a =>
    refine ⟨a, rfl, i0, by omega, ?_⟩
    rw [Nat.mul_one]
    exact X.cellAt (S.2 a ha i.toNat _ (by rw [List.getElem?_map, hx]; rfl))
theorem VHalfG_ok {h : Heap} {p : Int} {k : Int → Heap → Prop} (p1 : p < 9223372036854775808) (H : k ((if p < 0 then 0 else p) / 2 + 1) h) : vote_Half p k h := by
  by_cases hp : p < 0
  · rw [if_pos hp] at H
    unfold vote_Half
    rw [if_pos (by omega)]
    refine ⟨_, rfl, ?_⟩
    have e : shr .i64 0 (1 : Int).toNat = 0 := by decide +kernel
    rw [e, wrapI64 (by omega) (by omega)]
    exact H
  · rw [if_neg hp] at H
    exact VHalf_ok (by omega) p1 H
theorem RHalf_ok {h : Heap} {p : Int} {k : Int → Heap → Prop} (p1 : p < 9223372036854775808) (H : k ((if p < 0 then 0 else p) / 2 + 1) h) : ref24_Half p k h := by
  unfold ref24_Half
  by_cases hp : p < 1
  · rw [if_pos (decide_eq_true hp)]
    have e : (if p < 0 then 0 else p) = 0 := by split <;> omega
    rw [e] at H
    exact H
  · rw [if_neg (by rw [decide_eq_true_eq]; exact hp)]
    rw [if_neg (by omega)] at H
    rw [Int.tdiv_eq_ediv_of_nonneg (by omega), wrapI64 (x := p / 2) (by omega) (by omega), wrapI64 (by omega) (by omega)]
    exact ⟨_, rfl, H⟩
/-- a ballot, and who has said yes -/
structure Met (W h : Heap) (b : Nat) (m : Int) (s : Slc) (met : List Int) : Prop where
  B : ∃ y, Bal h b m y ∧ (∀ j : Nat, j < 32 → (y / 2 ^ j % 2 = 1 ↔ (j : Int) ∈ met)) ∧ pcR 32 y = met.length
  R : Row (b + 1) h 3 1 s (met.map (Value.int .i64))
  l : s.len = met.length
  X : Ext W.size W h
theorem CountsEnd_ok {h : Heap} {k : Bool → Heap → Prop} {nx1 : Slc × Int → Heap → Prop} (H : ∀ h', Ext h.size h h' → k true h') : vote_Ballot_Yes none 0 (fun r42 h43 => law24_VoteCounts_g7 none (!r42) k nx1 h43) h := by
  unfold vote_Ballot_Yes vote_Ballot_Yes_g1 vote_Ballot_Yes_g2
  rw [if_pos (by simp), if_pos rfl, if_pos rfl]
  show law24_VoteCounts_g7 none true k nx1 h
  unfold law24_VoteCounts_g7
  rw [if_pos rfl]
  unfold vote_Ballot_Count
  rw [if_pos (by simp)]
  show law24_VoteCounts_g8 none true k nx1 h
  unfold law24_VoteCounts_g8
  rw [if_pos rfl]
  unfold vote_Ballot_Won vote_Ballot_Won_j1
  rw [if_neg (by simp)]
  show law24_VoteCounts_g9 true k nx1 h
  unfold law24_VoteCounts_g9
  rw [if_pos rfl]
  refine awake24_ok fun h' X => ?_
  unfold law24_VoteCounts_g10
  exact H h' X
theorem Counts_ok {W : Heap} {s : Slc} {zs : List Int} {p : Int} {k : Bool → Heap → Prop} (S : SlcAt W s (zs.map (Value.int .i64))) (sl : s.len = zs.length) (wz : ∀ v ∈ zs, -9223372036854775808 ≤ v ∧ v < 9223372036854775808) (hp : -9223372036854775808 ≤ p ∧ p < 9223372036854775808)
    (H : ∀ h', Ext W.size W h' → k true h') : law24_VoteCounts p s k W := by
  unfold law24_VoteCounts
  by_cases hg : (s.len : Int) > 100
  · rw [if_pos (decide_eq_true hg)]
    exact awake24_ok H
  rw [if_neg (by rw [decide_eq_true_eq]; exact hg)]
  refine VNew_ok fun b h1 m em T1 g1 X1 => ?_
  have em2 : (if 32 < (if 0 > p then 0 else p) then 32 else (if 0 > p then 0 else p)) = m := by rw [em]; split <;> split <;> (try split) <;> (try split) <;> omega
  have m0 : 0 ≤ m := by rw [em]; split <;> (try split) <;> omega
  have m1 : m ≤ 32 := by rw [em]; split <;> (try split) <;> omega
  rw [em2]
  refine ⟨_, rfl, ?_⟩
  clear em em2
  have t1 := T1.lt
  unfold law24_VoteCounts_l1
  refine ⟨fun st h' => 0 ≤ st.2 ∧ st.2 ≤ zs.length ∧ ∃ met : List Int, Met W h' b m st.1 met ∧ (met.length : Int) ≤ st.2, fun st _ => (zs.length - st.2).toNat,
    ⟨by simp, by simp, [], ⟨⟨0, ⟨T1, Nat.two_pow_pos _⟩, fun j _ => by simp, by decide⟩, Row.nil _ _ _ _, rfl, X1⟩, by simp⟩, ?_⟩
  rintro s7 i h2 ⟨i0, i1, met, M, ml⟩
  dsimp only at i0 i1 M ml
  unfold law24_VoteCounts_l1b
  by_cases hi : i < zs.length
  · rw [if_pos (by rw [decide_eq_true_eq]; omega)]
    have hx : zs[i.toNat]? = some (zs[i.toNat]'(by omega)) := by simp
    have wv := wz _ (List.mem_of_getElem? hx)
    generalize zs[i.toNat]'(by omega) = v at *
    obtain ⟨a, ha, q0, q1, hc⟩ := i64_at S sl M.X i0 hx
    have cl : ∀ {h' : Heap}, Ext W.size W h' → cellH h' (a.add (i.toNat * 1)) = some (.int .i64 v) := fun X => by
      obtain ⟨a', ha', _, _, hc'⟩ := i64_at S sl X i0 hx
      rw [ha] at ha'; cases ha'; exact hc'
    have go : ∀ f : Bool, (f = true ↔ 0 ≤ v ∧ v < m) → law24_VoteCounts_g2 p s (some ⟨b, 0, none⟩) m s7 i f k (fun st h' => (0 ≤ st.2 ∧ st.2 ≤ (zs.length : Int) ∧ ∃ met : List Int, Met W h' b m st.1 met ∧ (met.length : Int) ≤ st.2) ∧ ((zs.length : Int) - st.2).toNat < ((zs.length : Int) - i).toNat) h2 := fun f hf => by
      unfold law24_VoteCounts_g2 law24_VoteCounts_l3
      have ml7 := M.l
      refine ⟨fun st h' => 0 ≤ st.2 ∧ st.2 ≤ met.length ∧ (st.1 = true ↔ (0 ≤ v ∧ v < m) ∧ ∀ x ∈ met.take st.2.toNat, x ≠ v) ∧ h' = h2, fun st _ => (met.length - st.2).toNat, ⟨by simp, by simp, by simpa using hf, rfl⟩, ?_⟩
      rintro f j h' ⟨j0, j1, hf, e⟩
      subst e
      dsimp only at j0 j1 hf
      unfold law24_VoteCounts_l3b
      by_cases hj : j < met.length
      · rw [if_pos (by rw [decide_eq_true_eq]; omega)]
        have hy : met[j.toNat]? = some (met[j.toNat]'(by omega)) := by simp
        generalize met[j.toNat]'(by omega) = x at *
        have et : met.take (j + 1).toNat = met.take j.toNat ++ [x] := by rw [show (j + 1).toNat = j.toNat + 1 from by omega, List.take_add_one, hy]; rfl
        have nxt : ∀ f' : Bool, (f' = true ↔ f = true ∧ x ≠ v) → law24_VoteCounts_g4 p s (some ⟨b, 0, none⟩) m s7 i j f' k (fun st h' => (0 ≤ st.2 ∧ st.2 ≤ (zs.length : Int) ∧ ∃ met : List Int, Met W h' b m st.1 met ∧ (met.length : Int) ≤ st.2) ∧ ((zs.length : Int) - st.2).toNat < ((zs.length : Int) - i).toNat) (fun st h'' => (0 ≤ st.2 ∧ st.2 ≤ (met.length : Int) ∧ (st.1 = true ↔ (0 ≤ v ∧ v < m) ∧ ∀ x ∈ met.take st.2.toNat, x ≠ v) ∧ h'' = h') ∧ ((met.length : Int) - st.2).toNat < ((met.length : Int) - j).toNat) h' := fun f' hf' => by
          unfold law24_VoteCounts_g4
          rw [wrapI64 (by omega) (by omega)]
          refine ⟨_, rfl, ⟨by dsimp only; omega, by dsimp only; omega, ?_, rfl⟩, by dsimp only; omega⟩
          dsimp only
          rw [hf', hf, et]
          constructor
          · rintro ⟨⟨h1, h2⟩, h3⟩
            refine ⟨h1, fun z hz => ?_⟩
            rcases List.mem_append.1 hz with hz | hz
            · exact h2 z hz
            · simp at hz; subst hz; exact h3
          · rintro ⟨h1, h2⟩
            exact ⟨⟨h1, fun z hz => h2 z (List.mem_append_left _ hz)⟩, h2 x (by simp)⟩
        cases f with
        | true =>
          rw [if_pos rfl]
          obtain ⟨a2, ha2, hc2⟩ := M.R.at (j := j.toNat) (by omega)
          refine ⟨a2, ha2, j0, by omega, x, by rw [Nat.mul_one, hc2, List.getElem?_map, hy]; rfl, a, ha, q0, q1, v, hc, nxt _ ?_⟩
          rw [bne_iff_ne]; simp
        | false =>
          rw [if_neg (by simp)]
          exact nxt _ (by simp)
      rw [if_neg (by rw [decide_eq_true_eq]; omega)]
      rw [List.take_of_length_le (by omega)] at hf
      refine ⟨a, ha, q0, q1, v, hc, ?_⟩
      obtain ⟨y, A, bits, pc⟩ := M.B
      have zX := M.X.size
      -- what is counted then
      have cnt : ∀ (s8 : Slc) (met' : List Int) (h3 : Heap), Met W h3 b m s8 met' → met'.length ≤ i + 1 → law24_VoteCounts_j5 p s (some ⟨b, 0, none⟩) m i s8 k (fun st h' => (0 ≤ st.2 ∧ st.2 ≤ (zs.length : Int) ∧ ∃ met : List Int, Met W h' b m st.1 met ∧ (met.length : Int) ≤ st.2) ∧ ((zs.length : Int) - st.2).toNat < ((zs.length : Int) - i).toNat) (fun st h'' => (0 ≤ st.2 ∧ st.2 ≤ (met.length : Int) ∧ (st.1 = true ↔ (0 ≤ v ∧ v < m) ∧ ∀ x ∈ met.take st.2.toNat, x ≠ v) ∧ h'' = h') ∧ ((met.length : Int) - st.2).toNat < ((met.length : Int) - j).toNat) h3 := fun s8 met' h3 M' ml' => by
        obtain ⟨y', A', _, pc'⟩ := M'.B
        have l8 := M'.l
        unfold law24_VoteCounts_j5
        refine Count_ok A'.T m1 A'.l ?_
        rw [pc', l8, if_neg (by simp)]
        refine Won_ok A'.T m0 m1 A'.l (RHalf_ok (by omega) ?_)
        rw [if_neg (by omega), pc']
        unfold law24_VoteCounts_g6
        rw [if_neg (by simp), wrapI64 (by omega) (by omega)]
        exact ⟨_, rfl, ⟨by dsimp only; omega, by dsimp only; omega, met', M', by dsimp only; omega⟩, by dsimp only; omega⟩
      refine Yes_ok A.T m0 m1 A.l (by omega) (fun v0 vm hb0 h3 T3 U3 => ?_) fun hno => ?_
      · -- a new one
        have nm : v ∉ met := fun hv => by
          have := (bits v.toNat (by omega)).2 (by rw [show ((v.toNat : Nat) : Int) = v from by omega]; exact hv)
          omega
        have ft : f = true := hf.2 ⟨⟨v0, vm⟩, fun x hx' e => nm (e ▸ hx')⟩
        subst ft
        rw [if_neg (by simp), if_pos rfl]
        have X3 : Ext W.size W h3 := M.X.trans (U3.ext g1 zX)
        refine ⟨a, ha, q0, q1, v, cl X3, _, _, rfl, rfl, ?_⟩
        have R3 : Row (b + 1) h3 3 1 s7 (met.map (Value.int .i64)) := M.R.keep fun g hg => U3.block g (M.R.bd hg).2 (by have := (M.R.bd hg).1; omega)
        have t3 := T3.lt
        have E4 := Ext.push h3 (.cells ([.int .i64 v] : List Value).toArray 3) (Nat.le_refl h3.size)
        have z4 := E4.size
        refine App.row (R3.pushed _) (by omega) rfl rfl (by simp [Value.oneCell']) (by omega) (by simp only [maxLen]; omega) fun s8 h5 R5 l5 z5 ho _ => ?_
        have ne : ∀ g, s7.blk = some g → b + 1 ≤ g := fun g hg => (R3.bd hg).1
        have X5 : Ext W.size W h5 := X3.trans ((E4.mono X3.size).trans ⟨z5, fun g hg => ho g (by have := X3.size; omega) fun e => by have := ne g e; omega⟩)
        have T5 : BalAt h5 b m (y + 2 ^ v.toNat) := (T3.ext E4 t3).old (ho b (by omega) fun e => by have := ne b e; omega)
        refine cnt s8 (met ++ [v]) h5 ⟨⟨_, ⟨T5, set_lt (by omega) A.l hb0⟩, fun j hj => ?_, ?_⟩, ?_, by rw [l5, List.length_append, M.l]; rfl, X5⟩ (by rw [List.length_append]; simp; omega)
        · rw [set_bit hb0]
          by_cases hjv : j = v.toNat
          · rw [if_pos hjv]
            simp; right; omega
          · rw [if_neg hjv, bits j hj]
            simp; omega
        · rw [pcR_set 32 v.toNat y (by omega) hb0, pc, List.length_append]; rfl
        · rw [List.map_append]; exact R5
      · have ff : f = false := by
          cases hff : f with
          | false => rfl
          | true =>
            obtain ⟨⟨v0, vm⟩, hx'⟩ := hf.1 hff
            have h1 := hno v0 vm
            have := (bits v.toNat (by omega)).1 h1
            rw [show ((v.toNat : Nat) : Int) = v from by omega] at this
            exact absurd rfl (hx' v this)
        subst ff
        rw [if_neg (by simp), if_neg (by simp)]
        exact cnt s7 met h' M (by omega)
    refine ⟨a, ha, q0, q1, v, hc, ?_⟩
    by_cases v0 : v ≥ 0
    · rw [if_pos (decide_eq_true v0)]
      refine ⟨a, ha, q0, q1, v, hc, go _ ?_⟩
      rw [decide_eq_true_eq]
      exact ⟨fun h => ⟨v0, h⟩, fun h => h.2⟩
    · rw [if_neg (by rw [decide_eq_true_eq]; exact v0)]
      exact go _ (by simp; omega)
  rw [if_neg (by rw [decide_eq_true_eq]; omega)]
  refine VHalfG_ok hp.2 (RHalf_ok hp.2 ?_)
  rw [if_pos (by simp)]
  exact CountsEnd_ok fun h' X => H h' (M.X.trans (X.mono M.X.size))
theorem Counts_all {W : Heap} {s : Slc} {zs : List Int} {p : Int} {k : Bool → Heap → Prop} (S : SlcAt W s (zs.map (Value.int .i64))) (sl : s.len = zs.length) (wz : ∀ n ∈ zs, (Lit.int .i64 n).wf = true) (hp : (Lit.int .i64 p).wf = true)
    (H : ∀ h', Ext W.size W h' → k true h') : law24_VoteCounts p s k W := Counts_ok S sl (fun v hv => wf_i64 (wz v hv)) (wf_i64 hp) H
end Go.Q.Yb
