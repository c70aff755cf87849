/- A part of the proof of statements of this seat: lemmas, no statement of their own. -/
import Derived.Test.YtoapfefofjfifaaGreatYcMC
set_option linter.unusedVariables false
set_option linter.unusedSimpArgs false
/- QuorumMeets. -/
namespace Go.Q.Yc
/-- two that do not fit beside each other meet -/
theorem meet {K : Nat} {l m : List Int} (l1 : l.Nodup) (m1 : m.Nodup) (l2 : ∀ x ∈ l, x ∈ iot K) (m2 : ∀ x ∈ m, x ∈ iot K) (hl : K < l.length + m.length) : ∃ x ∈ l, x ∈ m := by
  apply Classical.byContradiction
  intro no
  have nd : (l ++ m).Nodup := by
    rw [List.nodup_append]
    exact ⟨l1, m1, fun a ha b hb e => no ⟨a, ha, e ▸ hb⟩⟩
  have := nodup_len _ _ nd fun x hx => (List.mem_append.1 hx).elim (l2 x) (m2 x)
  rw [List.length_append, iot_len] at this
  omega
theorem Loop5_ok {b1 b2 : Nat} {x1 x2 : S_api_Op} {ys1 ys2 : List Int} {k : Bool → Heap → Prop} {h : Heap} {C1 C2 : Nat} {nx1 : (Slc × Int) → Heap → Prop} {nx3 nx4 : Int → Heap → Prop} (P1 : Blk h b1 (S_api_Op.cs x1) 40) (P2 : Blk h b2 (S_api_Op.cs x2) 40)
    (R1 : Row C1 h 3 1 x1.f_Yes (ints ys1)) (R2 : Row C2 h 3 1 x2.f_Yes (ints ys2)) (hm : ∃ x ∈ ys1, x ∈ ys2) (l1 : ys1.length ≤ 1000) (l2 : ys2.length ≤ 1000) (H : ∀ h', Ext h.size h h' → k true h') : law31_QuorumMeets_l5 ⟨b1, 0, none⟩ ⟨b2, 0, none⟩ 0 k nx1 nx3 nx4 h := by
  have n1 : x1.f_Yes.len = ys1.length := by have := R1.len; simpa using this
  have n2 : x2.f_Yes.len = ys2.length := by have := R2.len; simpa using this
  have S1 := R1.slc
  have S2 := R2.slc
  have c1 : cellH h ((⟨b1, 0, none⟩ : Addr).add 28) = some (Slc.v x1.f_Yes) := by rw [add_mk, P1.cell]; rfl
  have c2 : cellH h ((⟨b2, 0, none⟩ : Addr).add 28) = some (Slc.v x2.f_Yes) := by rw [add_mk, P2.cell]; rfl
  unfold law31_QuorumMeets_l5
  refine ⟨fun i h' => h' = h ∧ 0 ≤ i ∧ i ≤ ys1.length ∧ ∀ x ∈ ys1.take i.toNat, x ∉ ys2, fun i _ => (ys1.length - i).toNat, ⟨rfl, by omega, by omega, by simp⟩, ?_⟩
  rintro i h' ⟨rfl, i0, i1, no⟩
  unfold law31_QuorumMeets_l5b
  refine ⟨_, c1, ?_⟩
  by_cases c : i < ys1.length
  · rw [if_pos (by rw [decide_eq_true_eq]; omega)]
    have hi : i.toNat < ys1.length := by omega
    obtain ⟨a, ha, hc⟩ := slc_get S1 (i := i.toNat) (v := .int .i64 ys1[i.toNat]) (by simp [hi])
    unfold law31_QuorumMeets_l6
    refine ⟨fun j h'' => h'' = h' ∧ 0 ≤ j ∧ j ≤ ys2.length ∧ ys1[i.toNat] ∉ ys2.take j.toNat, fun j _ => (ys2.length - j).toNat, ⟨rfl, by omega, by omega, by simp⟩, ?_⟩
    rintro j h'' ⟨rfl, j0, j1, no2⟩
    unfold law31_QuorumMeets_l6b
    refine ⟨_, c2, ?_⟩
    by_cases d : j < ys2.length
    · rw [if_pos (by rw [decide_eq_true_eq]; omega)]
      have hj : j.toNat < ys2.length := by omega
      obtain ⟨a2, ha2, hc2⟩ := slc_get S2 (i := j.toNat) (v := .int .i64 ys2[j.toNat]) (by simp [hj])
      refine ⟨_, c1, a, ha, i0, by omega, _, by rw [Nat.mul_one]; exact hc, _, c2, a2, ha2, j0, by omega, _, by rw [Nat.mul_one]; exact hc2, ?_⟩
      by_cases e : ys1[i.toNat] = ys2[j.toNat]
      · rw [if_pos (by simpa using e)]
        exact awake_ok H
      · rw [if_neg (by simpa using e)]
        refine ⟨_, rfl, ?_⟩
        rw [wrapI64 (by omega) (by omega)]
        refine ⟨⟨rfl, by omega, by omega, ?_⟩, by dsimp only; omega⟩
        rw [show (j + 1).toNat = j.toNat + 1 from by omega, List.take_add_one, List.getElem?_eq_getElem hj]
        simp only [Option.toList_some, List.mem_append, List.mem_singleton]
        rintro (h1 | h1)
        · exact no2 h1
        · exact e h1
    · rw [if_neg (by rw [decide_eq_true_eq]; omega)]
      refine ⟨_, rfl, ?_⟩
      rw [wrapI64 (by omega) (by omega)]
      refine ⟨⟨rfl, by omega, by omega, ?_⟩, by dsimp only; omega⟩
      rw [show (i + 1).toNat = i.toNat + 1 from by omega, List.take_add_one, List.getElem?_eq_getElem hi]
      intro x hx
      simp only [Option.toList_some, List.mem_append, List.mem_singleton] at hx
      rcases hx with hx | rfl
      · exact no x hx
      · rw [show j.toNat = ys2.length from by omega, List.take_length] at no2; exact no2
  · exfalso
    rw [show i.toNat = ys1.length from by omega, List.take_length] at no
    obtain ⟨x, h1, h2⟩ := hm
    exact no x h1 h2
theorem Meets_ok {p0 p1 p2 p3 : Int} {s4 s5 : Slc} {z4 z5 : List Int} {k : Bool → Heap → Prop} {h : Heap} (q0 : 0 ≤ p0 ∧ p0 < 256) (q1 : 0 ≤ p1 ∧ p1 < 256) (q2 : 0 ≤ p2 ∧ p2 < 256) (q3 : 0 ≤ p3 ∧ p3 < 256)
    (A4 : SlcAt h s4 (z4.map (Value.int .u8))) (l4 : s4.len = z4.length) (A5 : SlcAt h s5 (z5.map (Value.int .u8))) (l5 : s5.len = z5.length) (H : ∀ h', Ext h.size h h' → k true h') : law31_QuorumMeets p0 p1 p2 p3 s4 s5 k h := by
  unfold law31_QuorumMeets
  refine ⟨_, rfl, ?_⟩
  have t0 : Int.tmod p0 30 = p0 % 30 := Int.tmod_eq_emod_of_nonneg q0.1
  rw [t0, wrapI64 (x := p0 % 30) (by omega) (by omega), wrapI64 (x := 3 + p0 % 30) (by omega) (by omega), wrapI64 (x := p1) (by omega) (by omega), wrapI64 (x := p2) (by omega) (by omega), wrapI64 (x := p3) (by omega) (by omega)]
  obtain ⟨K, eK⟩ : ∃ K : Nat, 3 + p0 % 30 = (K : Int) := ⟨(3 + p0 % 30).toNat, by omega⟩
  have K3 : 3 ≤ K ∧ K ≤ 32 := by omega
  rw [eK, Int.tmod_eq_emod_of_nonneg q1.1, Int.tmod_eq_emod_of_nonneg q2.1, Int.tmod_eq_emod_of_nonneg q3.1]
  have Kp : (0 : Int) < K := by omega
  have a0 := Int.emod_nonneg p1 (show (K : Int) ≠ 0 by omega)
  have a1 := Int.emod_lt_of_pos p1 Kp
  have b0 := Int.emod_nonneg p2 (show (K : Int) ≠ 0 by omega)
  have b1 := Int.emod_lt_of_pos p2 Kp
  have c0 := Int.emod_nonneg p3 (show (K : Int) ≠ 0 by omega)
  have c1 := Int.emod_lt_of_pos p3 Kp
  generalize p1 % (K : Int) = a at *
  generalize p2 % (K : Int) = b at *
  generalize p3 % (K : Int) = c at *
  refine ⟨by omega, by omega, by omega, ?_⟩
  by_cases cond : ((((a = b ∨ b = c) ∨ a = c) ∨ (s4.len : Int) > 60) ∨ (s5.len : Int) > 60)
  · rw [if_pos (by simpa using cond)]
    exact awake_ok H
  rw [if_neg (by simpa using cond)]
  have ab : a ≠ b := fun e => cond (.inl (.inl (.inl (.inl e))))
  have bc : b ≠ c := fun e => cond (.inl (.inl (.inl (.inr e))))
  have ac : a ≠ c := fun e => cond (.inl (.inl (.inr e)))
  have z4l : z4.length ≤ 60 := by
    apply Classical.byContradiction; intro hh; exact cond (.inl (.inr (by omega)))
  have z5l : z5.length ≤ 60 := by
    apply Classical.byContradiction; intro hh; exact cond (.inr (by omega))
  refine New_ok fun r m h2 D2 rB mB X2 => ?_
  have z2 := X2.size
  unfold law31_QuorumMeets_l1
  refine ⟨fun q h' => 0 ≤ q.2 ∧ q.2 ≤ K ∧ Row h.size h' 3 1 q.1 (ints (iot q.2.toNat)) ∧ DeskAt h' r m [] ∧ Ext h.size h h', fun q _ => (K - q.2).toNat, ⟨by omega, by omega, Row.nil _ _ _ _, D2, X2⟩, ?_⟩
  rintro s i h8 ⟨i0, i1, R8, D8, X8⟩
  dsimp only at i0 i1 R8
  have z8 := X8.size
  have ls : s.len = i.toNat := by have := R8.len; rw [this]; simp [iot_len]
  unfold law31_QuorumMeets_l1b
  by_cases ci : i < K
  · rw [if_pos (by rw [decide_eq_true_eq]; omega)]
    refine ⟨_, _, rfl, rfl, ?_⟩
    have W := Ext.push h8 (.cells ([.int .i64 i] : List Value).toArray 3) (Nat.le_refl _)
    have R9 := R8.pushed (.cells ([.int .i64 i] : List Value).toArray 3)
    generalize h8.push (.cells ([.int .i64 i] : List Value).toArray 3) = h10 at *
    have D10 := D8.ext W
    have X10 := X8.trans (W.mono z8)
    have z10 := X10.size
    refine App.row2 R9 z10 rfl (by simp) (fun v hv => by rw [List.mem_singleton] at hv; rw [hv]; rfl) (by omega) (by simp only [maxLen]; omega) fun s' h12 R12 rl sz kp bl _ => ?_
    refine ⟨_, rfl, ?_⟩
    rw [wrapI64 (by omega) (by omega)]
    refine ⟨⟨by dsimp only; omega, by dsimp only; omega, ?_, D10.old (kp r D10.P.lt (R9.ne_blk D10.P (by omega))) (kp m D10.M.lt (D10.M.ne_row R9)), ?_⟩, by dsimp only; omega⟩
    · dsimp only
      rw [show (i + 1).toNat = i.toNat + 1 from by omega, iot_succ, show ((i.toNat : Nat) : Int) = i from by omega]
      simpa [ints] using R12
    · refine X10.trans ⟨sz, fun j hj => kp j (by omega) fun e => ?_⟩
      have := (R9.bd e).1
      omega
  rw [if_neg (by rw [decide_eq_true_eq]; omega)]
  have eI : i.toNat = K := by omega
  rw [eI] at R8 ls
  refine ⟨_, _, rfl, rfl, ?_⟩
  have P := Blk.push h8 [.int .i64 a, .int .i64 b, .int .i64 c] 3
  have W15 := Ext.push h8 (.cells ([.int .i64 a, .int .i64 b, .int .i64 c] : List Value).toArray 3) (Nat.le_refl _)
  have R15 := R8.pushed (.cells ([.int .i64 a, .int .i64 b, .int .i64 c] : List Value).toArray 3)
  generalize h8.push (.cells ([.int .i64 a, .int .i64 b, .int .i64 c] : List Value).toArray 3) = h15 at *
  have D15 := D8.ext W15
  have X15 := X8.trans (W15.mono z8)
  have z15 := X15.size
  refine Start_ok (v := ⟨1, 1, ByteArray.empty, nilS, zQ, zCmd, 0, ⟨some ⟨h8.size, 0, none⟩, 3, 3⟩, nilS, 0, false, 0, nilS⟩) (ns := [a, b, c]) D15 ⟨P.slc (o := 0) (n := 3) rfl, rfl, Nat.le_refl _⟩ rfl ⟨rfl, rfl, rfl⟩ (by simp) (by show needs 1 3 ≠ 0; decide) (by simp) (by simp; exact ⟨⟨ab, ac⟩, bc⟩) rfl fun g1 n1 h17 D17 O17 gB nB U17 => ?_
  have z17 := U17.size
  have X17 : Ext h.size h h17 := X15.trans (U17.ext mB z15)
  have R17 : Row h.size h17 3 1 s (ints (iot K)) := R15.keep fun q hq => U17.block q (R15.bd hq).2 fun e => D15.M.ne_row R15 (by rw [hq, e])
  rw [if_neg (by simp)]
  have kK : needs 2 K = (K : Int) - 1 := by
    unfold needs
    rw [if_neg (by decide), if_pos rfl, if_pos (by omega)]
  refine Start_ok (v := ⟨2, 2, ByteArray.empty, nilS, zQ, zCmd, 0, s, nilS, 0, false, 0, nilS⟩) (ns := iot K) D17 (Ints.row R17) rfl ⟨rfl, rfl, rfl⟩ (by rw [iot_len]; omega) (by rw [iot_len]; show needs 2 K ≠ 0; rw [kK]; omega) (fun e => by have := iot_len K; rw [e] at this; simp at this; omega) (iot_nodup K) rfl fun g2 n2 h19 D19 O19 gB2 nB2 U19 => ?_
  have z19 := U19.size
  have X19 : Ext h.size h h19 := X17.trans (U19.ext mB (by omega))
  have g1m : g1 ≠ m := D17.M.ne_blk O17.B
  have O1 : OpAt h19 g1 (wop n1 nilS false) [a, b, c] [] := O17.old (U19.block _ O17.B.lt g1m) (fun q hq => U19.block q (O17.N.bd hq).2 fun e => D17.M.ne_row O17.N (by rw [hq, e])) (fun q hq => by cases hq)
  have g1lt := O17.B.lt
  have T0 : Two h.size h h19 r m g1 g2 n1 n2 [a, b, c] (iot K) nilS [] false nilS [] false :=
    ⟨X19, D19, O1, O19, by omega, fun q hq => (by cases hq), fun q hq => (by cases hq), ⟨by omega, by omega, by omega⟩, ⟨fun q hq => (by cases hq), fun q hq => (by cases hq)⟩, by simp, fun v hv => (by cases hv), fun e => (by cases e), by simp, fun v hv => (by cases hv), fun e => (by cases e), ⟨by simp, by rw [iot_len]; omega⟩⟩
  unfold law31_QuorumMeets_g2
  rw [if_neg (by simp)]
  unfold law31_QuorumMeets_l3
  refine ⟨fun j h' => 0 ≤ j ∧ j ≤ z4.length ∧ ∃ y ys d, Two h.size h h' r m g1 g2 n1 n2 [a, b, c] (iot K) y ys d nilS [] false, fun j _ => (z4.length - j).toNat, ⟨by omega, by omega, _, _, _, T0⟩, ?_⟩
  rintro j h20 ⟨j0, j1, y1, ys1, d1, T⟩
  unfold law31_QuorumMeets_l3b
  by_cases cj : j < z4.length
  · rw [if_pos (by rw [decide_eq_true_eq]; omega)]
    have hj : j.toNat < z4.length := by omega
    obtain ⟨e, he, hc⟩ := slc_get (A4.ext T.X) (i := j.toNat) (v := .int .u8 z4[j.toNat]) (by simp [hj])
    refine ⟨e, he, j0, by omega, _, by rw [Nat.mul_one]; exact hc, T.yesA fun _ y ys d h' T' => ⟨_, rfl, ?_⟩⟩
    rw [wrapI64 (by omega) (by omega)]
    exact ⟨⟨by omega, by omega, y, ys, d, T'⟩, by dsimp only; omega⟩
  rw [if_neg (by rw [decide_eq_true_eq]; omega)]
  unfold law31_QuorumMeets_l4
  refine ⟨fun j h' => 0 ≤ j ∧ j ≤ z5.length ∧ ∃ y ys d, Two h.size h h' r m g1 g2 n1 n2 [a, b, c] (iot K) y1 ys1 d1 y ys d, fun j _ => (z5.length - j).toNat, ⟨by omega, by omega, _, _, _, T⟩, ?_⟩
  clear T
  rintro j2 h21 ⟨v0, v1, y2, ys2, d2, T⟩
  unfold law31_QuorumMeets_l4b
  by_cases cj : j2 < z5.length
  · rw [if_pos (by rw [decide_eq_true_eq]; omega)]
    have hj : j2.toNat < z5.length := by omega
    obtain ⟨e, he, hc⟩ := slc_get (A5.ext T.X) (i := j2.toNat) (v := .int .u8 z5[j2.toNat]) (by simp [hj])
    refine ⟨e, he, v0, by omega, _, by rw [Nat.mul_one]; exact hc, T.yesB fun _ y ys d h' T' => ⟨_, rfl, ?_⟩⟩
    rw [wrapI64 (by omega) (by omega)]
    exact ⟨⟨by omega, by omega, y, ys, d, T'⟩, by dsimp only; omega⟩
  rw [if_neg (by rw [decide_eq_true_eq]; omega)]
  have zB := T.Bg.2.2
  refine ResAny T.D (by rfl) T.O1 fun w h29 X29 f1 => ?_
  have z29 := X29.size
  refine ⟨_, _, rfl, rfl, ?_⟩
  have V := Blk.push h29 (S_api_Op.cs zOp) 40
  have W31 := Ext.push h29 (.cells (S_api_Op.cs zOp).toArray 40) (Nat.le_refl _)
  generalize h29.push (.cells (S_api_Op.cs zOp).toArray 40) = h31 at *
  refine ⟨_, WrsAt.of_blk V (by show 33 ≤ 33; omega), rfl, ?_⟩
  have V32 := V.sets_all (vs := S_api_Op.cs w.1) rfl
  have X32 : Ext h29.size h29 (setsH h31 ⟨h29.size, 0, none⟩ 0 (S_api_Op.cs w.1)) := W31.trans (Ext.sets _ _ _ (Nat.le_refl _))
  generalize setsH h31 ⟨h29.size, 0, none⟩ 0 (S_api_Op.cs w.1) = h32 at *
  have z32 := X32.size
  have v32 := V32.lt
  have X2132 := X29.trans (X32.mono z29)
  have T32 := T.ext X2132
  refine ResAny T32.D (by rfl) T32.O2 fun u h34 X34 f2 => ?_
  have z34 := X34.size
  refine ⟨_, _, rfl, rfl, ?_⟩
  have U := Blk.push h34 (S_api_Op.cs zOp) 40
  have W36 := Ext.push h34 (.cells (S_api_Op.cs zOp).toArray 40) (Nat.le_refl _)
  generalize h34.push (.cells (S_api_Op.cs zOp).toArray 40) = h36 at *
  refine ⟨_, WrsAt.of_blk U (by show 33 ≤ 33; omega), rfl, ?_⟩
  have U37 := U.sets_all (vs := S_api_Op.cs u.1) rfl
  have X37 : Ext h34.size h34 (setsH h36 ⟨h34.size, 0, none⟩ 0 (S_api_Op.cs u.1)) := W36.trans (Ext.sets _ _ _ (Nat.le_refl _))
  generalize setsH h36 ⟨h34.size, 0, none⟩ 0 (S_api_Op.cs u.1) = h37 at *
  have z37 := X37.size
  have X3237 : Ext h32.size h32 h37 := X34.trans (X37.mono z34)
  have X2137 := X2132.trans (X3237.mono X2132.size)
  have X037 : Ext h.size h h37 := T.X.trans (X2137.mono zB)
  have done : ∀ h', Ext h37.size h37 h' → k true h' := fun h' X' => H h' (X037.trans (X'.mono X037.size))
  by_cases e1 : w.2 = 0
  · by_cases e2 : u.2 = 0
    · rw [if_neg (by simp [e1, e2])]
      obtain ⟨dn1, Rw⟩ := f1 e1
      obtain ⟨dn2, Ru⟩ := f2 e2
      have k1 := T.dn1 dn1
      have k2 := T.dn2 dn2
      rw [iot_len, kK] at k2
      rw [show needs 1 ([a, b, c] : List Int).length = 2 from rfl] at k1
      have X2937 : Ext h29.size h29 h37 := X32.trans (X3237.mono z32)
      refine Loop5_ok (V32.ext X3237 v32) U37 (Rw.ext X2937 fun q hq => (Rw.bd hq).2) (Ru.ext X37 fun q hq => (Ru.bd hq).2) (meet (K := K) T.nd1 T.nd2 (fun x hx => ?_) T.in2 (by omega)) (by have := T.O1.y; omega) (by have := T.O2.y; omega) done
      have := T.in1 x hx
      rw [iot_mem]
      simp only [List.mem_cons, List.not_mem_nil, or_false] at this
      rcases this with rfl | rfl | rfl
      · exact ⟨a0, a1⟩
      · exact ⟨b0, b1⟩
      · exact ⟨c0, c1⟩
    · rw [if_pos (by simp [e2])]
      exact awake_ok done
  · rw [if_pos (by simp [e1])]
    exact awake_ok done
end Go.Q.Yc
