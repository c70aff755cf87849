/- A part of the proof of statements of this seat: lemmas, no statement of their own. -/
import Derived.Test.YtidhlagdagbggaaDoorYfSha
import Derived.Test.YtidhlagdagbggaaDoorQLs
set_option linter.unusedVariables false
set_option linter.unusedSimpArgs false
set_option maxRecDepth 100000
/- Slot: the fingerprint, as a function of the bytes. -/
namespace Go.Q.Yf
def rcL : List Int := [1116352408, 1899447441, 3049323471, 3921009573, 961987163, 1508970993, 2453635748, 2870763221, 3624381080, 310598401, 607225278, 1426881987, 1925078388, 2162078206, 2614888103, 3248222580, 3835390401, 4022224774, 264347078, 604807628, 770255983, 1249150122, 1555081692, 1996064986, 2554220882, 2821834349, 2952996808, 3210313671, 3336571891, 3584528711, 113926993, 338241895, 666307205, 773529912, 1294757372, 1396182291, 1695183700, 1986661051, 2177026350, 2456956037, 2730485921, 2820302411, 3259730800, 3345764771, 3516065817, 3600352804, 4094571909, 275423344, 430227734, 506948616, 659060556, 883997877, 958139571, 1322822218, 1537002063, 1747873779, 1955562222, 2024104815, 2227730452, 2361852424, 2428436474, 2756734187, 3204031479, 3329325298]
abbrev u32s (l : List Int) : List Value := l.map (Value.int .u32)
theorem u32s_one (l : List Int) : ∀ v ∈ u32s l, v.oneCell' = true := fun v hv => by obtain ⟨a, _, rfl⟩ := List.mem_map.1 hv; rfl
def R0 (h : Heap) : Prop := CellsAt h ⟨0, 0, none⟩ (u32s rcL)
theorem R0.pos {h : Heap} (r : R0 h) : 0 < h.size := by
  have := r 0 _ rfl
  rw [add_mk] at this
  exact cellH_lt this
theorem R0.ext {B : Nat} {h h' : Heap} (r : R0 h) (X : Ext B h h') (hB : 0 < B) : R0 h' := fun j v hj => by
  have := r j v hj
  rw [X.cell (by rw [add_mk]; exact hB)]; exact this
theorem arr_full {n : Nat} {k : IntKind} {l : List Int} (hl : l.length = n) : arr n k l = l.map (Value.int k) := by
  rw [arr_nrm]
  congr 1
  unfold nrm
  apply List.ext_getElem
  · simp [hl]
  · intro i h1 h2
    simp [h2]
theorem nn64 (x : Int) : 0 ≤ IntKind.u64.wrap x := by
  unfold IntKind.wrap; simp [IntKind.signed, IntKind.bits]; omega
def rotD (x n : Int) : Int := bwOr .u32 (shl .u32 x (bwAnd .u64 (IntKind.u64.wrap n) 31).toNat) (shr .u32 x (IntKind.u64.wrap (32 - bwAnd .u64 (IntKind.u64.wrap n) 31)).toNat)
theorem Rot_ok {x n : Int} {k : Int → Heap → Prop} {h : Heap} (H : k (rotD x n) h) : math_bits_RotateLeft32 x n k h := by
  unfold math_bits_RotateLeft32
  exact ⟨_, rfl, nn64 _, nn64 _, _, rfl, H⟩
def turnD (n a b c : Int) (cut : Bool) : Int :=
  bwXor .u32 (bwXor .u32 (rotD n (IntKind.i64.wrap (0 - a))) (rotD n (IntKind.i64.wrap (0 - b)))) (if cut then shr .u32 n (IntKind.u64.wrap c).toNat else rotD n (IntKind.i64.wrap (0 - c)))
theorem Turned_ok {n a b c : Int} {cut : Bool} {k : Int → Heap → Prop} {h : Heap} (H : k (turnD n a b c cut) h) : sha_turned n a b c cut k h := by
  unfold sha_turned
  refine Rot_ok ?_
  unfold turnD at H
  cases cut with
  | true =>
    rw [if_pos rfl] at H ⊢
    refine ⟨nn64 _, _, rfl, ?_⟩
    unfold sha_turned_j1
    exact Rot_ok (Rot_ok ⟨_, rfl, H⟩)
  | false =>
    rw [if_neg (by simp)] at H ⊢
    unfold sha_turned_j1
    exact Rot_ok (Rot_ok ⟨_, rfl, H⟩)
theorem addr_add (a : Addr) (i j : Nat) : (a.add i).add j = a.add (i + j) := by
  unfold Addr.add
  by_cases hi : i = 0
  · subst hi; simp
  · by_cases hj : j = 0
    · subst hj; simp
    · rw [if_neg hi, if_neg hj, if_neg (by omega)]
      simp [Nat.add_assoc]
theorem sub_at {h : Heap} {s : Slc} {vs : List Value} {lo hi m : Nat} (S : SlcAt h s vs) (hv : 0 < vs.length) (l1 : lo < hi) (l2 : hi ≤ vs.length) (l3 : hi ≤ m) :
    ∃ a, (subS s 1 lo hi m).a = some a ∧ (subS s 1 lo hi m).len = hi - lo ∧ ∀ j, lo + j < vs.length → cellH h (a.add j) = vs[lo + j]? := by
  cases ha : s.a with
  | none => have := S.1 ha; rw [this] at hv; simp at hv
  | some a =>
    refine ⟨a.add lo, ?_, rfl, fun j hj => ?_⟩
    · unfold subS
      simp only
      rw [if_neg (by omega), ha, Nat.mul_one]; rfl
    · rw [addr_add a lo j]
      have hj2 : vs[lo + j]? = some vs[lo + j] := List.getElem?_eq_getElem hj
      rw [S.2 a ha (lo + j) _ hj2, hj2]
def wordD (bl : List Int) (i : Nat) : Int := bwOr .u32 (bwOr .u32 (bwOr .u32 (shl .u32 (IntKind.u32.wrap (bl.getD (4 * i) 0)) (24 : Int).toNat) (shl .u32 (IntKind.u32.wrap (bl.getD (4 * i + 1) 0)) (16 : Int).toNat)) (shl .u32 (IntKind.u32.wrap (bl.getD (4 * i + 2) 0)) (8 : Int).toNat)) (IntKind.u32.wrap (bl.getD (4 * i + 3) 0))
def schV (bl W : List Int) (n : Nat) : Int :=
  if n < 16 then wordD bl n else IntKind.u32.wrap (IntKind.u32.wrap (IntKind.u32.wrap (W.getD (n - 16) 0 + turnD (W.getD (n - 15) 0) 7 18 3 true) + W.getD (n - 7) 0) + turnD (W.getD (n - 2) 0) 17 19 10 true)
def schUp (bl : List Int) : Nat → List Int
  | 0 => List.replicate 64 0
  | n + 1 => (schUp bl n).set n (schV bl (schUp bl n) n)
theorem schUp_len (bl : List Int) : ∀ n, (schUp bl n).length = 64
  | 0 => rfl
  | n + 1 => by rw [schUp, List.length_set]; exact schUp_len bl n
theorem u32_at {h : Heap} {b E : Nat} {W : List Int} (B : Blk h b (u32s W) E) {i : Nat} (hi : i < W.length) : cellH h ⟨b, i, none⟩ = some (.int .u32 (W.getD i 0)) := by
  rw [B.cell]; simp [hi]
theorem Sched_ok {s : Slc} {bl : List Int} {k : List Int → Heap → Prop} {h : Heap} (S : SlcAt h s (b8 bl)) (l : s.len = 64) (lb : bl.length = 64) (lc : s.len ≤ s.cap) (H : ∀ h', Ext h.size h h' → k (schUp bl 64) h') : sha_schedule s k h := by
  unfold sha_schedule
  refine ⟨_, _, rfl, rfl, _, _, rfl, rfl, ?_⟩
  have P := Blk.push h (arr 64 .u32 ([] : List Int)) 125
  have W2 := Ext.push h (.cells (arr 64 .u32 ([] : List Int)).toArray 125) (Nat.le_refl _)
  have pl := P.lt
  generalize h.push (.cells (arr 64 .u32 ([] : List Int)).toArray 125) = h2 at *
  have z2 := W2.size
  have Q : Blk (h2.push (.cells (arr 64 .u32 ([] : List Int)).toArray 125)) h2.size (u32s (schUp bl 0)) 125 := Blk.push h2 (arr 64 .u32 ([] : List Int)) 125
  have W3 := Ext.push h2 (.cells (arr 64 .u32 ([] : List Int)).toArray 125) (Nat.le_refl _)
  generalize h2.push (.cells (arr 64 .u32 ([] : List Int)).toArray 125) = h4 at *
  have P4 := P.ext W3 pl
  have X4 : Ext h.size h h4 := W2.trans (W3.mono z2)
  obtain ⟨b3, eb3⟩ : ∃ y, y = h2.size := ⟨_, rfl⟩
  obtain ⟨b1, eb1⟩ : ∃ y, y = h.size := ⟨_, rfl⟩
  rw [← eb3] at Q pl z2 ⊢
  rw [← eb1] at P4 X4 pl z2 H ⊢
  clear P
  unfold sha_schedule_l1
  refine ⟨fun i h' => 0 ≤ i ∧ i ≤ 64 ∧ Blk h' b3 (u32s (schUp bl i.toNat)) 125 ∧ Blk h' b1 (arr 64 .u32 ([] : List Int)) 125 ∧ Ext b1 h h', fun i _ => (64 - i).toNat, ⟨by omega, by omega, Q, P4, X4⟩, ?_⟩
  rintro i h5 ⟨i0, i1, Q5, P5, X5⟩
  have lw := schUp_len bl i.toNat
  unfold sha_schedule_l1b
  by_cases c : i < 64
  · rw [if_pos (by rw [decide_eq_true_eq]; exact c)]
    have step : ∀ h6, Ext h5.size h5 h6 → WrH h6 ⟨b3, i.toNat, none⟩ ∧ ∀ v, v = schV bl (schUp bl i.toNat) i.toNat → sha_schedule_j2 s ⟨b1, 0, none⟩ ⟨b3, 0, none⟩ i k (fun i' h' => (0 ≤ i' ∧ i' ≤ 64 ∧ Blk h' b3 (u32s (schUp bl i'.toNat)) 125 ∧ Blk h' b1 (arr 64 .u32 ([] : List Int)) 125 ∧ Ext b1 h h') ∧ (64 - i').toNat < (64 - i).toNat) (setH h6 ⟨b3, i.toNat, none⟩ (.int .u32 v)) := fun h6 X6 => by
      have Q6 := Q5.ext X6 Q5.lt
      have P6 := P5.ext X6 P5.lt
      refine ⟨Q6.wr (by rw [List.length_map, lw]; omega), fun v hv => ?_⟩
      unfold sha_schedule_j2
      rw [wrapI64 (by omega) (by omega)]
      refine ⟨⟨by omega, by omega, ?_, P6.old (setH_other (by show b1 ≠ b3; omega)), ?_⟩, by omega⟩
      · have := Q6.set (i := i.toNat) (v := .int .u32 v)
        rw [show (i + 1).toNat = i.toNat + 1 from by omega, schUp, u32s, List.map_set, ← hv]
        exact this
      · refine X5.trans ⟨by rw [setH_size]; exact X6.size, fun j hj => ?_⟩
        rw [setH_other (by show j ≠ b3; omega)]
        exact X6.block j (by have := P5.lt; omega)
    by_cases d : i < 16
    · rw [if_pos (by rw [decide_eq_true_eq]; exact d)]
      have S5 : SlcAt h5 s (b8 bl) := S.ext (by rw [← eb1]; exact X5)
      have lbb : (b8 bl).length = 64 := by rw [List.length_map, lb]
      rw [wrapI64 (x := 4 * i) (by omega) (by omega)]
      obtain ⟨a, ha, hl, hc⟩ := sub_at (lo := (4 * i).toNat) (hi := ((s.len : Nat) : Int).toNat) (m := ((s.cap : Nat) : Int).toNat) S5 (by omega) (by omega) (by omega) (by omega)
      refine ⟨_, by omega, by omega, by omega, by omega, rfl, ?_⟩
      generalize subS s 1 (4 * i).toNat ((s.len : Nat) : Int).toNat ((s.cap : Nat) : Int).toNat = s5 at *
      have cj : ∀ j : Nat, j < 4 → cellH h5 (a.add (j * 1)) = some (.int .u8 (bl.getD (4 * i.toNat + j) 0)) := fun j hj => by
        rw [Nat.mul_one, hc j (by omega), show (4 * i).toNat + j = 4 * i.toNat + j from by omega]
        have : 4 * i.toNat + j < bl.length := by omega
        simp [this]
      refine ⟨a, ha, by omega, by omega, _, cj 0 (by omega), a, ha, by omega, by omega, _, cj 1 (by omega), a, ha, by omega, by omega, _, cj 2 (by omega), a, ha, by omega, by omega, _, cj 3 (by omega), i0, c, ?_⟩
      obtain ⟨w1, w2⟩ := step h5 (Ext.refl _ _)
      refine ⟨_, by rw [add_mk, Nat.zero_add, Nat.mul_one]; exact w1, rfl, ?_⟩
      rw [add_mk, Nat.zero_add, Nat.mul_one]
      refine w2 _ ?_
      unfold schV wordD
      rw [if_pos (by omega)]
      rfl
    · rw [if_neg (by rw [decide_eq_true_eq]; exact d)]
      rw [wrapI64 (x := i - 16) (by omega) (by omega), wrapI64 (x := i - 15) (by omega) (by omega), wrapI64 (x := i - 7) (by omega) (by omega), wrapI64 (x := i - 2) (by omega) (by omega)]
      have cj : ∀ (h6 : Heap), Ext h5.size h5 h6 → ∀ j : Nat, j ≤ i.toNat → cellH h6 ((⟨b3, 0, none⟩ : Addr).add ((i - (j : Int)).toNat * 1)) = some (.int .u32 ((schUp bl i.toNat).getD (i.toNat - j) 0)) := fun h6 X6 j hj => by
        rw [add_mk, Nat.zero_add, Nat.mul_one, u32_at (Q5.ext X6 Q5.lt) (by omega), show (i - (j : Int)).toNat = i.toNat - j from by omega]
      have X0 := Ext.refl h5.size h5
      refine ⟨by omega, by omega, _, cj h5 X0 16 (by omega), by omega, by omega, _, cj h5 X0 15 (by omega), by omega, by omega, _, cj h5 X0 7 (by omega), by omega, by omega, _, cj h5 X0 2 (by omega), Turned_ok ⟨cj h5 X0 2 (by omega), cj h5 X0 7 (by omega), cj h5 X0 16 (by omega), Turned_ok ⟨cj h5 X0 7 (by omega), cj h5 X0 16 (by omega), i0, c, ?_⟩⟩⟩
      obtain ⟨w1, w2⟩ := step h5 X0
      refine ⟨_, by rw [add_mk, Nat.zero_add, Nat.mul_one]; exact w1, rfl, ?_⟩
      rw [add_mk, Nat.zero_add, Nat.mul_one]
      refine w2 _ ?_
      unfold schV
      rw [if_neg (by omega)]
  · rw [if_neg (by rw [decide_eq_true_eq]; exact c)]
    have e : i.toNat = 64 := by omega
    rw [e] at Q5 lw
    have ea : arr 64 .u32 (schUp bl 64) = u32s (schUp bl 64) := arr_full lw
    refine ⟨schUp bl 64, by rw [ea]; exact CellsAt.of_blk Q5, _, WrsAt.of_blk P5 (by show 64 ≤ 64; omega), rfl, schUp bl 64, ?_, ?_⟩
    · exact CellsAt.of_blk (P5.sets_all (by rw [ea, List.length_map, lw]; rfl))
    · exact H _ (X5.trans (Ext.sets _ _ _ (Nat.le_refl _)))
end Go.Q.Yf
