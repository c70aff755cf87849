/- A part of the proof of statements of this seat: lemmas, no statement of their own. -/
import Derived.Test.YtcmbgfmbmbgbiaaYbVu3
import Derived.Test.YtcmbgfmbmbgbiaaYbVtC
import Derived.Test.YtcmbgfmbmbgbiaaQLs
set_option linter.unusedVariables false
set_option linter.unusedSimpArgs false
namespace Go.Q.Yb
open Go.Sort
/-! ### the sort of few numbers, and what is committed -/
def lenTab : ByteArray := ⟨#[0, 1, 2, 2, 3, 3, 3, 3, 4, 4, 4, 4, 4, 4, 4, 4, 5, 5, 5, 5, 5, 5, 5, 5, 5, 5, 5, 5, 5, 5, 5, 5, 6, 6, 6, 6, 6, 6, 6, 6, 6, 6, 6, 6, 6, 6, 6, 6, 6, 6, 6, 6, 6, 6, 6, 6, 6, 6, 6, 6, 6, 6, 6, 6, 7, 7, 7, 7, 7, 7, 7, 7, 7, 7, 7, 7, 7, 7, 7, 7, 7, 7, 7, 7, 7, 7, 7, 7, 7, 7, 7, 7, 7, 7, 7, 7, 7, 7, 7, 7, 7, 7, 7, 7, 7, 7, 7, 7, 7, 7, 7, 7, 7, 7, 7, 7, 7, 7, 7, 7, 7, 7, 7, 7, 7, 7, 7, 7, 8, 8, 8, 8, 8, 8, 8, 8, 8, 8, 8, 8, 8, 8, 8, 8, 8, 8, 8, 8, 8, 8, 8, 8, 8, 8, 8, 8, 8, 8, 8, 8, 8, 8, 8, 8, 8, 8, 8, 8, 8, 8, 8, 8, 8, 8, 8, 8, 8, 8, 8, 8, 8, 8, 8, 8, 8, 8, 8, 8, 8, 8, 8, 8, 8, 8, 8, 8, 8, 8, 8, 8, 8, 8, 8, 8, 8, 8, 8, 8, 8, 8, 8, 8, 8, 8, 8, 8, 8, 8, 8, 8, 8, 8, 8, 8, 8, 8, 8, 8, 8, 8, 8, 8, 8, 8, 8, 8, 8, 8, 8, 8, 8, 8, 8, 8, 8, 8, 8, 8, 8, 8, 8, 8, 8, 8, 8, 8]⟩
theorem lenTab_at {n : Nat} (hn : n < 256) : StrAt lenTab (n : Int) (bitsLen n : Int) := by
  have h0 : lenTab.size = 256 := by decide +kernel
  refine ⟨by omega, ?_⟩
  have key : (List.range 256).all (fun n => ((lenTab.data.getD n 0).toNat == bitsLen n)) = true := by decide +kernel
  have := List.all_eq_true.1 key n (by simpa using hn)
  rw [beq_iff_eq] at this
  have hd : n < lenTab.data.size := by show n < lenTab.size; omega
  have e : lenTab.data.getD n 0 = lenTab.data[n] := by unfold Array.getD; exact dif_pos hd
  rw [e] at this
  rw [← this]
  rfl
theorem Len_ok {n : Nat} {k : Int → Heap → Prop} {h : Heap} (hn : n < 256) (H : k (bitsLen n) h) : math_bits_Len (n : Int) k h := by
  have hb : bitsLen n ≤ 8 := by
    have key : (List.range 256).all (fun n => decide (bitsLen n ≤ 8)) = true := by decide +kernel
    have := List.all_eq_true.1 key n (by simpa using hn)
    simpa using this
  unfold math_bits_Len
  rw [if_neg (by simp)]
  unfold math_bits_Len64
  rw [if_neg (by rw [decide_eq_true_eq]; omega)]
  unfold math_bits_Len64_j1
  rw [if_neg (by rw [decide_eq_true_eq]; omega)]
  unfold math_bits_Len64_j2
  rw [if_neg (by rw [decide_eq_true_eq]; omega)]
  unfold math_bits_Len64_j3
  have e : IntKind.u8.wrap (n : Int) = n := by rw [wU8]; omega
  rw [e]
  refine ⟨_, by omega, lenTab_at hn, _, rfl, ?_⟩
  rw [wrapI64 (x := ((bitsLen n : Nat) : Int)) (by omega) (by omega), Int.zero_add, wrapI64 (by omega) (by omega)]
  exact H
section
variable {B : Nat} {h h' : Heap} {s : Slc} {d : Array Int}
theorem SortFew_ok {k : Unit → Heap → Prop} (R : U64 B h s d) (h12 : d.size ≤ 12) (H : ∀ h', U64 B h' s (insertionSort ltInt d 0 d.size) → Onl s h h' → k () h') : slices_Sort_uint64_uint64 s k h := by
  have sl := R.len
  unfold slices_Sort_uint64_uint64
  refine ⟨_, rfl, ?_⟩
  rw [wrapU64 (by omega) (by omega), sl]
  refine Len_ok (by omega) ?_
  unfold slices_pdqsortOrdered_uint64 slices_pdqsortOrdered_uint64_l1
  refine ⟨fun st h' => st.1 = 0 ∧ st.2.1 = d.size ∧ h' = h, fun _ _ => 0, ⟨rfl, rfl, rfl⟩, ?_⟩
  rintro a b lim wb wp h1 ⟨e1, e2, e3⟩
  dsimp only at e1 e2
  subst e1; subst e2; subst e3
  unfold slices_pdqsortOrdered_uint64_l1b
  refine ⟨_, rfl, ?_⟩
  rw [Int.sub_zero, wrapI64 (by omega) (by omega), if_pos (by rw [decide_eq_true_eq]; omega)]
  exact Ins_ok (a := 0) R (by omega) (Nat.le_refl _) (by omega) H
theorem VHalf_ok {p : Int} {k : Int → Heap → Prop} (p0 : 0 ≤ p) (p1 : p < 9223372036854775808) (H : k (p / 2 + 1) h) : vote_Half p k h := by
  unfold vote_Half
  have e : shr .i64 (if 0 > p then 0 else p) (1 : Int).toNat = p / 2 := by
    rw [if_neg (by omega)]
    unfold shr
    rw [show (2 : Int) ^ (min (1 : Int).toNat IntKind.i64.bits) = 2 from rfl, Int.fdiv_eq_ediv_of_nonneg _ (by omega)]
  rw [e, wrapI64 (by omega) (by omega)]
  exact ⟨_, rfl, H⟩
theorem CommitFew_ok {zs : List Int} {k : Int → Heap → Prop} (S : SlcAt h s (u8s zs)) (sl : s.len = zs.length) (z0 : 0 < zs.length) (z12 : zs.length ≤ 12)
    (H : ∀ h', Ext h.size h h' → k ((insertionSort ltInt zs.toArray 0 zs.length)[zs.length - (zs.length / 2 + 1)]!) h') : vote_Commit s k h := by
  unfold vote_Commit
  rw [if_neg (by rw [beq_iff_eq]; omega)]
  unfold slices_Values_uint64_uint64
  have X1 := Ext.push h (.cells #[Slc.v s] 82) (Nat.le_refl h.size)
  have P := Blk.push h [Slc.v s] 82
  have z1 := X1.size
  change Blk (h.push (.cells #[Slc.v s] 82)) h.size [Slc.v s] 82 at P
  generalize h.push (.cells #[Slc.v s] 82) = h1 at *
  unfold slices_Sorted_uint64
  refine ⟨h.size, s, zs, rfl, by rw [P.cell]; rfl, sl, S.ext X1, z0, by omega, fun s2 h2 R2 l2 X2 => ?_⟩
  have R2' : U64 h1.size h2 s2 zs.toArray := by unfold U64; simpa using R2
  have z2 := X2.size
  refine SortFew_ok R2' (by simpa using z12) fun h3 R3 O3 => ?_
  have X3 := O3.ext R2' z2
  replace R3 : U64 h1.size h3 s2 (insertionSort ltInt zs.toArray 0 zs.length) := R3
  have l3 := R3.len
  have dz : (insertionSort ltInt zs.toArray 0 zs.length).size = zs.length := by rw [← l3, l2]
  show vote_Half (s2.len : Int) _ h3
  rw [l2]
  refine VHalf_ok (by omega) (by omega) ?_
  rw [wrapI64 (by omega) (by omega)]
  obtain ⟨g, ha, hc⟩ := R3.ld (i := zs.length - (zs.length / 2 + 1)) (by omega)
  have ei : ((zs.length : Int) - ((zs.length : Int) / 2 + 1)).toNat = zs.length - (zs.length / 2 + 1) := by omega
  refine ⟨_, ha, by omega, by omega, _, by rw [add_mk, Nat.zero_add, Nat.mul_one, ei]; exact hc, ?_⟩
  exact H h3 (X1.trans ((X2.trans X3).mono z1))
end
theorem ins3 : (insertionSort ltInt [5, 3, 9].toArray 0 3)[1]! = 5 := by decide +kernel
theorem ins4 : (insertionSort ltInt [5, 3, 9, 1].toArray 0 4)[1]! = 3 := by decide +kernel
theorem awake24_ok {k : Bool → Heap → Prop} {h : Heap} (H : ∀ h', Ext h.size h h' → k true h') : law24_awake k h := by
  unfold law24_awake
  refine ⟨_, _, rfl, rfl, ?_⟩
  have X1 := Ext.push h (.cells ([.int .u64 5, .int .u64 3, .int .u64 9] : List Value).toArray 22) (Nat.le_refl h.size)
  have P := Blk.push h ([.int .u64 5, .int .u64 3, .int .u64 9] : List Value) 22
  have z1 := X1.size
  generalize h.push (.cells ([.int .u64 5, .int .u64 3, .int .u64 9] : List Value).toArray 22) = h1 at *
  refine CommitFew_ok (zs := [5, 3, 9]) (P.slc (o := 0) (n := 3) rfl) rfl (by decide) (by decide) fun h2 X2 => ?_
  have e3 : (insertionSort ltInt [5, 3, 9].toArray 0 ([5, 3, 9] : List Int).length)[([5, 3, 9] : List Int).length - (([5, 3, 9] : List Int).length / 2 + 1)]! = 5 := ins3
  rw [e3, if_pos (by decide)]
  have X02 := X1.trans (X2.mono z1)
  refine ⟨_, _, rfl, rfl, ?_⟩
  have X3 := Ext.push h2 (.cells ([.int .u64 5, .int .u64 3, .int .u64 9, .int .u64 1] : List Value).toArray 22) (Nat.le_refl h2.size)
  have Q := Blk.push h2 ([.int .u64 5, .int .u64 3, .int .u64 9, .int .u64 1] : List Value) 22
  have z3 := X3.size
  generalize h2.push (.cells ([.int .u64 5, .int .u64 3, .int .u64 9, .int .u64 1] : List Value).toArray 22) = h3 at *
  refine CommitFew_ok (zs := [5, 3, 9, 1]) (Q.slc (o := 0) (n := 4) rfl) rfl (by decide) (by decide) fun h4 X4 => ?_
  have e4 : (insertionSort ltInt [5, 3, 9, 1].toArray 0 ([5, 3, 9, 1] : List Int).length)[([5, 3, 9, 1] : List Int).length - (([5, 3, 9, 1] : List Int).length / 2 + 1)]! = 3 := ins4
  rw [e4]
  unfold law24_awake_g1
  exact H h4 (X02.trans ((X3.trans (X4.mono z3)).mono X02.size))
/-! ### a ballot -/
section
variable {h : Heap} {b : Nat} {n : Int} {y : Nat}
abbrev BalAt (h : Heap) (b : Nat) (n : Int) (y : Nat) : Prop := Blk h b (S_vote_Ballot.cs ⟨n, (y : Int)⟩) 192
theorem Yes_ok {p : Int} {k : Bool → Heap → Prop} (T : BalAt h b n y) (n0 : 0 ≤ n) (n1 : n ≤ 32) (hy : y < 2 ^ n.toNat) (hp : p < 9223372036854775808)
    (H1 : 0 ≤ p → p < n → y / 2 ^ p.toNat % 2 = 0 → ∀ h', BalAt h' b n (y + 2 ^ p.toNat) → Upd b h h' → k true h') (H2 : (0 ≤ p → p < n → y / 2 ^ p.toNat % 2 = 1) → k false h) : vote_Ballot_Yes (some ⟨b, 0, none⟩) p k h := by
  have y64 : y < 4294967296 := Nat.lt_of_lt_of_le hy (by rw [show (4294967296 : Nat) = 2 ^ 32 from rfl]; exact Nat.pow_le_pow_right (by omega) (by omega))
  have c0 : cellH h ⟨b, 0, none⟩ = some (.int .i64 n) := by rw [T.cell]; rfl
  have c1 : cellH h ((⟨b, 0, none⟩ : Addr).add 1) = some (.int .u64 (y : Int)) := by rw [add_mk, T.cell]; rfl
  unfold vote_Ballot_Yes
  rw [show ((some (⟨b, 0, none⟩ : Addr)).isNone || decide (p < 0)) = decide (p < 0) from rfl]
  by_cases p0 : p < 0
  · rw [if_pos (decide_eq_true p0)]
    unfold vote_Ballot_Yes_g1 vote_Ballot_Yes_g2
    rw [if_pos rfl, if_pos rfl]
    exact H2 fun h => by omega
  rw [if_neg (by rw [decide_eq_true_eq]; exact p0)]
  refine ⟨_, rfl, n, c0, ?_⟩
  unfold vote_Ballot_Yes_g1
  by_cases pn : p ≥ n
  · rw [if_pos (decide_eq_true pn)]
    unfold vote_Ballot_Yes_g2
    rw [if_pos rfl]
    exact H2 fun _ h => by omega
  rw [if_neg (by rw [decide_eq_true_eq]; exact pn)]
  have ew : IntKind.u64.wrap p = p := wrapU64 (by omega) (by omega)
  refine ⟨_, rfl, _, c1, by rw [ew]; omega, ?_⟩
  rw [ew, shrN (n := p.toNat) (by omega)]
  have eb : bwAnd .u64 ((y / 2 ^ p.toNat : Nat) : Int) 1 = ((y / 2 ^ p.toNat % 2 : Nat) : Int) := by
    have := bwAnd64 (a := y / 2 ^ p.toNat) (b := 1) (Nat.lt_of_le_of_lt (Nat.div_le_self _ _) (by omega)) (by omega)
    rw [Nat.and_one_is_mod] at this
    exact this
  rw [eb]
  unfold vote_Ballot_Yes_g2
  by_cases hb : y / 2 ^ p.toNat % 2 = 1
  · rw [if_pos (by rw [beq_iff_eq]; omega)]
    exact H2 fun _ _ => hb
  · rw [if_neg (by rw [beq_iff_eq]; omega)]
    have hb0 : y / 2 ^ p.toNat % 2 = 0 := by omega
    refine ⟨_, rfl, _, c1, by rw [ew]; omega, _, by rw [add_mk]; exact T.wr (by show 0 + 1 < 2; omega), rfl, ?_⟩
    rw [ew]
    have es : shl .u64 1 p.toNat = ((2 ^ p.toNat : Nat) : Int) := by
      have h2 : (2 : Nat) ^ p.toNat ≤ 2 ^ 32 := Nat.pow_le_pow_right (by omega) (by omega)
      unfold shl
      rw [show min p.toNat IntKind.u64.bits = p.toNat from Nat.min_eq_left (by show p.toNat ≤ 64; omega), Int.one_mul]
      have : ((2 : Int) ^ p.toNat) = ((2 ^ p.toNat : Nat) : Int) := by simp
      rw [this]
      generalize 2 ^ p.toNat = P at h2 ⊢
      rw [wrapU64 (by omega) (by omega)]
    have h2 : (2 : Nat) ^ p.toNat ≤ 2 ^ 32 := Nat.pow_le_pow_right (by omega) (by omega)
    rw [es, bwOr64v (by omega) (by omega), or_set _ _ hb0]
    rw [show (⟨b, 0, none⟩ : Addr).add 1 = ⟨b, 1, none⟩ from by simp]
    exact H1 (by omega) (by omega) hb0 _ T.set ⟨by rw [setH_size]; exact Nat.le_refl _, fun i _ hi => setH_other hi⟩
theorem Count_ok {k : Int → Heap → Prop} (T : BalAt h b n y) (n1 : n ≤ 32) (hy : y < 2 ^ n.toNat) (H : k (pcR 32 y) h) : vote_Ballot_Count (some ⟨b, 0, none⟩) k h := by
  have y64 : y < 4294967296 := Nat.lt_of_lt_of_le hy (by rw [show (4294967296 : Nat) = 2 ^ 32 from rfl]; exact Nat.pow_le_pow_right (by omega) (by omega))
  unfold vote_Ballot_Count
  rw [if_neg (by simp)]
  exact ⟨_, rfl, _, by rw [add_mk, T.cell]; rfl, Ones_ok y64 H⟩
theorem Won_ok {k : Bool → Heap → Prop} (T : BalAt h b n y) (n0 : 0 ≤ n) (n1 : n ≤ 32) (hy : y < 2 ^ n.toNat) (H : k (decide (((pcR 32 y : Nat) : Int) ≥ n / 2 + 1)) h) : vote_Ballot_Won (some ⟨b, 0, none⟩) k h := by
  unfold vote_Ballot_Won
  rw [if_pos (by simp)]
  have c0 : cellH h ⟨b, 0, none⟩ = some (.int .i64 n) := by rw [T.cell]; rfl
  refine ⟨_, rfl, _, c0, Count_ok T n1 hy ⟨c0, VHalf_ok n0 (by omega) ?_⟩⟩
  unfold vote_Ballot_Won_j1
  exact H
theorem VNew_ok {p : Int} {k : Option Addr → Heap → Prop} (H : ∀ b h' m, m = (if p < 0 then 0 else if p < 32 then p else 32) → BalAt h' b m 0 → h.size ≤ b → Ext h.size h h' → k (some ⟨b, 0, none⟩) h') : vote_New p k h := by
  unfold vote_New
  refine ⟨_, _, rfl, rfl, ?_⟩
  exact H h.size _ _ (by split <;> split <;> (try split) <;> (try split) <;> omega) (Blk.push h _ 192) (Nat.le_refl _) (Ext.push h _ (Nat.le_refl _))
end
end Go.Q.Yb
