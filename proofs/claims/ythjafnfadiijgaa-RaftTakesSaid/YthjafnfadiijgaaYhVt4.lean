/- A part of the proof of statements of this seat: lemmas, no statement of their own. -/
import Derived.Test.YthjafnfadiijgaaYhVt3
import Derived.Test.YthjafnfadiijgaaYhVtC
import Derived.Test.YthjafnfadiijgaaYhVtJ
import Derived.Test.YthjafnfadiijgaaQLs
import Derived.Test.YthjafnfadiijgaaQArgA
set_option linter.unusedVariables false
set_option linter.unusedSimpArgs false
set_option maxHeartbeats 1000000
namespace Go.Q.Yh
open Go.Sort
section
variable {B : Nat} {h h' : Heap} {s : Slc} {d : Array Int}
theorem Sort_ok {k : Unit → Heap → Prop} (R : U64 B h s d) (hz : d.size ≤ 32) (H : ∀ d' h', U64 B h' s d' → PermIn 0 d.size d d' → SortedIn ltInt 0 d.size d' → Onl s h h' → k () h') : slices_Sort_uint64_uint64 s k h := by
  have sl := R.len
  unfold slices_Sort_uint64_uint64
  refine ⟨_, rfl, ?_⟩
  rw [wrapU64 (by omega) (by omega), sl]
  refine Len_ok (by omega) ?_
  have hb : bitsLen d.size ≤ 8 := by
    have key : (List.range 33).all (fun n => decide (bitsLen n ≤ 8)) = true := by decide +kernel
    have := List.all_eq_true.1 key d.size (by simp; omega)
    simpa using this
  exact Pdq_ok (pdqQ 40) (N := 40) (pdqQ_ok 40) (by omega) ⟨B, d, 0, d.size, R, rfl, rfl, Nat.zero_le _, Nat.le_refl _, hz, .inl rfl, ⟨by omega, by omega⟩, H⟩
theorem WHalf_ok {p : Int} {k : Int → Heap → Prop} (p0 : 0 ≤ p) (p1 : p < 9223372036854775808) (H : k (p / 2 + 1) h) : vote_Half p k h := by
  unfold vote_Half
  have e : shr .i64 (if 0 > p then 0 else p) (1 : Int).toNat = p / 2 := by
    rw [if_neg (by omega)]
    unfold shr
    rw [show (2 : Int) ^ (min (1 : Int).toNat IntKind.i64.bits) = 2 from rfl, Int.fdiv_eq_ediv_of_nonneg _ (by omega)]
  rw [e, wrapI64 (by omega) (by omega)]
  exact ⟨_, rfl, H⟩
theorem n64_at {zs : List Int} {i : Int} (S : SlcAt h s (u8s zs)) (sl : s.len = zs.length) (i0 : 0 ≤ i) {v : Int} (hx : zs[i.toNat]? = some v) :
    ∃ a : Addr, s.a = some a ∧ (0 : Int) ≤ i ∧ i < (s.len : Int) ∧ cellH h (a.add (i.toNat * 1)) = some (.int .u64 v) := by
  have i1 := (List.getElem?_eq_some_iff.1 hx).1
  cases ha : s.a with
  | none =>
    have e : zs = [] := List.map_eq_nil_iff.1 (S.1 ha)
    rw [e] at i1; simp at i1
  | some a =>
    refine ⟨a, rfl, i0, by omega, ?_⟩
    rw [Nat.mul_one]
    exact S.2 a ha i.toNat _ (by unfold u8s; rw [List.getElem?_map, hx]; rfl)
theorem Commit_ok {zs : List Int} {k : Int → Heap → Prop} (S : SlcAt h s (u8s zs)) (sl : s.len = zs.length) (hz : zs.length ≤ 32)
    (H : ∀ c h', Cm zs c → Ext h.size h h' → k c h') : vote_Commit s k h := by
  unfold vote_Commit
  by_cases z0 : zs.length = 0
  · rw [if_pos (by rw [beq_iff_eq]; omega)]
    exact H 0 h (.inl ⟨List.eq_nil_of_length_eq_zero z0, rfl⟩) (Ext.refl _ _)
  rw [if_neg (by rw [beq_iff_eq]; omega)]
  unfold slices_Values_uint64_uint64
  have X1 := Ext.push h (.cells #[Slc.v s] 81) (Nat.le_refl h.size)
  have P := Blk.push h [Slc.v s] 81
  have z1 := X1.size
  change Blk (h.push (.cells #[Slc.v s] 81)) h.size [Slc.v s] 81 at P
  generalize h.push (.cells #[Slc.v s] 81) = h1 at *
  unfold slices_Sorted_uint64
  refine ⟨h.size, s, zs, rfl, by rw [P.cell]; rfl, sl, S.ext X1, by omega, by omega, fun s2 h2 R2 l2 X2 => ?_⟩
  have R2' : U64 h1.size h2 s2 zs.toArray := by unfold U64; simpa using R2
  have z2 := X2.size
  have zl : zs.toArray.size = zs.length := List.size_toArray
  refine Sort_ok R2' (by omega) fun d' h3 R3 P3 S3 O3 => ?_
  have X3 := O3.ext R2' z2
  have l3 := R3.len
  have dz : d'.size = zs.length := by rw [← l3, l2]
  show vote_Half (s2.len : Int) _ h3
  rw [l2]
  refine WHalf_ok (by omega) (by omega) ?_
  rw [wrapI64 (by omega) (by omega)]
  obtain ⟨g, ha, hc⟩ := R3.ld (i := zs.length - (zs.length / 2 + 1)) (by omega)
  have ei : ((zs.length : Int) - ((zs.length : Int) / 2 + 1)).toNat = zs.length - (zs.length / 2 + 1) := by omega
  refine ⟨_, ha, by omega, by omega, _, by rw [add_mk, Nat.zero_add, Nat.mul_one, ei]; exact hc, ?_⟩
  refine H _ h3 (Cm.of (by omega) dz (by have := perm_of rfl P3; simpa using this) fun i j hij hj => mono_of dz (by rw [zl] at S3; exact S3) hij hj) (X1.trans ((X2.trans X3).mono z1))
end
/-! ### a ballot -/
section
variable {h : Heap} {b : Nat} {n : Int} {y : Nat}
abbrev BalAt (h : Heap) (b : Nat) (n : Int) (y : Nat) : Prop := Blk h b (S_vote_Ballot.cs ⟨n, (y : Int)⟩) 123
theorem Yes_ok {p : Int} {k : Bool → Heap → Prop} (T : BalAt h b n y) (n0 : 0 ≤ n) (n1 : n ≤ 32) (hy : y < 2 ^ n.toNat) (hp : p < 9223372036854775808)
    (H1 : 0 ≤ p → p < n → y / 2 ^ p.toNat % 2 = 0 → ∀ h', BalAt h' b n (y + 2 ^ p.toNat) → Upd b h h' → k true h') (H2 : (0 ≤ p → p < n → y / 2 ^ p.toNat % 2 = 1) → k false h) : vote_Ballot_Yes (some ⟨b, 0, none⟩) p k h := by
  have y64 : y < 4294967296 := Nat.lt_of_lt_of_le hy (by rw [show (4294967296 : Nat) = 2 ^ 32 from rfl]; exact Nat.pow_le_pow_right (by omega) (by omega))
  have c0 : cellH h ⟨b, 0, none⟩ = some (.int .i64 n) := by rw [T.cell]; rfl
  have c1 : cellH h ((⟨b, 0, none⟩ : Addr).add 1) = some (.int .u64 (y : Int)) := by rw [add_mk, T.cell]; rfl
  unfold vote_Ballot_Yes
  rw [show ((some (⟨b, 0, none⟩ : Addr)).isNone || decide (p < 0)) = decide (p < 0) from rfl]
  by_cases p0 : p < 0
  · rw [if_pos (decide_eq_true p0)]
    unfold vote_Ballot_Yes_g1 vote_Ballot_Yes_g2
    rw [if_pos rfl, if_pos rfl]
    exact H2 fun h => by omega
  rw [if_neg (by rw [decide_eq_true_eq]; exact p0)]
  refine ⟨_, rfl, n, c0, ?_⟩
  unfold vote_Ballot_Yes_g1
  by_cases pn : p ≥ n
  · rw [if_pos (decide_eq_true pn)]
    unfold vote_Ballot_Yes_g2
    rw [if_pos rfl]
    exact H2 fun _ h => by omega
  rw [if_neg (by rw [decide_eq_true_eq]; exact pn)]
  have ew : IntKind.u64.wrap p = p := wrapU64 (by omega) (by omega)
  refine ⟨_, rfl, _, c1, by rw [ew]; omega, ?_⟩
  rw [ew, shrN (n := p.toNat) (by omega)]
  have eb : bwAnd .u64 ((y / 2 ^ p.toNat : Nat) : Int) 1 = ((y / 2 ^ p.toNat % 2 : Nat) : Int) := by
    have := bwAnd64 (a := y / 2 ^ p.toNat) (b := 1) (Nat.lt_of_le_of_lt (Nat.div_le_self _ _) (by omega)) (by omega)
    rw [Nat.and_one_is_mod] at this
    exact this
  rw [eb]
  unfold vote_Ballot_Yes_g2
  by_cases hb : y / 2 ^ p.toNat % 2 = 1
  · rw [if_pos (by rw [beq_iff_eq]; omega)]
    exact H2 fun _ _ => hb
  · rw [if_neg (by rw [beq_iff_eq]; omega)]
    have hb0 : y / 2 ^ p.toNat % 2 = 0 := by omega
    refine ⟨_, rfl, _, c1, by rw [ew]; omega, _, by rw [add_mk]; exact T.wr (by show 0 + 1 < 2; omega), rfl, ?_⟩
    rw [ew]
    have es : shl .u64 1 p.toNat = ((2 ^ p.toNat : Nat) : Int) := by
      have h2 : (2 : Nat) ^ p.toNat ≤ 2 ^ 32 := Nat.pow_le_pow_right (by omega) (by omega)
      unfold shl
      rw [show min p.toNat IntKind.u64.bits = p.toNat from Nat.min_eq_left (by show p.toNat ≤ 64; omega), Int.one_mul]
      have : ((2 : Int) ^ p.toNat) = ((2 ^ p.toNat : Nat) : Int) := by simp
      rw [this]
      generalize 2 ^ p.toNat = P at h2 ⊢
      rw [wrapU64 (by omega) (by omega)]
    have h2 : (2 : Nat) ^ p.toNat ≤ 2 ^ 32 := Nat.pow_le_pow_right (by omega) (by omega)
    rw [es, bwOr64v (by omega) (by omega), or_set _ _ hb0]
    rw [show (⟨b, 0, none⟩ : Addr).add 1 = ⟨b, 1, none⟩ from by simp]
    exact H1 (by omega) (by omega) hb0 _ T.set ⟨by rw [setH_size]; exact Nat.le_refl _, fun i _ hi => setH_other hi⟩
theorem Count_ok {k : Int → Heap → Prop} (T : BalAt h b n y) (n1 : n ≤ 32) (hy : y < 2 ^ n.toNat) (H : k (pcR 32 y) h) : vote_Ballot_Count (some ⟨b, 0, none⟩) k h := by
  have y64 : y < 4294967296 := Nat.lt_of_lt_of_le hy (by rw [show (4294967296 : Nat) = 2 ^ 32 from rfl]; exact Nat.pow_le_pow_right (by omega) (by omega))
  unfold vote_Ballot_Count
  rw [if_neg (by simp)]
  exact ⟨_, rfl, _, by rw [add_mk, T.cell]; rfl, Ones_ok y64 H⟩
theorem Won_ok {k : Bool → Heap → Prop} (T : BalAt h b n y) (n0 : 0 ≤ n) (n1 : n ≤ 32) (hy : y < 2 ^ n.toNat) (H : k (decide (((pcR 32 y : Nat) : Int) ≥ n / 2 + 1)) h) : vote_Ballot_Won (some ⟨b, 0, none⟩) k h := by
  unfold vote_Ballot_Won
  rw [if_pos (by simp)]
  have c0 : cellH h ⟨b, 0, none⟩ = some (.int .i64 n) := by rw [T.cell]; rfl
  refine ⟨_, rfl, _, c0, Count_ok T n1 hy ⟨c0, WHalf_ok n0 (by omega) ?_⟩⟩
  unfold vote_Ballot_Won_j1
  exact H
theorem VNew_ok {p : Int} {k : Option Addr → Heap → Prop} (H : ∀ b h' m, m = (if p < 0 then 0 else if p < 32 then p else 32) → BalAt h' b m 0 → h.size ≤ b → Ext h.size h h' → k (some ⟨b, 0, none⟩) h') : vote_New p k h := by
  unfold vote_New
  refine ⟨_, _, rfl, rfl, ?_⟩
  exact H h.size _ _ (by split <;> split <;> (try split) <;> (try split) <;> omega) (Blk.push h _ 123) (Nat.le_refl _) (Ext.push h _ (Nat.le_refl _))
end
end Go.Q.Yh
