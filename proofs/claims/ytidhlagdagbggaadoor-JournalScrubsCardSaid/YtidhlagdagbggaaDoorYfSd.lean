/- A part of the proof of statements of this seat: lemmas, no statement of their own. -/
import Derived.Test.YtidhlagdagbggaaDoorYfSc
set_option linter.unusedVariables false
set_option linter.unusedSimpArgs false
set_option maxRecDepth 100000
/- Slot: the fingerprint of bytes. -/
namespace Go.Q.Yf
theorem and63 {n : Nat} (h : n < 1000000) : bwAnd .i64 (n : Int) 63 = ((n % 64 : Nat) : Int) := by
  have e : (BitVec.ofInt 64 (n : Int) &&& BitVec.ofInt 64 63).toNat = n % 64 := by
    rw [BitVec.toNat_and]
    have e1 : (BitVec.ofInt 64 (n : Int)).toNat = n := by simp; omega
    have e2 : (BitVec.ofInt 64 63).toNat = 63 := by decide
    rw [e1, e2]
    exact Nat.and_two_pow_sub_one_eq_mod n 6
  show IntKind.i64.wrap (((BitVec.ofInt 64 (n : Int) &&& BitVec.ofInt 64 63).toNat : Nat) : Int) = _
  rw [e]
  have := Nat.mod_lt n (show 64 > 0 by omega)
  exact wrapI64 (by omega) (by omega)
def sizeD (n : Nat) : Int := shl .u64 (IntKind.u64.wrap (n : Int)) (3 : Int).toNat
def lenB (z : Int) : List Int := [56, 48, 40, 32, 24, 16, 8, 0].map fun i => IntKind.u8.wrap (shr .u64 z (IntKind.u64.wrap i).toNat)
def padN (n : Nat) : Nat := (119 - n % 64) % 64
def padD (bs : List Int) : List Int := bs ++ [128] ++ List.replicate (padN bs.length) 0 ++ lenB (sizeD bs.length)
theorem padD_len (bs : List Int) : ∃ c, (padD bs).length = 64 * (c + 1) := by
  refine ⟨(bs.length + 9 + padN bs.length) / 64 - 1, ?_⟩
  unfold padD
  rw [List.length_append, List.length_append, List.length_append, List.length_replicate]
  show bs.length + 1 + padN bs.length + 8 = _
  unfold padN; omega
def startL : List Int := [1779033703, 3144134277, 1013904242, 2773480762, 1359893119, 2600822924, 528734635, 1541459225]
def blkUp (M : List Int) : Nat → List Int
  | 0 => startL
  | n + 1 => stepD (blkUp M n) ((M.drop (64 * n)).take 64)
theorem blkUp_len (M : List Int) : ∀ n, (blkUp M n).length = 8
  | 0 => rfl
  | n + 1 => step_len (blkUp_len M n)
def outV (H : List Int) (i : Int) : Int := IntKind.u8.wrap (shr .u32 (H.getD (shr .i64 i (2 : Int).toNat).toNat 0) (IntKind.u64.wrap (24 - IntKind.u64.wrap (8 * bwAnd .u64 (IntKind.u64.wrap i) 3))).toNat)
def outUp (H : List Int) : Nat → List Int
  | 0 => List.replicate 32 0
  | n + 1 => (outUp H n).set n (outV H n)
theorem outUp_len (H : List Int) : ∀ n, (outUp H n).length = 32
  | 0 => rfl
  | n + 1 => by rw [outUp, List.length_set]; exact outUp_len H n
def shaD (bs : List Int) : List Int := outUp (blkUp (padD bs) ((padD bs).length / 64)) 32
theorem shaD_len (bs : List Int) : (shaD bs).length = 32 := outUp_len _ _
theorem shaD_B (bs : List Int) : ∀ b ∈ shaD bs, 0 ≤ b ∧ b < 256 := by
  have g : ∀ (H : List Int) n, ∀ b ∈ outUp H n, 0 ≤ b ∧ b < 256 := fun H n => by
    induction n with
    | zero => intro b hb; have := (List.mem_replicate.1 hb).2; omega
    | succ n ih =>
      intro b hb
      rcases List.mem_or_eq_of_mem_set hb with h | h
      · exact ih b h
      · rw [h]; unfold outV IntKind.wrap; simp [IntKind.signed, IntKind.bits]; omega
  exact g _ _
theorem Start_ok {k : List Int → Heap → Prop} {h : Heap} (H : ∀ h', Ext h.size h h' → k startL h') : sha_start k h := by
  unfold sha_start
  refine ⟨_, _, rfl, rfl, ?_⟩
  have P := Blk.push h (arr 8 .u32 ([] : List Int)) 110
  have W := Ext.push h (.cells (arr 8 .u32 ([] : List Int)).toArray 110) (Nat.le_refl _)
  generalize h.push (.cells (arr 8 .u32 ([] : List Int)).toArray 110) = h2 at *
  refine ⟨_, WrsAt.of_blk P (by show 8 ≤ 8; omega), rfl, startL, CellsAt.of_blk (P.sets_all rfl), ?_⟩
  exact H _ (W.trans (Ext.sets _ _ _ (Nat.le_refl _)))
theorem shr2 {i : Int} (h0 : 0 ≤ i) : shr .i64 i (2 : Int).toNat = i / 4 := by
  unfold shr
  rw [show (2 : Int) ^ (min (2 : Int).toNat IntKind.i64.bits) = 4 from rfl, Int.fdiv_eq_ediv_of_nonneg _ (by omega)]
/-- the words are told as bytes -/
theorem Out_ok {b2 b6 b7 : Nat} {Hs : List Int} {B : Nat} {h0 h : Heap} {k : List Int → Heap → Prop} {nx1 : Slc → Heap → Prop} {nx2 : Slc × Int → Heap → Prop} {nx3 : Slc → Heap → Prop} (P2 : Blk h b2 (arr 32 .u8 ([] : List Int)) 92) (P6 : Blk h b6 (u32s Hs) 110) (P7 : Blk h b7 (arr 32 .u8 ([] : List Int)) 92)
    (d : b2 ≠ b6 ∧ b2 ≠ b7 ∧ b6 ≠ b7) (Bb : B ≤ b2 ∧ B ≤ b7) (lH : Hs.length = 8) (X : Ext B h0 h) (H : ∀ h', Ext B h0 h' → k (outUp Hs 32) h') : sha_Of_l4 ⟨b2, 0, none⟩ ⟨b6, 0, none⟩ ⟨b7, 0, none⟩ 0 k nx1 nx2 nx3 h := by
  unfold sha_Of_l4
  have P7' : Blk h b7 (b8 (outUp Hs 0)) 92 := P7
  refine ⟨fun i h' => 0 ≤ i ∧ i ≤ 32 ∧ Blk h' b2 (arr 32 .u8 ([] : List Int)) 92 ∧ Blk h' b6 (u32s Hs) 110 ∧ Blk h' b7 (b8 (outUp Hs i.toNat)) 92 ∧ Ext B h0 h', fun i _ => (32 - i).toNat, ⟨by omega, by omega, P2, P6, P7', X⟩, ?_⟩
  rintro i h1 ⟨i0, i1, Q2, Q6, Q7, X1⟩
  have lo := outUp_len Hs i.toNat
  unfold sha_Of_l4b
  by_cases c : i < 32
  · rw [if_pos (by rw [decide_eq_true_eq]; exact c)]
    have e2 := shr2 i0
    refine ⟨by omega, by omega, Hs.getD (shr .i64 i (2 : Int).toNat).toNat 0, by rw [add_mk, Nat.zero_add, Nat.mul_one]; exact u32_at Q6 (by omega), nn64 _, i0, c, _, by rw [add_mk, Nat.zero_add, Nat.mul_one]; exact Q7.wr (by rw [List.length_map]; omega), rfl, ?_⟩
    rw [add_mk, Nat.zero_add, Nat.mul_one, wrapI64 (by omega) (by omega)]
    refine ⟨⟨by omega, by omega, Q2.old (setH_other d.2.1), Q6.old (setH_other d.2.2), ?_, X1.trans (Ext.set _ _ Bb.2)⟩, by dsimp only; omega⟩
    rw [show (i + 1).toNat = i.toNat + 1 from by omega, outUp, b8, List.map_set]
    have := Q7.set (i := i.toNat) (v := .int .u8 (outV Hs i))
    rw [show ((i.toNat : Nat) : Int) = i from by omega]
    exact this
  · rw [if_neg (by rw [decide_eq_true_eq]; exact c)]
    rw [show i.toNat = 32 from by omega] at Q7 lo
    have ea : arr 32 .u8 (outUp Hs 32) = b8 (outUp Hs 32) := arr_full lo
    refine ⟨outUp Hs 32, by rw [ea]; exact CellsAt.of_blk Q7, _, WrsAt.of_blk Q2 (by show 32 ≤ 32; omega), rfl, outUp Hs 32, CellsAt.of_blk (Q2.sets_all (by rw [ea, List.length_map, lo]; rfl)), ?_⟩
    exact H _ (X1.trans (Ext.sets _ _ _ Bb.1))
attribute [irreducible] shaD
end Go.Q.Yf
