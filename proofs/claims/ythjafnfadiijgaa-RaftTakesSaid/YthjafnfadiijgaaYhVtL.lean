/- A part of the proof of statements of this seat: lemmas, no statement of their own. -/
import Derived.Test.YthjafnfadiijgaaYhVtB
import Derived.Test.YthjafnfadiijgaaYhVtC
set_option linter.unusedVariables false
set_option linter.unusedSimpArgs false
namespace Go.Q.Yh
open Go.Sort
def lenTab : ByteArray := ⟨#[0, 1, 2, 2, 3, 3, 3, 3, 4, 4, 4, 4, 4, 4, 4, 4, 5, 5, 5, 5, 5, 5, 5, 5, 5, 5, 5, 5, 5, 5, 5, 5, 6, 6, 6, 6, 6, 6, 6, 6, 6, 6, 6, 6, 6, 6, 6, 6, 6, 6, 6, 6, 6, 6, 6, 6, 6, 6, 6, 6, 6, 6, 6, 6, 7, 7, 7, 7, 7, 7, 7, 7, 7, 7, 7, 7, 7, 7, 7, 7, 7, 7, 7, 7, 7, 7, 7, 7, 7, 7, 7, 7, 7, 7, 7, 7, 7, 7, 7, 7, 7, 7, 7, 7, 7, 7, 7, 7, 7, 7, 7, 7, 7, 7, 7, 7, 7, 7, 7, 7, 7, 7, 7, 7, 7, 7, 7, 7, 8, 8, 8, 8, 8, 8, 8, 8, 8, 8, 8, 8, 8, 8, 8, 8, 8, 8, 8, 8, 8, 8, 8, 8, 8, 8, 8, 8, 8, 8, 8, 8, 8, 8, 8, 8, 8, 8, 8, 8, 8, 8, 8, 8, 8, 8, 8, 8, 8, 8, 8, 8, 8, 8, 8, 8, 8, 8, 8, 8, 8, 8, 8, 8, 8, 8, 8, 8, 8, 8, 8, 8, 8, 8, 8, 8, 8, 8, 8, 8, 8, 8, 8, 8, 8, 8, 8, 8, 8, 8, 8, 8, 8, 8, 8, 8, 8, 8, 8, 8, 8, 8, 8, 8, 8, 8, 8, 8, 8, 8, 8, 8, 8, 8, 8, 8, 8, 8, 8, 8, 8, 8, 8, 8, 8, 8, 8, 8]⟩
theorem lenTab_at {n : Nat} (hn : n < 256) : StrAt lenTab (n : Int) (bitsLen n : Int) := by
  have h0 : lenTab.size = 256 := by decide +kernel
  refine ⟨by omega, ?_⟩
  have key : (List.range 256).all (fun n => ((lenTab.data.getD n 0).toNat == bitsLen n)) = true := by decide +kernel
  have := List.all_eq_true.1 key n (by simpa using hn)
  rw [beq_iff_eq] at this
  have hd : n < lenTab.data.size := by show n < lenTab.size; omega
  have e : lenTab.data.getD n 0 = lenTab.data[n] := by unfold Array.getD; exact dif_pos hd
  rw [e] at this
  rw [← this]
  rfl
theorem Len_ok {n : Nat} {k : Int → Heap → Prop} {h : Heap} (hn : n < 256) (H : k (bitsLen n) h) : math_bits_Len (n : Int) k h := by
  have hb : bitsLen n ≤ 8 := by
    have key : (List.range 256).all (fun n => decide (bitsLen n ≤ 8)) = true := by decide +kernel
    have := List.all_eq_true.1 key n (by simpa using hn)
    simpa using this
  unfold math_bits_Len
  rw [if_neg (by simp)]
  unfold math_bits_Len64
  rw [if_neg (by rw [decide_eq_true_eq]; omega)]
  unfold math_bits_Len64_j1
  rw [if_neg (by rw [decide_eq_true_eq]; omega)]
  unfold math_bits_Len64_j2
  rw [if_neg (by rw [decide_eq_true_eq]; omega)]
  unfold math_bits_Len64_j3
  have e : IntKind.u8.wrap (n : Int) = n := by rw [wU8]; omega
  rw [e]
  refine ⟨_, by omega, lenTab_at hn, _, rfl, ?_⟩
  rw [wrapI64 (x := ((bitsLen n : Nat) : Int)) (by omega) (by omega), Int.zero_add, wrapI64 (by omega) (by omega)]
  exact H
end Go.Q.Yh
