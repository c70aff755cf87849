/- A part of the proof of statements of this seat: lemmas, no statement of their own. -/
import Derived.Test.YtcmbgfmbmbgbiaaYbRg4
import Derived.Test.YtcmbgfmbmbgbiaaYbRhE
set_option linter.unusedVariables false
set_option linter.unusedSimpArgs false
namespace Go.Q.Yb
theorem Form_ok {n w : Int} {k : Slc → Heap → Prop} {h : Heap} (w0 : 0 ≤ w) (w1 : w ≤ 8) (n0 : 0 ≤ n) (n1 : n < 18446744073709551616) (H : ∀ s' h', Row h.size h' 5 1 s' (b8 (formL n w.toNat)) → Ext h.size h h' → k s' h') : ref01_Form n w k h := by
  unfold ref01_Form
  refine ⟨fun q h' => ∃ l, Row h.size h' 5 1 q.2.1 (b8 l) ∧ l ++ formL q.1 (w - q.2.2).toNat = formL n w.toNat ∧ 0 ≤ q.1 ∧ q.1 < 18446744073709551616 ∧ 0 ≤ q.2.2 ∧ q.2.2 ≤ w ∧ Ext h.size h h', fun q _ => (w - q.2.2).toNat, ⟨[], Row.nil _ _ _ _, by simp, n0, n1, by simp, by simpa using w0, Ext.refl _ _⟩, ?_⟩
  rintro n s i h1 ⟨l, R, hL, n0, n1, i0, i1, X⟩
  simp only at R hL n0 n1 i0 i1
  unfold ref01_Form_l1b
  have ht : Int.tmod n 256 = n % 256 := Int.tmod_eq_emod_of_nonneg n0
  have hd : Int.tdiv n 256 = n / 256 := Int.tdiv_eq_ediv_of_nonneg n0
  rw [ht, hd, wU8, show n % 256 % 256 = n % 256 from by omega]
  by_cases hi : i < w
  · rw [if_pos (by simpa using hi)]
    refine ⟨_, _, rfl, rfl, ?_⟩
    have hll : l.length ≤ 8 := by have := congrArg List.length hL; simp [formL_length] at this; omega
    have hlen := R.len
    simp at hlen
    have hX := X.size
    refine App.row (R.pushed _) (by simp; omega) rfl rfl (by simp [Value.oneCell']) (by omega) (by simp only [maxLen]; omega) fun s' h2 R' _ hs ho _ => ?_
    rw [wrapI64 (by omega) (by omega), wrapU64 (by omega) (by omega)]
    refine ⟨_, rfl, _, rfl, ⟨l ++ [n % 256], by simpa using R', ?_, by simp only; omega, by simp only; omega, by simp only; omega, by simp only; omega, X.trans ⟨by simp at hs; omega, fun j hj => ?_⟩⟩, ?_⟩
    · simp only
      rw [show (w - i).toNat = (w - (i + 1)).toNat + 1 from by omega] at hL
      simpa [formL] using hL
    · rw [ho j (by simp; omega) (fun e => by have := (R.bd e).1; omega), Array.getElem?_push, if_neg (by omega)]
    · show (w - (i + 1)).toNat < (w - i).toNat
      omega
  · rw [if_neg (by simpa using hi)]
    have : (w - i).toNat = 0 := by omega
    rw [this] at hL
    simp [formL] at hL
    subst hL
    exact H _ _ R X
end Go.Q.Yb
