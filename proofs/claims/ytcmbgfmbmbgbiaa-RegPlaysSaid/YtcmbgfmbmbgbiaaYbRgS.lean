/- A part of the proof of statements of this seat: lemmas, no statement of their own. -/
import Derived.Test.YtcmbgfmbmbgbiaaYbRg
import Derived.Test.YtcmbgfmbmbgbiaaQPure
set_option linter.unusedVariables false
set_option linter.unusedSimpArgs false
namespace Go.Q.Yb
theorem Same_ok {p0 p1 : Slc} {l m : List Int} {k : Bool → Heap → Prop} {h : Heap} (h0 : SlcAt h p0 (b8 l)) (l0 : p0.len = l.length) (h1 : SlcAt h p1 (b8 m)) (l1 : p1.len = m.length) (hb : l.length ≤ 4611686018427387904) (H : k (decide (l = m)) h) : ref01_Same p0 p1 k h := by
  unfold ref01_Same
  by_cases hlm : l.length = m.length
  · rw [if_neg (by simp [l0, l1, hlm])]
    refine ⟨fun i h' => 0 ≤ i ∧ i ≤ l.length ∧ l.take i.toNat = m.take i.toNat ∧ h' = h, fun i _ => (l.length - i).toNat, ⟨by omega, by omega, by simp, rfl⟩, ?_⟩
    rintro i h' ⟨i0, i1, he, rfl⟩
    unfold ref01_Same_l1b
    by_cases hi : i < l.length
    · rw [if_pos (by simp [l0]; omega)]
      have n0 : p0.a ≠ none := fun hn => by have := h0.1 hn; simp at this; simp [this] at hi; omega
      have n1 : p1.a ≠ none := fun hn => by have := h1.1 hn; simp at this; simp [this] at hlm; simp [hlm] at hi; omega
      obtain ⟨a, ha⟩ := Option.ne_none_iff_exists'.1 n0
      obtain ⟨b, hb'⟩ := Option.ne_none_iff_exists'.1 n1
      have hla : i.toNat < l.length := by omega
      have hma : i.toNat < m.length := by omega
      refine ⟨a, ha, i0, by omega, l[i.toNat], ?_, b, hb', i0, by omega, m[i.toNat], ?_, ?_⟩
      · rw [Nat.mul_one]; exact h0.2 a ha i.toNat _ (by simp [hla])
      · rw [Nat.mul_one]; exact h1.2 b hb' i.toNat _ (by simp [hma])
      · by_cases hv : l[i.toNat] = m[i.toNat]
        · rw [if_neg (by simp [hv]), wrapI64 (by omega) (by omega)]
          refine ⟨_, rfl, ⟨by omega, by omega, ?_, rfl⟩, by dsimp only; omega⟩
          rw [show (i + 1).toNat = i.toNat + 1 from by omega, List.take_succ_eq_append_getElem hla, List.take_succ_eq_append_getElem hma, he, hv]
        · rw [if_pos (by simpa using hv)]
          have : decide (l = m) = false := by
            rw [decide_eq_false_iff_not]
            rintro rfl
            exact hv rfl
          rw [← this]; exact H
    · rw [if_neg (by simp [l0]; omega)]
      have : l = m := by
        have e1 : l.take i.toNat = l := List.take_of_length_le (by omega)
        have e2 : m.take i.toNat = m := List.take_of_length_le (by omega)
        rw [e1, e2] at he; exact he
      simpa [this] using H
  · rw [if_pos (by simp [l0, l1]; omega)]
    have : decide (l = m) = false := by rw [decide_eq_false_iff_not]; rintro rfl; exact hlm rfl
    rw [← this]; exact H
def Held (B : Nat) (h : Heap) (p : Heap → Prop) : Prop := ∀ h', (∀ g, B ≤ g → g < h.size → h'[g]? = h[g]?) → p h'
theorem Held.now {B : Nat} {h : Heap} {p : Heap → Prop} (H : Held B h p) : p h := H h fun _ _ _ => rfl
theorem Held.step {B : Nat} {h h2 : Heap} {p : Heap → Prop} (H : Held B h p) (z : h.size ≤ h2.size) (e : ∀ g, B ≤ g → g < h.size → h2[g]? = h[g]?) : Held B h2 p :=
  fun h' e' => H h' fun g g1 g2 => by rw [e' g g1 (by omega)]; exact e g g1 g2
theorem Held.mono {A B : Nat} {h : Heap} {p : Heap → Prop} (H : Held B h p) (hb : A ≤ B) : Held A h p := fun h' e => H h' fun g g1 g2 => e g (by omega) g2
theorem Held.imp {B : Nat} {h : Heap} {p q : Heap → Prop} (H : Held B h p) (hq : ∀ h', p h' → q h') : Held B h q := fun h' e => hq h' (H h' e)
theorem Held.of_row {B E w : Nat} {h : Heap} {s : Slc} {xs : List Value} (R : Row B h E w s xs) : Held B h fun h' => Row B h' E w s xs := fun h' e => R.keep fun g hg => e g (R.bd hg).1 (R.bd hg).2
end Go.Q.Yb
