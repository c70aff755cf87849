/- A part of the proof of statements of this seat: lemmas, no statement of their own. -/
import Derived.Test.YtgldbcbnficihaaYaAwk23
set_option linter.unusedVariables false
set_option linter.unusedSimpArgs false
namespace Go.Q.Ya
theorem EntsAt.sub {h : Heap} {s : Slc} {es : List Ent} (A : EntsAt h s es) {l u m : Nat} (h1 : l ≤ u) (h2 : u ≤ es.length) (h3 : u ≤ m) : EntsAt h (subS s 2 l u m) ((es.drop l).take (u - l)) := by
  refine ⟨by rw [subS_len, List.length_take, List.length_drop]; omega, fun hn => ?_, fun a ha i e he => ?_⟩
  · have : s.a = none := by
      simp only [subS] at hn
      split at hn
      · exact hn
      · simpa using hn
    rw [A.n this]; simp
  · rw [List.getElem?_take] at he
    split at he
    · rename_i hlt
      rw [List.getElem?_drop] at he
      simp only [subS] at ha
      split at ha
      · omega
      · simp only [Option.map_eq_some_iff] at ha
        obtain ⟨b, hb, rfl⟩ := ha
        obtain ⟨v, c1, c2⟩ := A.at' b hb _ e he
        refine ⟨v, ?_, c2⟩
        rw [add_add', ← Nat.add_mul]
        exact c1
    · cases he
theorem term_cut {ix tm : Int} {es : List Ent} {p i : Int} (h : (termOf ix tm es p).2 = 0) (hi : p ≤ i) : termOf p (termOf ix tm es p).1 (es.drop (p - ix).toNat) i = termOf ix tm es i := by
  have hb := termOf_ok h
  have hl : ((es.drop (p - ix).toNat).length : Int) = es.length - (p - ix) := by rw [List.length_drop]; omega
  unfold termOf
  rw [if_neg (show ¬ i < p by omega), if_neg (show ¬ i < ix by omega), hl]
  by_cases h2 : i > ix + es.length
  · rw [if_pos h2, if_pos (by omega)]
  · rw [if_neg h2, if_neg (by omega)]
    by_cases h3 : i = p
    · subst h3
      rw [if_pos rfl]
      rw [if_neg (show ¬ i < ix by omega), if_neg h2]
      by_cases h4 : i = ix
      · rw [if_pos h4]
      · rw [if_neg h4]
    · rw [if_neg h3, if_neg (show ¬ i = ix by omega)]
      congr 2
      rw [List.getD_eq_getElem?_getD, List.getD_eq_getElem?_getD, List.getElem?_drop]
      congr 2
      omega
theorem appN_below {ix p : Int} {es more : List Ent} : ∀ i : Nat, p + (i : Int) ≤ ix → appN ix p es more i = es := by
  intro i
  induction i with
  | zero => intro _; rfl
  | succ i ih =>
    intro h
    have h' : p + (i : Int) + 1 ≤ ix := by omega
    have e := ih (by omega)
    simp only [appN]
    rw [e]
    split
    · unfold appStep; rw [if_pos h']
    · rfl
end Go.Q.Ya
