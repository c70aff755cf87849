/- A part of the proof of statements of this seat: lemmas, no statement of their own. -/
import Derived.Test.YtgldbcbnficihaaYaCuts3
set_option linter.unusedVariables false
set_option linter.unusedSimpArgs false
namespace Go.Q.Ya
/-- each entry's term names the row that all ahead of it is of -/
def Good (rows : List (List Ent)) (es : List Ent) : Prop := ∀ (i : Nat) e, es[i]? = some e → ∃ r, 1 ≤ e.1 ∧ rows[(e.1 - 1).toNat]? = some r ∧ es.take (i + 1) = r.take (i + 1)
section
variable {rows : List (List Ent)} {es x y prev r : List Ent}
theorem Good.nil : Good rows [] := by intro i e h; simp at h
theorem Good.take (G : Good rows es) (n : Nat) : Good rows (es.take n) := by
  intro i e h
  rw [List.getElem?_take] at h
  split at h
  · obtain ⟨r, h1, h2, h3⟩ := G i e h
    refine ⟨r, h1, h2, ?_⟩
    rw [List.take_take, show min (i + 1) n = i + 1 from by omega]; exact h3
  · cases h
theorem Good.mono (G : Good rows es) (q : List Ent) : Good (rows ++ [q]) es := by
  intro i e h
  obtain ⟨r', h1, h2, h3⟩ := G i e h
  refine ⟨r', h1, ?_, h3⟩
  rw [List.getElem?_append_left (List.getElem?_eq_some_iff.1 h2).1]; exact h2
theorem Good.eq (G : Good rows x) (K : Good rows y) {i : Nat} {e f : Ent} (h : x[i]? = some e) (h' : y[i]? = some f) (ht : e.1 = f.1) : x.take (i + 1) = y.take (i + 1) := by
  obtain ⟨r, _, h2, h3⟩ := G i e h
  obtain ⟨q, _, k2, k3⟩ := K i f h'
  rw [ht, k2] at h2; cases h2
  rw [h3, k3]
theorem Good.newrow (G : Good rows prev) {k : Nat} {new : List Ent} (hn : ∀ e ∈ new, e.1 = rows.length + 1) : Good (rows ++ [prev.take k ++ new]) (prev.take k ++ new) := by
  intro i e h
  rcases Nat.lt_or_ge i (prev.take k).length with hi | hi
  · rw [List.getElem?_append_left hi] at h
    obtain ⟨r, h1, h2, h3⟩ := (G.take k).mono (prev.take k ++ new) i e h
    refine ⟨r, h1, h2, ?_⟩
    rw [List.take_append_of_le_length (by omega)]; exact h3
  · rw [List.getElem?_append_right hi] at h
    have := hn e (List.mem_of_getElem? h)
    refine ⟨_, by omega, ?_, rfl⟩
    rw [show (e.1 - 1).toNat = rows.length from by omega]; simp
theorem Good.row (G : Good rows es) (hn : es ≠ []) : ∃ r ∈ rows, es = r.take es.length := by
  have hl : 0 < es.length := List.length_pos_iff.2 hn
  obtain ⟨r, _, h2, h3⟩ := G (es.length - 1) es[es.length - 1] (by simp)
  refine ⟨r, List.mem_of_getElem? h2, ?_⟩
  rw [show es.length - 1 + 1 = es.length from by omega, List.take_length] at h3
  exact h3
theorem Good.len (G : Good rows es) {n : Nat} (hr : ∀ r ∈ rows, r.length ≤ n) : es.length ≤ n := by
  by_cases hn : es = []
  · simp [hn]
  · obtain ⟨r, hm, he⟩ := G.row hn
    have h1 := hr r hm
    rw [he, List.length_take]; omega
theorem Good.ok (G : Good rows es) (hr : ∀ r ∈ rows, esOk r) : esOk es := by
  by_cases hn : es = []
  · subst hn; intro e h; cases h
  · obtain ⟨r, hm, he⟩ := G.row hn
    rw [he]
    exact fun e h => hr r hm e (List.mem_of_mem_take h)
theorem appN_good {p m : Nat} (G : Good rows es) (R : Good rows r) (hp : p ≤ es.length) (he : es.take p = r.take p) (hm : p + m ≤ r.length) :
    ∀ i : Nat, i ≤ m → Good rows (appN 0 p es ((r.drop p).take m) i) ∧ p + i ≤ (appN 0 p es ((r.drop p).take m) i).length ∧ (appN 0 p es ((r.drop p).take m) i).take (p + i) = r.take (p + i) := by
  intro i
  induction i with
  | zero => intro _; exact ⟨G, hp, he⟩
  | succ i ih =>
    intro hi
    obtain ⟨g, l, t⟩ := ih (by omega)
    have hx : ((r.drop p).take m)[i]? = some (r[p + i]'(by omega)) := by
      rw [List.getElem?_take, if_pos (by omega), List.getElem?_drop]; simp
    have hr : r[p + i]? = some (r[p + i]'(by omega)) := by simp
    simp only [appN, hx]
    generalize appN 0 p es ((r.drop p).take m) i = c at *
    generalize r[p + i]'(by omega) = a at *
    have hts : r.take (p + i) ++ [a] = r.take (p + i + 1) := by rw [List.take_add_one, hr]; rfl
    have good : ∀ d, d = r.take (p + i) ++ [a] → Good rows d ∧ p + (i + 1) ≤ d.length ∧ d.take (p + (i + 1)) = r.take (p + (i + 1)) := by
      rintro d rfl
      rw [hts]
      have : p + i < r.length := (List.getElem?_eq_some_iff.1 hr).1
      exact ⟨R.take _, by rw [List.length_take]; omega, by rw [List.take_take, show min (p + (i + 1)) (p + i + 1) = p + (i + 1) from by omega]⟩
    unfold appStep
    rw [if_neg (by omega), show ((p : Int) + (i : Int) - 0).toNat = p + i from by omega]
    by_cases hlt : p + i < c.length
    · rw [if_pos hlt]
      have hc : c[p + i]? = some c[p + i] := by simp [hlt]
      have hd : c.getD (p + i) (0, []) = c[p + i] := by rw [List.getD_eq_getElem?_getD, hc]; rfl
      rw [hd]
      by_cases hq : (c[p + i]).1 = a.1
      · rw [if_pos hq]
        exact ⟨g, by omega, g.eq R hc hr hq⟩
      · rw [if_neg hq]
        exact good _ (by rw [t])
    · rw [if_neg hlt]
      refine good _ ?_
      rw [← t, List.take_of_length_le (by omega)]
theorem appRes_good {p m : Nat} {t : Int} (G : Good rows es) (R : Good rows r) (hm : p + m ≤ r.length) (ht : p = 0 ∨ ∃ e, r[p - 1]? = some e ∧ t = e.1) : Good rows (appRes 0 0 es p t ((r.drop p).take m)).1 := by
  unfold appRes
  split
  · exact G
  · rename_i hn
    have hq : (termOf 0 0 es p).2 = 0 ∧ (termOf 0 0 es p).1 = t := by
      by_cases h : (termOf 0 0 es p).2 = 0 ∧ (termOf 0 0 es p).1 = t
      · exact h
      · exact absurd ⟨by omega, h⟩ hn
    have hb := termOf_ok hq.1
    have hpl : p ≤ es.length := by omega
    have he : es.take p = r.take p := by
      rcases ht with rfl | ⟨e, h1, h2⟩
      · simp
      · by_cases h0 : p = 0
        · subst h0; simp
        · have hd : es[p - 1]? = some (es[p - 1]'(by omega)) := by simp
          have h3 : (es[p - 1]'(by omega)).1 = e.1 := by
            have h4 := hq.2
            unfold termOf at h4
            rw [if_neg (by omega), if_neg (by omega), if_neg (by omega), show ((p : Int) - 0 - 1).toNat = p - 1 from by omega, List.getD_eq_getElem?_getD, hd] at h4
            simpa [h2] using h4
          have := G.eq R hd h1 h3
          rwa [show p - 1 + 1 = p from by omega] at this
    have hl : ((r.drop p).take m).length = m := by rw [List.length_take, List.length_drop]; omega
    rw [hl]
    have := (appN_good G R hpl he hm m (Nat.le_refl _)).1
    split
    · exact G
    · exact this
end
theorem Pick_ok {a n : Int} {k : Int → Heap → Prop} {h : Heap} (hn : 1 ≤ n) (hn2 : n ≤ 1000000) (H : ∀ r, 0 ≤ r → r < n → k r h) : ref01_Pick a n k h := by
  unfold ref01_Pick
  rw [if_neg (by simp; omega)]
  have h1 := Int.tmod_lt_of_pos a (show 0 < n by omega)
  have h2 : -n < Int.tmod a n := by
    have := Int.tmod_lt_of_pos (-a) (show 0 < n by omega)
    rw [Int.neg_tmod] at this; omega
  refine ⟨by omega, _, rfl, ?_⟩
  by_cases hm : Int.tmod a n < 0
  · rw [if_pos (by simpa using hm), wrapI64 (by omega) (by omega)]
    exact ⟨_, rfl, H _ (by omega) (by omega)⟩
  · rw [if_neg (by simpa using hm)]
    exact H _ (by omega) h1
end Go.Q.Ya
