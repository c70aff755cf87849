/- A part of the proof of statements of this seat: lemmas, no statement of their own. -/
import Derived.Sort.AssemblyPlain
import Derived.Test.YthjafnfadiijgaaQZa
set_option linter.unusedVariables false
set_option linter.unusedSimpArgs false
namespace Go.Q.Yh
open Go.Sort
/-! ### what more than half have, plainly -/
def cnt (l : List Int) (v : Int) : Nat := l.countP fun x => decide (v ≤ x)
def Cm (l : List Int) (c : Int) : Prop := (l = [] ∧ c = 0) ∨ (c ∈ l ∧ l.length / 2 + 1 ≤ cnt l c ∧ ∀ v, l.length / 2 + 1 ≤ cnt l v → v ≤ c)
theorem Cm.one {l : List Int} {c c' : Int} (h : Cm l c) (h' : Cm l c') : c = c' := by
  rcases h with ⟨e, rfl⟩ | ⟨h1, h2, h3⟩
  · rcases h' with ⟨_, rfl⟩ | ⟨g1, _, _⟩
    · rfl
    · rw [e] at g1; cases g1
  · rcases h' with ⟨e, _⟩ | ⟨g1, g2, g3⟩
    · rw [e] at h1; cases h1
    · exact Int.le_antisymm (g3 c h2) (h3 c' g2)
theorem perm_of {n : Nat} {d d' : Array Int} (hn : d.size = n) (P : PermIn 0 n d d') : d'.toList.Perm d.toList := by
  have h := P.2.2
  have h1 := P.1
  have e : ∀ x : Array Int, x.size = n → x.extract 0 n = x := fun x hx => by rw [← hx]; simp
  rw [e d hn, e d' (by omega)] at h
  exact h
theorem mono_of {n : Nat} {d : Array Int} (hn : d.size = n) (S : SortedIn ltInt 0 n d) {i j : Nat} (hij : i ≤ j) (hj : j < n) : d[i]! ≤ d[j]! := by
  rcases Nat.lt_or_ge i j with h | h
  · have := S i j (Nat.zero_le _) h hj
    unfold ltInt at this
    rw [decide_eq_false_iff_not] at this
    omega
  · rw [show i = j from by omega]; exact Int.le_refl _
theorem countP_zero {l : List Int} {p : Int → Bool} (h : ∀ x ∈ l, p x = false) : l.countP p = 0 := by
  rw [List.countP_eq_zero]
  intro x hx e
  rw [h x hx] at e; cases e
/-- the middle of the sorted ones is it -/
theorem Cm.of {zs : List Int} {d : Array Int} (hn : 0 < zs.length) (dn : d.size = zs.length) (P : d.toList.Perm zs) (M : ∀ i j, i ≤ j → j < zs.length → d[i]! ≤ d[j]!) : Cm zs d[zs.length - (zs.length / 2 + 1)]! := by
  have ge : ∀ (i : Nat), i < zs.length → ∃ h : i < d.toList.length, d.toList[i] = d[i]! := fun i hi => ⟨by rw [Array.length_toList, dn]; exact hi, by rw [Array.getElem_toList, getElem!_pos d i (by omega)]⟩
  have ec : ∀ v, cnt zs v = cnt d.toList v := fun v => (P.countP_eq _).symm
  have ll : d.toList.length = zs.length := by rw [Array.length_toList, dn]
  obtain ⟨m, hm⟩ : ∃ m, m = zs.length - (zs.length / 2 + 1) := ⟨_, rfl⟩
  rw [← hm]
  have ml : m < zs.length := by omega
  have sp : ∀ v, cnt d.toList v = cnt (d.toList.take m) v + cnt (d.toList.drop m) v := fun v => by
    unfold cnt
    rw [← List.countP_append, List.take_append_drop]
  have dl : (d.toList.drop m).length = zs.length / 2 + 1 := by rw [List.length_drop, ll]; omega
  refine .inr ⟨?_, ?_, fun v hv => ?_⟩
  · obtain ⟨h1, h2⟩ := ge m ml
    rw [← h2]
    exact P.mem_iff.1 (List.getElem_mem h1)
  · rw [ec, sp]
    have : cnt (d.toList.drop m) d[m]! = (d.toList.drop m).length := by
      unfold cnt
      rw [List.countP_eq_length]
      intro x hx
      obtain ⟨i, hi, rfl⟩ := List.mem_iff_getElem.1 hx
      rw [List.length_drop, ll] at hi
      rw [List.getElem_drop, decide_eq_true_eq]
      obtain ⟨h1, h2⟩ := ge (m + i) (by omega)
      rw [h2]
      exact M m (m + i) (by omega) (by omega)
    omega
  · apply Classical.byContradiction
    intro hc
    have hlt : d[m]! < v := by omega
    rw [ec, sp] at hv
    have z1 : cnt (d.toList.take m) v = 0 := countP_zero fun x hx => by
      obtain ⟨i, hi, rfl⟩ := List.mem_iff_getElem.1 hx
      rw [List.length_take, ll] at hi
      rw [List.getElem_take, decide_eq_false_iff_not]
      obtain ⟨h1, h2⟩ := ge i (by omega)
      rw [h2]
      have := M i m (by omega) ml
      omega
    have z2 : cnt (d.toList.drop m) v < (d.toList.drop m).length := by
      unfold cnt
      have hd : d.toList.drop m = d[m]! :: d.toList.drop (m + 1) := by
        obtain ⟨h1, h2⟩ := ge m ml
        rw [List.drop_eq_getElem_cons h1, h2]
      rw [hd, List.countP_cons, List.length_cons, if_neg (by rw [decide_eq_true_eq]; omega)]
      have := List.countP_le_length (p := fun x => decide (v ≤ x)) (l := d.toList.drop (m + 1))
      omega
    omega
theorem cnt_set : ∀ (l : List Int) (i : Nat) (v w c : Int), l[i]? = some v → v ≤ w → cnt l c ≤ cnt (l.set i w) c
  | [], _, _, _, _, h, _ => by simp at h
  | x :: r, 0, v, w, c, h, hv => by
    simp only [List.getElem?_cons_zero, Option.some.injEq] at h
    subst h
    unfold cnt
    rw [List.set_cons_zero, List.countP_cons, List.countP_cons]
    by_cases hx : c ≤ x
    · rw [if_pos (decide_eq_true hx), if_pos (decide_eq_true (by omega))]; exact Nat.le_refl _
    · rw [if_neg (by rw [decide_eq_true_eq]; exact hx)]; omega
  | x :: r, i + 1, v, w, c, h, hv => by
    have ih := cnt_set r i v w c (by simpa using h) hv
    unfold cnt at ih ⊢
    rw [List.set_cons_succ, List.countP_cons, List.countP_cons]
    omega
theorem Cm.rise {l : List Int} {i : Nat} {v w c c' : Int} (h : Cm l c) (hi : l[i]? = some v) (hv : v ≤ w) (h' : Cm (l.set i w) c') : c ≤ c' := by
  rcases h with ⟨e, _⟩ | ⟨h1, h2, h3⟩
  · rw [e] at hi; simp at hi
  · rcases h' with ⟨e, _⟩ | ⟨g1, g2, g3⟩
    · have := congrArg List.length e
      rw [List.length_set] at this
      have hl := (List.getElem?_eq_some_iff.1 hi).1
      simp at this
      rw [this] at hl
      simp at hl
    · refine g3 c ?_
      rw [List.length_set]
      exact Nat.le_trans h2 (cnt_set l i v w c hi hv)
/-! the least one -/
def lst : List Int → Int
  | [] => 0
  | x :: r => r.foldl (fun a b => if b < a then b else a) x
theorem lst_snoc (l : List Int) (x : Int) : lst (l ++ [x]) = if l = [] then x else if x < lst l then x else lst l := by
  cases l with
  | nil => rfl
  | cons y r =>
    rw [if_neg (by simp)]
    show (r ++ [x]).foldl _ y = _
    rw [List.foldl_append]
    rfl
end Go.Q.Yh
