/- A part of the proof of statements of this seat: lemmas, no statement of their own. -/
import Derived.Test.YtcmbgfmbmbgbiaaYbLabE
import Derived.Test.YtcmbgfmbmbgbiaaYbLab3
import Derived.Lib.Join
set_option linter.unusedVariables false
set_option linter.unusedSimpArgs false
namespace Go.Q.Yb
/-! ### a series' text -/
def partU (x : LU) : Tx := x.1 ++ 61 :: x.2
def tailU : List LU → Tx
  | [] => []
  | x :: r => 44 :: (partU x ++ tailU r)
def textU (name : Tx) : List LU → Tx
  | [] => name
  | x :: r => name ++ 123 :: (partU x ++ tailU r ++ [125])
theorem tail_join : ∀ r : List LU, Lib.joinTail [44] (r.map partU) = tailU r
  | [] => rfl
  | x :: r => by
    have := tail_join r
    unfold Lib.joinTail at this ⊢
    rw [List.map_cons, List.map_cons, List.flatten_cons, this]; rfl
theorem word_no {l : Tx} {c : UInt8} (h : wordU l = true) (hc : letterU c = false) : c ∉ l := fun hm => by
  unfold wordU at h
  rw [Bool.and_eq_true] at h
  have := List.all_eq_true.1 h.1 c hm
  rw [hc] at this; cases this
theorem word_len {l : Tx} (h : wordU l = true) : 0 < l.length ∧ l.length ≤ 24 := by
  unfold wordU at h
  simp only [Bool.and_eq_true, decide_eq_true_eq] at h
  exact h.2
theorem cut_at {a b : Tx} {c : UInt8} (h : c ∉ a) : cutU (a ++ c :: b) c = (a, b, true) := by
  have hp : ∀ x ∈ a, (x != c) = true := fun x hx => by simp; exact fun e => h (e ▸ hx)
  unfold cutU
  rw [if_pos (by simp), List.takeWhile_append_of_pos hp, List.dropWhile_append_of_pos hp]
  simp
theorem cut_none {a : Tx} {c : UInt8} (h : c ∉ a) : cutU a c = (a, [], false) := by unfold cutU; rw [if_neg h]
theorem part_no {x : LU} (h1 : wordU x.1 = true) (h2 : wordU x.2 = true) {c : UInt8} (hc : letterU c = false) (h61 : c ≠ 61) : c ∉ partU x := fun hm => by
  unfold partU at hm
  rw [List.mem_append, List.mem_cons] at hm
  rcases hm with hm | hm | hm
  · exact word_no h1 hc hm
  · exact h61 hm
  · exact word_no h2 hc hm
theorem q_part {x : LU} (h1 : wordU x.1 = true) (h2 : wordU x.2 = true) : questionU (partU x) = ((x.1, 0, x.2), true) := by
  have hp : ∀ c ∈ x.1, letterU c = true := by
    have h := h1
    unfold wordU at h
    rw [Bool.and_eq_true] at h
    exact fun c hc => List.all_eq_true.1 h.1 c hc
  have e1 : (partU x).takeWhile letterU = x.1 := by
    unfold partU; rw [List.takeWhile_append_of_pos hp, List.takeWhile_cons, if_neg (by decide), List.append_nil]
  have e2 : (partU x).dropWhile letterU = 61 :: x.2 := by
    unfold partU; rw [List.dropWhile_append_of_pos hp, List.dropWhile_cons, if_neg (by decide)]
  unfold questionU
  rw [e1, e2]
  unfold sg qgo
  rw [if_pos (by simp [prefU])]
  simp [h1, h2]
theorem sel_go : ∀ (r : List LU) (x : LU) (f : Nat) (qs : List QU), (∀ y ∈ x :: r, wordU y.1 = true ∧ wordU y.2 = true) → r.length < f → qs.length + r.length < 8 →
    selGo f (partU x ++ tailU r) qs = some (qs ++ (x :: r).map fun y => (y.1, 0, y.2))
  | [], x, f + 1, qs, hw, hf, h8 => by
    have hx := hw x (by simp)
    have c : cutU (partU x ++ tailU []) 44 = (partU x, [], false) := by
      show cutU (partU x ++ []) 44 = _
      rw [List.append_nil]; exact cut_none (part_no hx.1 hx.2 (by decide) (by decide))
    unfold selGo
    rw [c, q_part hx.1 hx.2]
    rw [if_neg (by simp only [List.length_nil] at h8; simp; omega), if_neg (by simp)]
    rfl
  | y :: r, x, f + 1, qs, hw, hf, h8 => by
    have hx := hw x (by simp)
    have c : cutU (partU x ++ tailU (y :: r)) 44 = (partU x, partU y ++ tailU r, true) := cut_at (part_no hx.1 hx.2 (by decide) (by decide))
    simp only [List.length_cons] at hf h8
    unfold selGo
    rw [c, q_part hx.1 hx.2]
    rw [if_neg (by simp; omega), if_pos rfl]
    rw [sel_go r y f _ (fun z hz => hw z (List.mem_cons_of_mem _ hz)) (by omega) (by rw [List.length_append]; simp; omega)]
    simp
theorem chk_words : ∀ (ls : List LU) (p : Option Tx), chkL p ls = true → ∀ x ∈ ls, wordU x.1 = true ∧ wordU x.2 = true
  | [], _, _, x, hx => by simp at hx
  | l :: r, p, h, x, hx => by
    rw [chkL_cons] at h
    by_cases w1 : wordU l.1 = true
    · rw [if_pos w1] at h
      by_cases w2 : wordU l.2 = true
      · rw [if_pos w2] at h
        cases hc : chkL (some l.1) r with
        | true =>
          rcases List.mem_cons.1 hx with rfl | hx
          · exact ⟨w1, w2⟩
          · exact chk_words r _ hc x hx
        | false => rw [hc] at h; simp at h
      · rw [if_neg w2] at h; cases h
    · rw [if_neg w1] at h; cases h
theorem chk_parts {name : Tx} {ls : List LU} (h : checkU name ls = true) : wordU name = true ∧ ls.length ≤ 8 ∧ ∀ x ∈ ls, wordU x.1 = true ∧ wordU x.2 = true := by
  unfold checkU at h
  split at h
  · split at h
    · cases h
    · exact ⟨by assumption, by omega, chk_words _ _ h⟩
  · cases h
theorem tail_len : ∀ r : List LU, r.length ≤ (tailU r).length
  | [] => Nat.le_refl _
  | x :: r => by
    have := tail_len r
    show r.length + 1 ≤ (44 :: (partU x ++ tailU r)).length
    rw [List.length_cons, List.length_append]; omega
theorem parse_text {name : Tx} {ls : List LU} (h : checkU name ls = true) : parseU (textU name ls) = some (name, ls) := by
  obtain ⟨hn, h8, hw⟩ := chk_parts h
  have sel : selU (textU name ls) = some (name, ls.map fun y => (y.1, 0, y.2)) := by
    cases ls with
    | nil =>
      have c : cutU (textU name []) 123 = (name, [], false) := cut_none (word_no hn (by decide))
      unfold selU
      rw [c]
      rw [if_neg (by simp [hn]), if_pos rfl]; rfl
    | cons x r =>
      have c : cutU (textU name (x :: r)) 123 = (name, partU x ++ tailU r ++ [125], true) := cut_at (word_no hn (by decide))
      have sf : sufU (partU x ++ tailU r ++ [125]) 125 = (partU x ++ tailU r, true) := by
        unfold sufU
        rw [if_pos (by simp)]
        simp
      unfold selU
      rw [c]
      rw [if_neg (by simp [hn]), if_neg (by simp), sf, if_neg (by simp)]
      simp only [List.length_cons] at h8
      have := tail_len r
      rw [sel_go r x _ [] hw (by rw [List.length_append]; omega) (by simp; omega)]
      rfl
  unfold parseU
  rw [sel]
  have e1 : ((ls.map fun y => ((y.1, 0, y.2) : QU)).any fun x => x.2.1 != 0) = false := by
    rw [List.any_map]
    apply Bool.eq_false_iff.2
    intro hc
    obtain ⟨x, _, hx⟩ := List.any_eq_true.1 hc
    simp at hx
  have e2 : ((ls.map fun y => ((y.1, 0, y.2) : QU)).map fun x => (x.1, x.2.2)) = ls := by
    rw [List.map_map]; exact List.map_id' _
  dsimp only
  rw [e1, e2, h]
  rfl
theorem text_inj {n m : Tx} {ls ks : List LU} (h : checkU n ls = true) (h' : checkU m ks = true) (e : textU n ls = textU m ks) : n = m ∧ ls = ks := by
  have h1 := parse_text h
  rw [e, parse_text h'] at h1
  have := Option.some.inj h1
  rw [Prod.mk.injEq] at this
  exact ⟨this.1.symm, this.2.symm⟩
theorem part_len {x : LU} (h1 : wordU x.1 = true) (h2 : wordU x.2 = true) : (partU x).length ≤ 49 := by
  unfold partU
  rw [List.length_append, List.length_cons]
  have := word_len h1; have := word_len h2; omega
theorem tail_le : ∀ r : List LU, (∀ x ∈ r, wordU x.1 = true ∧ wordU x.2 = true) → (tailU r).length ≤ 50 * r.length
  | [], _ => Nat.le_refl _
  | x :: r, hw => by
    have := tail_le r fun y hy => hw y (List.mem_cons_of_mem _ hy)
    have := part_len (hw x (by simp)).1 (hw x (by simp)).2
    show (44 :: (partU x ++ tailU r)).length ≤ 50 * (r.length + 1)
    rw [List.length_cons, List.length_append]; omega
theorem text_le {name : Tx} {ls : List LU} (h : checkU name ls = true) : (textU name ls).length ≤ 1000 := by
  obtain ⟨hn, h8, hw⟩ := chk_parts h
  have := word_len hn
  cases ls with
  | nil => show name.length ≤ 1000; omega
  | cons x r =>
    simp only [List.length_cons] at h8
    have := tail_le r fun y hy => hw y (List.mem_cons_of_mem _ hy)
    have := part_len (hw x (by simp)).1 (hw x (by simp)).2
    show (name ++ 123 :: (partU x ++ tailU r ++ [125])).length ≤ 1000
    rw [List.length_append, List.length_cons, List.length_append, List.length_append]; simp; omega
/-! ### the order of texts -/
theorem less_total : ∀ a b : Tx, (Op.bytesLess a b || a == b) = !(Op.bytesLess b a)
  | [], [] => rfl
  | [], _ :: _ => rfl
  | _ :: _, [] => rfl
  | x :: a, y :: b => by
    have ih := less_total a b
    rw [Op.bytesLess, Op.bytesLess]
    by_cases h1 : x < y
    · have h2 : ¬ y < x := by rw [UInt8.lt_iff_toNat_lt] at *; omega
      have h3 : ¬ y = x := fun e => by subst e; exact h2 h1
      simp [h1, h2, h3]
    · by_cases h2 : y < x
      · have h3 : ¬ x = y := fun e => by subst e; exact h1 h2
        simp [h1, h2, h3]
      · have h3 : x = y := by
          apply UInt8.toNat_inj.1
          rw [UInt8.lt_iff_toNat_lt] at *; omega
        subst h3
        have e : (x :: a == x :: b) = (a == b) := by simp [List.cons_beq_cons]
        rw [e]
        simpa using ih
end Go.Q.Yb
