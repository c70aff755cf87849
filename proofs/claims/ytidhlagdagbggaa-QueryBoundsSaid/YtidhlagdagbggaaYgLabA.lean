/- A part of the proof of statements of this seat: lemmas, no statement of their own. -/
import Derived.Test.YtidhlagdagbggaaYgLab
set_option linter.unusedVariables false
set_option linter.unusedSimpArgs false
namespace Go.Q.Yg
/-! ### texts as rows of bytes -/
abbrev Tx := List UInt8
def U (t : ByteArray) : Tx := t.data.toList
def ofL (l : Tx) : ByteArray := ⟨l.toArray⟩
theorem U_ofL (l : Tx) : U (ofL l) = l := by simp [U, ofL]
theorem ofL_U (t : ByteArray) : ofL (U t) = t := by cases t; simp [U, ofL]
theorem size_ofL (l : Tx) : (ofL l).size = l.length := by show l.toArray.size = l.length; simp
theorem toList_U (t : ByteArray) : t.toList = U t := by rw [ByteArray.toList_eq]; rfl
theorem ofL_toList (l : Tx) : (ofL l).toList = l := by rw [toList_U, U_ofL]
theorem U_len (t : ByteArray) : (U t).length = t.size := by show t.data.toList.length = t.data.size; simp
theorem ofL_inj {l m : Tx} (h : ofL l = ofL m) : l = m := by rw [← U_ofL l, h, U_ofL]
theorem extract_ofL (l : Tx) (a b : Nat) : (ofL l).extract a b = ofL ((l.drop a).take (b - a)) := by
  have h : U ((ofL l).extract a b) = (l.drop a).take (b - a) := by
    show ((ofL l).extract a b).data.toList = _
    rw [ByteArray.data_extract]
    simp only [ofL, Array.toList_extract, List.extract_eq_take_drop, List.toList_toArray]
  rw [← h, ofL_U]
theorem strAt_ofL {l : Tx} {i : Int} {c : UInt8} (h : l[i.toNat]? = some c) : StrAt (ofL l) i (c.toNat : Int) := by
  have hi := (List.getElem?_eq_some_iff.1 h).1
  refine ⟨by rw [size_ofL]; exact hi, ?_⟩
  have e := (List.getElem?_eq_some_iff.1 h).2
  rw [← e]; rfl
theorem u8_back (c : UInt8) : ((c.toNat : Int)).toNat.toUInt8 = c := by simp
/-! ### letters and words -/
def letterU (c : UInt8) : Bool := (decide (97 ≤ c.toNat) && decide (c.toNat ≤ 122)) || (decide (65 ≤ c.toNat) && decide (c.toNat ≤ 90)) || (decide (48 ≤ c.toNat) && decide (c.toNat ≤ 57)) || c == 95 || c == 45 || c == 46 || c == 47
def wordU (l : Tx) : Bool := l.all letterU && (decide (0 < l.length) && decide (l.length ≤ 24))
theorem ib4 (c : UInt8) : decide (Lib.indexByte [95, 45, 46, 47] c ≥ 0) = (c == 95 || c == 45 || c == 46 || c == 47) := by
  simp only [Lib.indexByte]
  by_cases h1 : (95 : UInt8) = c
  · subst h1; rfl
  · by_cases h2 : (45 : UInt8) = c
    · subst h2; rfl
    · by_cases h3 : (46 : UInt8) = c
      · subst h3; rfl
      · by_cases h4 : (47 : UInt8) = c
        · subst h4; rfl
        · have e1 : (c == 95) = false := by simp; exact fun h => h1 h.symm
          have e2 : (c == 45) = false := by simp; exact fun h => h2 h.symm
          have e3 : (c == 46) = false := by simp; exact fun h => h3 h.symm
          have e4 : (c == 47) = false := by simp; exact fun h => h4 h.symm
          simp [h1, h2, h3, h4, e1, e2, e3, e4]
theorem letter_ok {c : UInt8} {k : Bool → Heap → Prop} {h : Heap} (H : k (letterU c) h) : label_letter (c.toNat : Int) k h := by
  unfold label_letter
  have j : ∀ b, (b || (c == 95 || c == 45 || c == 46 || c == 47)) = letterU c → label_letter_j1 (c.toNat : Int) b k h := fun b hb => by
    unfold label_letter_j1
    cases b with
    | true =>
      rw [if_pos rfl]
      rw [Bool.true_or] at hb
      rw [← hb] at H; exact H
    | false =>
      rw [if_neg (by simp)]
      unfold strings_IndexByte internal_stringslite_IndexByte
      refine ⟨_, rfl, ?_⟩
      rw [u8_back]
      show k (decide (Lib.indexByte [95, 45, 46, 47] c ≥ 0)) h
      rw [ib4]
      rw [Bool.false_or] at hb
      rw [← hb] at H; exact H
  have e1 : (decide ((c.toNat : Int) ≥ 97) && decide ((c.toNat : Int) ≤ 122)) = (decide (97 ≤ c.toNat) && decide (c.toNat ≤ 122)) := by congr 1 <;> exact decide_eq_decide.2 (by omega)
  have e2 : (decide ((c.toNat : Int) ≥ 65) && decide ((c.toNat : Int) ≤ 90)) = (decide (65 ≤ c.toNat) && decide (c.toNat ≤ 90)) := by congr 1 <;> exact decide_eq_decide.2 (by omega)
  have e3 : (decide ((c.toNat : Int) ≥ 48) && decide ((c.toNat : Int) ≤ 57)) = (decide (48 ≤ c.toNat) && decide (c.toNat ≤ 57)) := by congr 1 <;> exact decide_eq_decide.2 (by omega)
  rw [e1, e2, e3]
  have le : letterU c = (((decide (97 ≤ c.toNat) && decide (c.toNat ≤ 122)) || (decide (65 ≤ c.toNat) && decide (c.toNat ≤ 90)) || (decide (48 ≤ c.toNat) && decide (c.toNat ≤ 57))) || (c == 95 || c == 45 || c == 46 || c == 47)) := by
    unfold letterU; simp only [Bool.or_assoc]
  generalize (decide (97 ≤ c.toNat) && decide (c.toNat ≤ 122)) = x1 at *
  generalize (decide (65 ≤ c.toNat) && decide (c.toNat ≤ 90)) = x2 at *
  generalize (decide (48 ≤ c.toNat) && decide (c.toNat ≤ 57)) = x3 at *
  cases x1 with
  | true => rw [if_pos rfl]; exact j _ (by rw [le]; simp)
  | false =>
    rw [if_neg (by simp)]
    cases x2 with
    | true => rw [if_pos rfl]; exact j _ (by rw [le]; simp)
    | false => rw [if_neg (by simp)]; exact j _ (by rw [le]; simp)
theorem word_ok {l : Tx} {k : Bool → Heap → Prop} {h : Heap} (hl : l.length ≤ 9223372036854775807) (H : k (wordU l) h) : label_word (ofL l) k h := by
  unfold label_word
  rw [size_ofL]
  refine ⟨fun i h' => 0 ≤ i ∧ i ≤ l.length ∧ (l.take i.toNat).all letterU = true ∧ h' = h, fun i _ => (l.length - i).toNat, ⟨by omega, by omega, by simp, rfl⟩, ?_⟩
  rintro i h' ⟨i0, i1, ha, e⟩
  subst e
  unfold label_word_l1b
  by_cases hi : i < l.length
  · rw [if_pos (by rw [decide_eq_true_eq]; exact hi)]
    have hx : l[i.toNat]? = some (l[i.toNat]'(by omega)) := by simp
    generalize l[i.toNat]'(by omega) = c at *
    refine ⟨_, i0, strAt_ofL hx, letter_ok ?_⟩
    cases hc : letterU c with
    | true =>
      rw [if_neg (by simp), wrapI64 (by omega) (by omega)]
      refine ⟨⟨by omega, by omega, ?_, rfl⟩, by dsimp only; omega⟩
      rw [show (i + 1).toNat = i.toNat + 1 from by omega, List.take_add_one, hx]
      simp [ha, hc]
    | false =>
      rw [if_pos (by simp)]
      have : wordU l = false := by
        have : l.all letterU = false := by
          cases hh : l.all letterU with
          | false => rfl
          | true => have := List.all_eq_true.1 hh c (List.mem_of_getElem? hx); rw [hc] at this; cases this
        unfold wordU; rw [this]; rfl
      rw [this] at H; exact H
  · rw [if_neg (by rw [decide_eq_true_eq]; exact hi)]
    rw [List.take_of_length_le (by omega)] at ha
    unfold wordU at H
    rw [ha, Bool.true_and] at H
    rw [size_ofL, show decide ((l.length : Int) > 0) = decide (0 < l.length) from decide_eq_decide.2 (by omega), show decide ((l.length : Int) ≤ 24) = decide (l.length ≤ 24) from decide_eq_decide.2 (by omega)]
    exact H
/-! ### a text is cut -/
theorem ib_spec (c : UInt8) : ∀ l : Tx, (c ∈ l ∧ Lib.indexByte l c = ((l.takeWhile fun x => x != c).length : Int)) ∨ (c ∉ l ∧ Lib.indexByte l c = -1)
  | [] => .inr ⟨by simp, rfl⟩
  | b :: r => by
    unfold Lib.indexByte
    by_cases hb : b = c
    · subst hb; left; simp
    · rcases ib_spec c r with ⟨h1, h2⟩ | ⟨h1, h2⟩
      · left
        refine ⟨List.mem_cons_of_mem _ h1, ?_⟩
        rw [if_neg (by simpa using hb), h2, if_neg (by simp), List.takeWhile_cons]
        rw [if_pos (by simpa using hb), List.length_cons]; omega
      · right
        refine ⟨fun h => ?_, ?_⟩
        · rcases List.mem_cons.1 h with h | h
          · exact hb h.symm
          · exact h1 h
        · rw [if_neg (by simpa using hb), h2]; rfl
def cutU (l : Tx) (c : UInt8) : Tx × Tx × Bool := if c ∈ l then (l.takeWhile (fun x => x != c), (l.dropWhile (fun x => x != c)).drop 1, true) else (l, [], false)
theorem tw_split (c : UInt8) : ∀ {l : Tx}, c ∈ l → l = l.takeWhile (fun x => x != c) ++ c :: (l.dropWhile (fun x => x != c)).drop 1
  | [], h => by simp at h
  | b :: r, h => by
    by_cases hb : b = c
    · subst hb; simp
    · have hr : c ∈ r := by
        rcases List.mem_cons.1 h with h | h
        · exact absurd h.symm hb
        · exact h
      rw [List.takeWhile_cons, if_pos (by simpa using hb), List.dropWhile_cons, if_pos (by simpa using hb), List.cons_append, ← tw_split c hr]
theorem Cut_ok' {l : Tx} {c : UInt8} {k : ByteArray × ByteArray × Bool → Heap → Prop} {h : Heap} (hl : l.length ≤ 1000000000) (H : k (ofL (cutU l c).1, ofL (cutU l c).2.1, (cutU l c).2.2) h) : strings_Cut (ofL l) ⟨#[c]⟩ k h := by
  unfold strings_Cut internal_stringslite_Cut internal_stringslite_Index
  have z1 : (⟨#[c]⟩ : ByteArray).size = 1 := rfl
  have e1 : (⟨#[c]⟩ : ByteArray).toList = [c] := ofL_toList [c]
  refine ⟨_, rfl, ?_⟩
  rw [z1, e1, ofL_toList, size_ofL]
  by_cases h1 : l = [c]
  · rw [if_pos (by subst h1; simp)]
    dsimp only
    rw [if_pos (by decide)]
    subst h1
    refine ⟨_, by omega, by omega, by simp, rfl, ?_⟩
    rw [wrapI64 (by simp) (by simp)]
    refine ⟨_, by simp, by simp, by omega, rfl, ?_⟩
    rw [extract_ofL, extract_ofL]
    have : cutU [c] c = ([], [], true) := by simp [cutU]
    rw [this] at H
    simpa using H
  · rw [if_neg (by simp; exact fun h => h1 h.symm), if_pos (by decide)]
    refine ⟨(c.toNat : Int), by omega, strAt_ofL (l := [c]) rfl, ?_⟩
    unfold internal_stringslite_IndexByte
    refine ⟨_, rfl, ?_⟩
    rw [u8_back]
    have hU : (ofL l).data.toList = l := U_ofL l
    rw [hU]
    dsimp only
    rcases ib_spec c l with ⟨hc, hi⟩ | ⟨hc, hi⟩
    · have hs := tw_split c hc
      have hlen := congrArg List.length hs
      simp only [List.length_append, List.length_cons] at hlen
      obtain ⟨A, eA⟩ : ∃ A, A = l.takeWhile (fun x => x != c) := ⟨_, rfl⟩
      obtain ⟨B, eB⟩ : ∃ B, B = (l.dropWhile (fun x => x != c)).drop 1 := ⟨_, rfl⟩
      have hcut : cutU l c = (A, B, true) := by unfold cutU; rw [if_pos hc, eA, eB]
      rw [hcut] at H
      rw [← eA] at hs hlen hi
      rw [← eB] at hs hlen
      rw [hi, if_pos (by rw [decide_eq_true_eq]; omega)]
      refine ⟨_, by omega, by omega, by omega, rfl, ?_⟩
      rw [wrapI64 (by omega) (by omega)]
      refine ⟨_, by omega, by omega, by omega, rfl, ?_⟩
      rw [extract_ofL, extract_ofL]
      rw [show ((A.length : Int)).toNat - (0 : Int).toNat = A.length from by simp, show (0 : Int).toNat = 0 from rfl, List.drop_zero, show ((A.length : Int) + ((1 : Nat) : Int)).toNat = A.length + 1 from by omega, show (l.length : Int).toNat = l.length from rfl]
      have t1 : l.take A.length = A := by rw [hs]; simp
      have t2 : (l.drop (A.length + 1)).take (l.length - (A.length + 1)) = B := by
        have d : (A ++ c :: B).drop (A.length + 1) = B := by rw [← List.drop_drop, List.drop_left]; rfl
        rw [hs, d, List.take_of_length_le (by simp; omega)]
      rw [t1, t2]; exact H
    · rw [hi, if_neg (by decide)]
      have hcut : cutU l c = (l, [], false) := by unfold cutU; rw [if_neg hc]
      rw [hcut] at H; exact H
def prefU (l p : Tx) : Bool := decide (p.length ≤ l.length) && decide (l.take p.length = p)
theorem HasPrefix_ok {l p : Tx} {k : Bool → Heap → Prop} {h : Heap} (hl : l.length ≤ 9223372036854775807) (H : k (prefU l p) h) : strings_HasPrefix (ofL l) (ofL p) k h := by
  unfold strings_HasPrefix internal_stringslite_HasPrefix internal_stringslite_HasPrefix_g1
  rw [size_ofL, size_ofL]
  unfold prefU at H
  by_cases hp : p.length ≤ l.length
  · rw [if_pos (by rw [decide_eq_true_eq]; omega)]
    refine ⟨_, by omega, by omega, by omega, rfl, ?_⟩
    rw [extract_ofL, ofL_toList, ofL_toList]
    rw [show (p.length : Int).toNat - (0 : Int).toNat = p.length from by simp, show (0 : Int).toNat = 0 from rfl, List.drop_zero]
    rw [show decide (p.length ≤ l.length) = true from by simpa using hp, Bool.true_and] at H
    rw [show (l.take p.length == p) = decide (l.take p.length = p) from by by_cases h : l.take p.length = p <;> simp [h]]
    exact H
  · rw [if_neg (by rw [decide_eq_true_eq]; omega)]
    rw [show decide (p.length ≤ l.length) = false from by simpa using hp, Bool.false_and] at H
    exact H
theorem CutPrefix_ok {l p : Tx} {k : ByteArray × Bool → Heap → Prop} {h : Heap} (hl : l.length ≤ 9223372036854775807) (H : k (if prefU l p = true then (ofL (l.drop p.length), true) else (ofL l, false)) h) : strings_CutPrefix (ofL l) (ofL p) k h := by
  unfold strings_CutPrefix internal_stringslite_CutPrefix
  have := HasPrefix_ok (l := l) (p := p) (k := fun (r1 : Bool) h2 => if (!r1) then k (ofL l, false) h2 else (∃ s3 : ByteArray, (0 : Int) ≤ ((ofL p).size : Int) ∧ (((ofL p).size : Int) : Int) ≤ ((ofL l).size : Int) ∧ ((ofL l).size : Int) ≤ ((ofL l).size : Int) ∧ s3 = (ofL l).extract ((ofL p).size : Int).toNat ((ofL l).size : Int).toNat ∧ (k (s3, true) h2))) (h := h) hl (by
    cases hp : prefU l p with
    | false => rw [hp, if_neg (by simp)] at H; rw [if_pos (by simp)]; exact H
    | true =>
      rw [hp, if_pos rfl] at H
      rw [if_neg (by simp)]
      unfold prefU at hp
      simp only [Bool.and_eq_true, decide_eq_true_eq] at hp
      rw [size_ofL, size_ofL]
      refine ⟨_, by omega, by omega, by omega, rfl, ?_⟩
      rw [extract_ofL, show (p.length : Int).toNat = p.length from rfl, show (l.length : Int).toNat = l.length from rfl, List.take_of_length_le (by rw [List.length_drop]; exact Nat.le_refl _)]
      exact H)
  exact this
def sufU (l : Tx) (c : UInt8) : Tx × Bool := if l.getLast? = some c then (l.dropLast, true) else (l, false)
theorem CutSuffix_ok {l : Tx} {c : UInt8} {k : ByteArray × Bool → Heap → Prop} {h : Heap} (hl : l.length ≤ 1000000000) (H : k (ofL (sufU l c).1, (sufU l c).2) h) : strings_CutSuffix (ofL l) ⟨#[c]⟩ k h := by
  unfold strings_CutSuffix internal_stringslite_CutSuffix internal_stringslite_HasSuffix internal_stringslite_HasSuffix_g1
  have z1 : (⟨#[c]⟩ : ByteArray).size = 1 := rfl
  have e1 : (⟨#[c]⟩ : ByteArray).toList = [c] := ofL_toList [c]
  rw [z1, e1, size_ofL]
  rcases List.eq_nil_or_concat l with rfl | ⟨ys, y, rfl⟩
  · rw [if_neg (by simp)]
    dsimp only
    rw [if_pos (by simp)]
    have : sufU [] c = ([], false) := by simp [sufU]
    rw [this] at H; exact H
  · rw [List.concat_eq_append] at *
    simp only [List.length_append, List.length_cons, List.length_nil] at hl ⊢
    rw [if_pos (by rw [decide_eq_true_eq]; omega)]
    rw [wrapI64 (by omega) (by omega)]
    refine ⟨_, by omega, by omega, by omega, rfl, ?_⟩
    rw [extract_ofL, ofL_toList]
    rw [show (((ys.length + (0 + 1) : Nat) : Int) - ((1 : Nat) : Int)).toNat = ys.length from by omega, show ((ys.length + (0 + 1) : Nat) : Int).toNat = ys.length + 1 from by omega]
    rw [List.drop_left, show ys.length + 1 - ys.length = 1 from by omega]
    by_cases hy : y = c
    · subst hy
      rw [if_neg (by simp)]
      refine ⟨_, by omega, by omega, by omega, rfl, ?_⟩
      rw [extract_ofL]
      have : sufU (ys ++ [y]) y = (ys, true) := by simp [sufU]
      rw [this] at H
      simpa using H
    · rw [if_pos (by simpa using hy)]
      have : sufU (ys ++ [y]) c = (ys ++ [y], false) := by simp [sufU, hy]
      rw [this] at H; exact H
end Go.Q.Yg
