/- A part of the proof of statements of this seat: lemmas, no statement of their own. -/
import Derived.Test.YtidhlagdagbggaaGreatYzLab
import Derived.Test.YtidhlagdagbggaaGreatQFr
import Derived.Test.YtidhlagdagbggaaGreatQLs
import Derived.Test.YtidhlagdagbggaaGreatYzLs
import Derived.Test.YtidhlagdagbggaaGreatYzLab2
set_option linter.unusedVariables false
set_option linter.unusedSimpArgs false
namespace Go.Q.Yz
/-! ### texts as rows of bytes -/
abbrev Tx := List UInt8
def U (t : ByteArray) : Tx := t.data.toList
def ofL (l : Tx) : ByteArray := ⟨l.toArray⟩
theorem U_ofL (l : Tx) : U (ofL l) = l := by simp [U, ofL]
theorem ofL_U (t : ByteArray) : ofL (U t) = t := by cases t; simp [U, ofL]
theorem size_ofL (l : Tx) : (ofL l).size = l.length := by show l.toArray.size = l.length; simp
theorem toList_U (t : ByteArray) : t.toList = U t := by rw [ByteArray.toList_eq]; rfl
theorem ofL_toList (l : Tx) : (ofL l).toList = l := by rw [toList_U, U_ofL]
theorem U_len (t : ByteArray) : (U t).length = t.size := by show t.data.toList.length = t.data.size; simp
theorem extract_ofL (l : Tx) (a b : Nat) : (ofL l).extract a b = ofL ((l.drop a).take (b - a)) := by
  have h : U ((ofL l).extract a b) = (l.drop a).take (b - a) := by
    show ((ofL l).extract a b).data.toList = _
    rw [ByteArray.data_extract]
    simp only [ofL, Array.toList_extract, List.extract_eq_take_drop, List.toList_toArray]
  rw [← h, ofL_U]
theorem strAt_ofL {l : Tx} {i : Int} {c : UInt8} (h : l[i.toNat]? = some c) : StrAt (ofL l) i (c.toNat : Int) := by
  have hi := (List.getElem?_eq_some_iff.1 h).1
  refine ⟨by rw [size_ofL]; exact hi, ?_⟩
  have e := (List.getElem?_eq_some_iff.1 h).2
  rw [← e]; rfl
theorem u8_back (c : UInt8) : ((c.toNat : Int)).toNat.toUInt8 = c := by simp
/-! ### letters and words -/
def letterU (c : UInt8) : Bool := (decide (97 ≤ c.toNat) && decide (c.toNat ≤ 122)) || (decide (65 ≤ c.toNat) && decide (c.toNat ≤ 90)) || (decide (48 ≤ c.toNat) && decide (c.toNat ≤ 57)) || c == 95 || c == 45 || c == 46 || c == 47
def wordU (l : Tx) : Bool := l.all letterU && (decide (0 < l.length) && decide (l.length ≤ 24))
theorem ib4 (c : UInt8) : decide (Lib.indexByte [95, 45, 46, 47] c ≥ 0) = (c == 95 || c == 45 || c == 46 || c == 47) := by
  simp only [Lib.indexByte]
  by_cases h1 : (95 : UInt8) = c
  · subst h1; rfl
  · by_cases h2 : (45 : UInt8) = c
    · subst h2; rfl
    · by_cases h3 : (46 : UInt8) = c
      · subst h3; rfl
      · by_cases h4 : (47 : UInt8) = c
        · subst h4; rfl
        · have e1 : (c == 95) = false := by simp; exact fun h => h1 h.symm
          have e2 : (c == 45) = false := by simp; exact fun h => h2 h.symm
          have e3 : (c == 46) = false := by simp; exact fun h => h3 h.symm
          have e4 : (c == 47) = false := by simp; exact fun h => h4 h.symm
          simp [h1, h2, h3, h4, e1, e2, e3, e4]
theorem letter_ok {c : UInt8} {k : Bool → Heap → Prop} {h : Heap} (H : k (letterU c) h) : label_letter (c.toNat : Int) k h := by
  unfold label_letter
  have j : ∀ b, (b || (c == 95 || c == 45 || c == 46 || c == 47)) = letterU c → label_letter_j1 (c.toNat : Int) b k h := fun b hb => by
    unfold label_letter_j1
    cases b with
    | true =>
      rw [if_pos rfl]
      rw [Bool.true_or] at hb
      rw [← hb] at H; exact H
    | false =>
      rw [if_neg (by simp)]
      unfold strings_IndexByte internal_stringslite_IndexByte
      refine ⟨_, rfl, ?_⟩
      rw [u8_back]
      show k (decide (Lib.indexByte [95, 45, 46, 47] c ≥ 0)) h
      rw [ib4]
      rw [Bool.false_or] at hb
      rw [← hb] at H; exact H
  have e1 : (decide ((c.toNat : Int) ≥ 97) && decide ((c.toNat : Int) ≤ 122)) = (decide (97 ≤ c.toNat) && decide (c.toNat ≤ 122)) := by congr 1 <;> exact decide_eq_decide.2 (by omega)
  have e2 : (decide ((c.toNat : Int) ≥ 65) && decide ((c.toNat : Int) ≤ 90)) = (decide (65 ≤ c.toNat) && decide (c.toNat ≤ 90)) := by congr 1 <;> exact decide_eq_decide.2 (by omega)
  have e3 : (decide ((c.toNat : Int) ≥ 48) && decide ((c.toNat : Int) ≤ 57)) = (decide (48 ≤ c.toNat) && decide (c.toNat ≤ 57)) := by congr 1 <;> exact decide_eq_decide.2 (by omega)
  rw [e1, e2, e3]
  have le : letterU c = (((decide (97 ≤ c.toNat) && decide (c.toNat ≤ 122)) || (decide (65 ≤ c.toNat) && decide (c.toNat ≤ 90)) || (decide (48 ≤ c.toNat) && decide (c.toNat ≤ 57))) || (c == 95 || c == 45 || c == 46 || c == 47)) := by
    unfold letterU; simp only [Bool.or_assoc]
  generalize (decide (97 ≤ c.toNat) && decide (c.toNat ≤ 122)) = x1 at *
  generalize (decide (65 ≤ c.toNat) && decide (c.toNat ≤ 90)) = x2 at *
  generalize (decide (48 ≤ c.toNat) && decide (c.toNat ≤ 57)) = x3 at *
  cases x1 with
  | true => rw [if_pos rfl]; exact j _ (by rw [le]; simp)
  | false =>
    rw [if_neg (by simp)]
    cases x2 with
    | true => rw [if_pos rfl]; exact j _ (by rw [le]; simp)
    | false => rw [if_neg (by simp)]; exact j _ (by rw [le]; simp)
theorem word_ok {l : Tx} {k : Bool → Heap → Prop} {h : Heap} (hl : l.length ≤ 9223372036854775807) (H : k (wordU l) h) : label_word (ofL l) k h := by
  unfold label_word
  rw [size_ofL]
  refine ⟨fun i h' => 0 ≤ i ∧ i ≤ l.length ∧ (l.take i.toNat).all letterU = true ∧ h' = h, fun i _ => (l.length - i).toNat, ⟨by omega, by omega, by simp, rfl⟩, ?_⟩
  rintro i h' ⟨i0, i1, ha, e⟩
  subst e
  unfold label_word_l1b
  by_cases hi : i < l.length
  · rw [if_pos (by rw [decide_eq_true_eq]; exact hi)]
    have hx : l[i.toNat]? = some (l[i.toNat]'(by omega)) := by simp
    generalize l[i.toNat]'(by omega) = c at *
    refine ⟨_, i0, strAt_ofL hx, letter_ok ?_⟩
    cases hc : letterU c with
    | true =>
      rw [if_neg (by simp), wrapI64 (by omega) (by omega)]
      refine ⟨⟨by omega, by omega, ?_, rfl⟩, by dsimp only; omega⟩
      rw [show (i + 1).toNat = i.toNat + 1 from by omega, List.take_add_one, hx]
      simp [ha, hc]
    | false =>
      rw [if_pos (by simp)]
      have : wordU l = false := by
        have : l.all letterU = false := by
          cases hh : l.all letterU with
          | false => rfl
          | true => have := List.all_eq_true.1 hh c (List.mem_of_getElem? hx); rw [hc] at this; cases this
        unfold wordU; rw [this]; rfl
      rw [this] at H; exact H
  · rw [if_neg (by rw [decide_eq_true_eq]; exact hi)]
    rw [List.take_of_length_le (by omega)] at ha
    unfold wordU at H
    rw [ha, Bool.true_and] at H
    rw [size_ofL, show decide ((l.length : Int) > 0) = decide (0 < l.length) from decide_eq_decide.2 (by omega), show decide ((l.length : Int) ≤ 24) = decide (l.length ≤ 24) from decide_eq_decide.2 (by omega)]
    exact H
/-! ### a text is cut -/
theorem ib_spec (c : UInt8) : ∀ l : Tx, (c ∈ l ∧ Lib.indexByte l c = ((l.takeWhile fun x => x != c).length : Int)) ∨ (c ∉ l ∧ Lib.indexByte l c = -1)
  | [] => .inr ⟨by simp, rfl⟩
  | b :: r => by
    unfold Lib.indexByte
    by_cases hb : b = c
    · subst hb; left; simp
    · rcases ib_spec c r with ⟨h1, h2⟩ | ⟨h1, h2⟩
      · left
        refine ⟨List.mem_cons_of_mem _ h1, ?_⟩
        rw [if_neg (by simpa using hb), h2, if_neg (by simp), List.takeWhile_cons]
        rw [if_pos (by simpa using hb), List.length_cons]; omega
      · right
        refine ⟨fun h => ?_, ?_⟩
        · rcases List.mem_cons.1 h with h | h
          · exact hb h.symm
          · exact h1 h
        · rw [if_neg (by simpa using hb), h2]; rfl
def cutU (l : Tx) (c : UInt8) : Tx × Tx × Bool := if c ∈ l then (l.takeWhile (fun x => x != c), (l.dropWhile (fun x => x != c)).drop 1, true) else (l, [], false)
theorem tw_split (c : UInt8) : ∀ {l : Tx}, c ∈ l → l = l.takeWhile (fun x => x != c) ++ c :: (l.dropWhile (fun x => x != c)).drop 1
  | [], h => by simp at h
  | b :: r, h => by
    by_cases hb : b = c
    · subst hb; simp
    · have hr : c ∈ r := by
        rcases List.mem_cons.1 h with h | h
        · exact absurd h.symm hb
        · exact h
      rw [List.takeWhile_cons, if_pos (by simpa using hb), List.dropWhile_cons, if_pos (by simpa using hb), List.cons_append, ← tw_split c hr]
theorem Cut_ok' {l : Tx} {c : UInt8} {k : ByteArray × ByteArray × Bool → Heap → Prop} {h : Heap} (hl : l.length ≤ 1000000000) (H : k (ofL (cutU l c).1, ofL (cutU l c).2.1, (cutU l c).2.2) h) : strings_Cut (ofL l) ⟨#[c]⟩ k h := by
  unfold strings_Cut internal_stringslite_Cut internal_stringslite_Index
  have z1 : (⟨#[c]⟩ : ByteArray).size = 1 := rfl
  have e1 : (⟨#[c]⟩ : ByteArray).toList = [c] := ofL_toList [c]
  refine ⟨_, rfl, ?_⟩
  rw [z1, e1, ofL_toList, size_ofL]
  by_cases h1 : l = [c]
  · rw [if_pos (by subst h1; simp)]
    dsimp only
    rw [if_pos (by decide)]
    subst h1
    refine ⟨_, by omega, by omega, by simp, rfl, ?_⟩
    rw [wrapI64 (by simp) (by simp)]
    refine ⟨_, by simp, by simp, by omega, rfl, ?_⟩
    rw [extract_ofL, extract_ofL]
    have : cutU [c] c = ([], [], true) := by simp [cutU]
    rw [this] at H
    simpa using H
  · rw [if_neg (by simp; exact fun h => h1 h.symm), if_pos (by decide)]
    refine ⟨(c.toNat : Int), by omega, strAt_ofL (l := [c]) rfl, ?_⟩
    unfold internal_stringslite_IndexByte
    refine ⟨_, rfl, ?_⟩
    rw [u8_back]
    have hU : (ofL l).data.toList = l := U_ofL l
    rw [hU]
    dsimp only
    rcases ib_spec c l with ⟨hc, hi⟩ | ⟨hc, hi⟩
    · have hs := tw_split c hc
      have hlen := congrArg List.length hs
      simp only [List.length_append, List.length_cons] at hlen
      obtain ⟨A, eA⟩ : ∃ A, A = l.takeWhile (fun x => x != c) := ⟨_, rfl⟩
      obtain ⟨B, eB⟩ : ∃ B, B = (l.dropWhile (fun x => x != c)).drop 1 := ⟨_, rfl⟩
      have hcut : cutU l c = (A, B, true) := by unfold cutU; rw [if_pos hc, eA, eB]
      rw [hcut] at H
      rw [← eA] at hs hlen hi
      rw [← eB] at hs hlen
      rw [hi, if_pos (by rw [decide_eq_true_eq]; omega)]
      refine ⟨_, by omega, by omega, by omega, rfl, ?_⟩
      rw [wrapI64 (by omega) (by omega)]
      refine ⟨_, by omega, by omega, by omega, rfl, ?_⟩
      rw [extract_ofL, extract_ofL]
      rw [show ((A.length : Int)).toNat - (0 : Int).toNat = A.length from by simp, show (0 : Int).toNat = 0 from rfl, List.drop_zero, show ((A.length : Int) + ((1 : Nat) : Int)).toNat = A.length + 1 from by omega, show (l.length : Int).toNat = l.length from rfl]
      have t1 : l.take A.length = A := by rw [hs]; simp
      have t2 : (l.drop (A.length + 1)).take (l.length - (A.length + 1)) = B := by
        have d : (A ++ c :: B).drop (A.length + 1) = B := by rw [← List.drop_drop, List.drop_left]; rfl
        rw [hs, d, List.take_of_length_le (by simp; omega)]
      rw [t1, t2]; exact H
    · rw [hi, if_neg (by decide)]
      have hcut : cutU l c = (l, [], false) := by unfold cutU; rw [if_neg hc]
      rw [hcut] at H; exact H
def prefU (l p : Tx) : Bool := decide (p.length ≤ l.length) && decide (l.take p.length = p)
theorem HasPrefix_ok {l p : Tx} {k : Bool → Heap → Prop} {h : Heap} (hl : l.length ≤ 9223372036854775807) (H : k (prefU l p) h) : strings_HasPrefix (ofL l) (ofL p) k h := by
  unfold strings_HasPrefix internal_stringslite_HasPrefix internal_stringslite_HasPrefix_g1
  rw [size_ofL, size_ofL]
  unfold prefU at H
  by_cases hp : p.length ≤ l.length
  · rw [if_pos (by rw [decide_eq_true_eq]; omega)]
    refine ⟨_, by omega, by omega, by omega, rfl, ?_⟩
    rw [extract_ofL, ofL_toList, ofL_toList]
    rw [show (p.length : Int).toNat - (0 : Int).toNat = p.length from by simp, show (0 : Int).toNat = 0 from rfl, List.drop_zero]
    rw [show decide (p.length ≤ l.length) = true from by simpa using hp, Bool.true_and] at H
    rw [show (l.take p.length == p) = decide (l.take p.length = p) from by by_cases h : l.take p.length = p <;> simp [h]]
    exact H
  · rw [if_neg (by rw [decide_eq_true_eq]; omega)]
    rw [show decide (p.length ≤ l.length) = false from by simpa using hp, Bool.false_and] at H
    exact H
theorem CutPrefix_ok {l p : Tx} {k : ByteArray × Bool → Heap → Prop} {h : Heap} (hl : l.length ≤ 9223372036854775807) (H : k (if prefU l p = true then (ofL (l.drop p.length), true) else (ofL l, false)) h) : strings_CutPrefix (ofL l) (ofL p) k h := by
  unfold strings_CutPrefix internal_stringslite_CutPrefix
  have := HasPrefix_ok (l := l) (p := p) (k := fun (r1 : Bool) h2 => if (!r1) then k (ofL l, false) h2 else (∃ s3 : ByteArray, (0 : Int) ≤ ((ofL p).size : Int) ∧ (((ofL p).size : Int) : Int) ≤ ((ofL l).size : Int) ∧ ((ofL l).size : Int) ≤ ((ofL l).size : Int) ∧ s3 = (ofL l).extract ((ofL p).size : Int).toNat ((ofL l).size : Int).toNat ∧ (k (s3, true) h2))) (h := h) hl (by
    cases hp : prefU l p with
    | false => rw [hp, if_neg (by simp)] at H; rw [if_pos (by simp)]; exact H
    | true =>
      rw [hp, if_pos rfl] at H
      rw [if_neg (by simp)]
      unfold prefU at hp
      simp only [Bool.and_eq_true, decide_eq_true_eq] at hp
      rw [size_ofL, size_ofL]
      refine ⟨_, by omega, by omega, by omega, rfl, ?_⟩
      rw [extract_ofL, show (p.length : Int).toNat = p.length from rfl, show (l.length : Int).toNat = l.length from rfl, List.take_of_length_le (by rw [List.length_drop]; exact Nat.le_refl _)]
      exact H)
  exact this
def sufU (l : Tx) (c : UInt8) : Tx × Bool := if l.getLast? = some c then (l.dropLast, true) else (l, false)
theorem CutSuffix_ok {l : Tx} {c : UInt8} {k : ByteArray × Bool → Heap → Prop} {h : Heap} (hl : l.length ≤ 1000000000) (H : k (ofL (sufU l c).1, (sufU l c).2) h) : strings_CutSuffix (ofL l) ⟨#[c]⟩ k h := by
  unfold strings_CutSuffix internal_stringslite_CutSuffix internal_stringslite_HasSuffix internal_stringslite_HasSuffix_g1
  have z1 : (⟨#[c]⟩ : ByteArray).size = 1 := rfl
  have e1 : (⟨#[c]⟩ : ByteArray).toList = [c] := ofL_toList [c]
  rw [z1, e1, size_ofL]
  rcases List.eq_nil_or_concat l with rfl | ⟨ys, y, rfl⟩
  · rw [if_neg (by simp)]
    dsimp only
    rw [if_pos (by simp)]
    have : sufU [] c = ([], false) := by simp [sufU]
    rw [this] at H; exact H
  · rw [List.concat_eq_append] at *
    simp only [List.length_append, List.length_cons, List.length_nil] at hl ⊢
    rw [if_pos (by rw [decide_eq_true_eq]; omega)]
    rw [wrapI64 (by omega) (by omega)]
    refine ⟨_, by omega, by omega, by omega, rfl, ?_⟩
    rw [extract_ofL, ofL_toList]
    rw [show (((ys.length + (0 + 1) : Nat) : Int) - ((1 : Nat) : Int)).toNat = ys.length from by omega, show ((ys.length + (0 + 1) : Nat) : Int).toNat = ys.length + 1 from by omega]
    rw [List.drop_left, show ys.length + 1 - ys.length = 1 from by omega]
    by_cases hy : y = c
    · subst hy
      rw [if_neg (by simp)]
      refine ⟨_, by omega, by omega, by omega, rfl, ?_⟩
      rw [extract_ofL]
      have : sufU (ys ++ [y]) y = (ys, true) := by simp [sufU]
      rw [this] at H
      simpa using H
    · rw [if_pos (by simpa using hy)]
      have : sufU (ys ++ [y]) c = (ys ++ [y], false) := by simp [sufU, hy]
      rw [this] at H; exact H
end Go.Q.Yz
set_option linter.unusedVariables false
set_option linter.unusedSimpArgs false
namespace Go.Q.Yz
/-! ### questions -/
abbrev QU := Tx × Int × Tx
def qst (x : QU) : S_api_Question := ⟨ofL x.1, x.2.1, ofL x.2.2⟩
def qcs (x : QU) : List Value := S_api_Question.cs (qst x)
theorem scs3_len (x : S_api_Question) : (S_api_Question.cs x).length = 3 := rfl
theorem scs_len (x : S_api_Selector) : (S_api_Selector.cs x).length = 2 := rfl
def sg : List Tx := [[61], [33, 61], [94, 61]]
def qgo (n r : Tx) : Int → List Tx → QU × Bool
  | _, [] => ((n, 0, []), false)
  | j, s :: ss => if prefU r s = true then ((n, j, r.drop s.length), wordU n && wordU (r.drop s.length)) else qgo n r (j + 1) ss
def questionU (l : Tx) : QU × Bool := qgo (l.takeWhile letterU) (l.dropWhile letterU) 0 sg
theorem tw_take {p : UInt8 → Bool} : ∀ {l : Tx} {i : Nat}, (l.take i).all p = true → (i = l.length ∨ ∃ c, l[i]? = some c ∧ p c = false) → l.takeWhile p = l.take i ∧ l.dropWhile p = l.drop i
  | [], i, _, _ => by simp
  | b :: r, 0, _, h => by
    rcases h with h | ⟨c, hc, hp⟩
    · simp at h
    · simp at hc; subst hc; simp [hp]
  | b :: r, i + 1, ha, h => by
    simp only [List.take_succ_cons, List.all_cons, Bool.and_eq_true] at ha
    have := tw_take (l := r) (i := i) ha.2 (by
      rcases h with h | ⟨c, hc, hp⟩
      · left; simpa using h
      · right; exact ⟨c, by simpa using hc, hp⟩)
    rw [List.takeWhile_cons, if_pos ha.1, List.dropWhile_cons, if_pos ha.1, this.1, this.2]
    exact ⟨rfl, rfl⟩
theorem Question_ok {l : Tx} {k : S_api_Question × Bool → Heap → Prop} {h : Heap} (hl : l.length ≤ 1000000000) (H : ∀ h', Ext h.size h h' → k (qst (questionU l).1, (questionU l).2) h') : label_question (ofL l) k h := by
  unfold label_question
  refine ⟨_, _, rfl, rfl, ?_⟩
  have P := Blk.push h (S_api_Question.cs ⟨ByteArray.empty, 0, ByteArray.empty⟩) 86
  have W := Ext.push h (.cells (S_api_Question.cs ⟨ByteArray.empty, 0, ByteArray.empty⟩).toArray 86) (Nat.le_refl _)
  have pl := P.lt
  generalize h.push (.cells (S_api_Question.cs ⟨ByteArray.empty, 0, ByteArray.empty⟩).toArray 86) = h2 at *
  have z2 := W.size
  refine ⟨fun i h' => 0 ≤ i ∧ i ≤ l.length ∧ (l.take i.toNat).all letterU = true ∧ h' = h2, fun i _ => (l.length - i).toNat, ⟨by omega, by omega, by simp, rfl⟩, ?_⟩
  rintro i h' ⟨i0, i1, ha, e⟩
  subst e
  have g2 : (i.toNat = l.length ∨ ∃ c, l[i.toNat]? = some c ∧ letterU c = false) → ∀ nx, label_question_g2 (ofL l) ⟨h.size, 0, none⟩ i false k nx h' := fun hs nx => by
    obtain ⟨tw, dw⟩ := tw_take ha hs
    unfold label_question_g2
    rw [if_neg (by simp), size_ofL]
    refine ⟨_, by omega, i0, by omega, rfl, ?_⟩
    rw [extract_ofL, show (0 : Int).toNat = 0 from rfl, List.drop_zero, Nat.sub_zero]
    obtain ⟨n, en⟩ : ∃ n, n = l.take i.toNat := ⟨_, rfl⟩
    obtain ⟨r, er⟩ : ∃ r, r = l.drop i.toNat := ⟨_, rfl⟩
    rw [← en] at tw ⊢
    rw [← er] at dw
    have nl : n.length ≤ 1000000000 := by rw [en, List.length_take]; omega
    have rl : r.length ≤ 1000000000 := by rw [er, List.length_drop]; omega
    refine ⟨_, _, rfl, rfl, ?_⟩
    have Q := Blk.push h' (S_api_Question.cs ⟨ByteArray.empty, 0, ByteArray.empty⟩) 86
    have Q2 := Q.sets_all (vs := S_api_Question.cs ⟨ofL n, 0, ByteArray.empty⟩) rfl
    have W3 := (Ext.push h' (.cells (S_api_Question.cs ⟨ByteArray.empty, 0, ByteArray.empty⟩).toArray 86) (Nat.le_refl _)).trans (Ext.sets _ (a := ⟨h'.size, 0, none⟩) 0 (S_api_Question.cs ⟨ofL n, 0, ByteArray.empty⟩) (Nat.le_refl _))
    refine ⟨_, WrsAt.of_blk Q (by rw [scs3_len]; omega), rfl, ?_⟩
    generalize setsH (h'.push (.cells (S_api_Question.cs ⟨ByteArray.empty, 0, ByteArray.empty⟩).toArray 86)) ⟨h'.size, 0, none⟩ 0 (S_api_Question.cs ⟨ofL n, 0, ByteArray.empty⟩) = h3 at *
    have z3 := W3.size
    have ql := Q2.lt
    unfold label_signs
    refine ⟨_, _, rfl, rfl, ?_⟩
    have S := Blk.push h3 (sg.map fun s => Value.string (ofL s)) 9
    have W4 := Ext.push h3 (.cells (sg.map fun s => Value.string (ofL s)).toArray 9) (Nat.le_refl _)
    have es : h3.push (.cells ([.string (⟨#[61]⟩ : ByteArray), .string (⟨#[33, 61]⟩ : ByteArray), .string (⟨#[94, 61]⟩ : ByteArray)]).toArray 9) = h3.push (.cells (sg.map fun s => Value.string (ofL s)).toArray 9) := rfl
    rw [es]
    generalize h3.push (.cells (sg.map fun s => Value.string (ofL s)).toArray 9) = h4 at *
    have z4 := W4.size
    have Q4 := Q2.ext W4 ql
    have P4 := (P.ext W3 pl).ext W4 (by omega)
    have X04 : Ext h.size h h4 := W.trans ((W3.trans (W4.mono z3)).mono z2)
    have ans : ∀ (x : S_api_Question) (b : Bool) (h5 : Heap), Ext h.size h4 h5 → Blk h5 h.size (S_api_Question.cs ⟨ByteArray.empty, 0, ByteArray.empty⟩) 86 → (qst (questionU l).1, (questionU l).2) = (x, b) → ∃ h6 : Heap, WrsAt h5 ⟨h.size, 0, none⟩ 3 ∧ h6 = setsH h5 ⟨h.size, 0, none⟩ 0 (S_api_Question.cs x) ∧ (∃ v17 : S_api_Question, CellsAt h6 ⟨h.size, 0, none⟩ (S_api_Question.cs v17) ∧ k (v17, b) h6) := fun x b h5 X5 P5 e => by
      refine ⟨_, WrsAt.of_blk P5 (by rw [scs3_len]; omega), rfl, x, CellsAt.of_blk (P5.sets_all (vs := S_api_Question.cs x) rfl), ?_⟩
      rw [← e]
      exact H _ ((X04.trans X5).trans (Ext.sets _ _ _ (Nat.le_refl _)))
    refine ⟨fun j h5 => 0 ≤ j ∧ j ≤ 3 ∧ qgo n r j (sg.drop j.toNat) = questionU l ∧ h5 = h4, fun j _ => (3 - j).toNat, ⟨by omega, by omega, by show qgo n r 0 sg = _; unfold questionU; rw [tw, dw], rfl⟩, ?_⟩
    rintro j h5 ⟨j0, j1, hq, e5⟩
    subst e5
    unfold label_question_l3b
    by_cases hj : j < 3
    · rw [if_pos (by rw [decide_eq_true_eq]; exact hj)]
      have hsg : sg[j.toNat]? = some (sg[j.toNat]'(by show j.toNat < 3; omega)) := by simp
      have hdr : sg.drop j.toNat = (sg[j.toNat]'(by show j.toNat < 3; omega)) :: sg.drop (j.toNat + 1) := List.drop_eq_getElem_cons (by show j.toNat < 3; omega)
      generalize sg[j.toNat]'(by show j.toNat < 3; omega) = s at *
      refine ⟨_, rfl, j0, by simpa using hj, ofL s, ?_, _, i0, by rw [size_ofL]; omega, by omega, rfl, ?_⟩
      · rw [Nat.mul_one, add_mk, S.cell, Nat.zero_add, List.getElem?_map, hsg]; rfl
      rw [extract_ofL, size_ofL, show (l.length : Int).toNat = l.length from rfl, List.take_of_length_le (by rw [List.length_drop]; exact Nat.le_refl _), ← er]
      refine CutPrefix_ok (Nat.le_trans rl (by decide)) ?_
      rw [hdr] at hq
      unfold qgo at hq
      cases hp : prefU r s with
      | true =>
        rw [hp, if_pos rfl] at hq
        rw [if_pos rfl, if_pos rfl]
        refine ⟨_, by rw [add_mk]; exact Q4.wr (by rw [scs3_len]; omega), rfl, ?_⟩
        rw [show (⟨h'.size, 0, none⟩ : Addr).add 1 = ⟨h'.size, 1, none⟩ from by simp, show (⟨h'.size, 0, none⟩ : Addr).add 2 = ⟨h'.size, 2, none⟩ from by simp]
        have Q5 : Blk (setH h5 ⟨h'.size, 1, none⟩ (.int .i64 j)) h'.size (S_api_Question.cs ⟨ofL n, j, ByteArray.empty⟩) 86 := Q4.set
        refine ⟨_, Q5.wr (by rw [scs3_len]; omega), rfl, ?_⟩
        have Q6 : Blk (setH (setH h5 ⟨h'.size, 1, none⟩ (.int .i64 j)) ⟨h'.size, 2, none⟩ (.string (ofL (r.drop s.length)))) h'.size (S_api_Question.cs ⟨ofL n, j, ofL (r.drop s.length)⟩) 86 := Q5.set
        have oth : ∀ g, g ≠ h'.size → (setH (setH h5 ⟨h'.size, 1, none⟩ (.int .i64 j)) ⟨h'.size, 2, none⟩ (.string (ofL (r.drop s.length))))[g]? = h5[g]? := fun g hg => (setH_other hg).trans (setH_other hg)
        have z6 : (setH (setH h5 ⟨h'.size, 1, none⟩ (.int .i64 j)) ⟨h'.size, 2, none⟩ (.string (ofL (r.drop s.length)))).size = h5.size := setH_size.trans setH_size
        generalize setH (setH h5 ⟨h'.size, 1, none⟩ (.int .i64 j)) ⟨h'.size, 2, none⟩ (.string (ofL (r.drop s.length))) = h6 at *
        have P6 := P4.old (oth h.size (by omega))
        have X6 : Ext h.size h5 h6 := ⟨by omega, fun g hg => oth g (by omega)⟩
        refine ⟨_, CellsAt.of_blk Q6, ofL n, by rw [Q6.cell]; rfl, word_ok (Nat.le_trans nl (by decide)) ⟨CellsAt.of_blk Q6, ?_⟩⟩
        cases hn : wordU n with
        | true =>
          rw [hn, Bool.true_and] at hq
          rw [if_pos rfl]
          refine ⟨ofL (r.drop s.length), by rw [Q6.cell]; rfl, word_ok (by rw [List.length_drop]; omega) ⟨CellsAt.of_blk Q6, ?_⟩⟩
          unfold label_question_j4
          exact ans _ _ h6 X6 P6 (by rw [← hq]; rfl)
        | false =>
          rw [hn, Bool.false_and] at hq
          rw [if_neg (by simp)]
          unfold label_question_j4
          exact ans _ _ h6 X6 P6 (by rw [← hq]; rfl)
      | false =>
        rw [hp, if_neg (by simp)] at hq
        rw [if_neg (by simp), wrapI64 (by omega) (by omega)]
        exact ⟨⟨by omega, by omega, by rw [show (j + 1).toNat = j.toNat + 1 from by omega]; exact hq, rfl⟩, by dsimp only; omega⟩
    · rw [if_neg (by rw [decide_eq_true_eq]; exact hj)]
      have : j = 3 := by omega
      subst this
      refine ⟨_, CellsAt.of_blk Q4, ?_⟩
      exact ans _ _ h5 (Ext.refl _ _) P4 (by rw [← hq]; rfl)
  unfold label_question_l1b
  rw [size_ofL]
  by_cases hi : i < l.length
  · rw [if_pos (by rw [decide_eq_true_eq]; exact hi)]
    have hx : l[i.toNat]? = some (l[i.toNat]'(by omega)) := by simp
    generalize l[i.toNat]'(by omega) = c at *
    refine ⟨_, i0, strAt_ofL hx, letter_ok ?_⟩
    cases hc : letterU c with
    | false => exact g2 (.inr ⟨c, hx, hc⟩) _
    | true =>
      unfold label_question_g2
      rw [if_pos rfl, wrapI64 (by omega) (by omega)]
      refine ⟨_, rfl, ⟨by omega, by omega, ?_, rfl⟩, by dsimp only; omega⟩
      rw [show (i + 1).toNat = i.toNat + 1 from by omega, List.take_add_one, hx]
      simp [ha, hc]
  · rw [if_neg (by rw [decide_eq_true_eq]; exact hi)]
    exact g2 (.inl (by omega)) _
/-! ### selectors -/
abbrev zSel : S_api_Selector := ⟨ByteArray.empty, ⟨none, 0, 0⟩⟩
def selGo : Nat → Tx → List QU → Option (List QU)
  | 0, _, _ => none
  | f + 1, rest, qs =>
    if (questionU (cutU rest 44).1).2 = false ∨ qs.length = 8 then none
    else if (cutU rest 44).2.2 = true then selGo f (cutU rest 44).2.1 (qs ++ [(questionU (cutU rest 44).1).1]) else some (qs ++ [(questionU (cutU rest 44).1).1])
def selU (l : Tx) : Option (Tx × List QU) :=
  if (cutU l 123).1 ≠ [] ∧ wordU (cutU l 123).1 = false then none
  else if (cutU l 123).2.2 = false then some ((cutU l 123).1, [])
  else if (sufU (cutU l 123).2.1 125).2 = false then none
  else (selGo ((sufU (cutU l 123).2.1 125).1.length + 1) (sufU (cutU l 123).2.1 125).1 []).map fun qs => ((cutU l 123).1, qs)
theorem cut_len (l : Tx) (c : UInt8) : (cutU l c).1.length ≤ l.length ∧ (cutU l c).2.1.length ≤ l.length ∧ ((cutU l c).2.2 = true → (cutU l c).2.1.length < l.length) := by
  unfold cutU
  by_cases hc : c ∈ l
  · rw [if_pos hc]
    have := congrArg List.length (tw_split c hc)
    rw [List.length_append, List.length_cons] at this
    dsimp only
    exact ⟨by omega, by omega, fun _ => by omega⟩
  · rw [if_neg hc]; simp
theorem suf_len (l : Tx) (c : UInt8) : (sufU l c).1.length ≤ l.length := by
  unfold sufU; split <;> simp
theorem Selector_ok {l : Tx} {k : S_api_Selector × Int → Heap → Prop} {h : Heap} (hl : l.length ≤ 100000000)
    (H0 : ∀ h', selU l = none → Ext h.size h h' → k (zSel, 4) h')
    (H1 : ∀ name qs s h', selU l = some (name, qs) → Row h.size h' 86 3 s (qs.flatMap qcs) → s.len = qs.length → Ext h.size h h' → k (⟨ofL name, s⟩, 0) h') : label_Selector (ofL l) k h := by
  unfold label_Selector
  refine ⟨_, _, rfl, rfl, ?_⟩
  have P := Blk.push h (S_api_Selector.cs zSel) 53
  have W := Ext.push h (.cells (S_api_Selector.cs zSel).toArray 53) (Nat.le_refl _)
  have pl := P.lt
  generalize h.push (.cells (S_api_Selector.cs zSel).toArray 53) = h2 at *
  have z2 := W.size
  refine Cut_ok' (by omega) ?_
  obtain ⟨cl1, cl2, cl3⟩ := cut_len l 123
  obtain ⟨name, en⟩ : ∃ x, x = (cutU l 123).1 := ⟨_, rfl⟩
  obtain ⟨rest, er⟩ : ∃ x, x = (cutU l 123).2.1 := ⟨_, rfl⟩
  obtain ⟨some', es⟩ : ∃ x, x = (cutU l 123).2.2 := ⟨_, rfl⟩
  have hsel : selU l = if name ≠ [] ∧ wordU name = false then none else if some' = false then some (name, []) else if (sufU rest 125).2 = false then none else (selGo ((sufU rest 125).1.length + 1) (sufU rest 125).1 []).map fun qs => (name, qs) := by
    rw [en, er, es]; rfl
  rw [← en, ← er, ← es]
  rw [← en] at cl1
  rw [← er] at cl2
  dsimp only
  refine ⟨_, _, rfl, rfl, ?_⟩
  have Q := Blk.push h2 (S_api_Selector.cs zSel) 53
  have Q2 := Q.sets_all (vs := S_api_Selector.cs ⟨ofL name, ⟨none, 0, 0⟩⟩) rfl
  have W3 := (Ext.push h2 (.cells (S_api_Selector.cs zSel).toArray 53) (Nat.le_refl _)).trans (Ext.sets _ (a := ⟨h2.size, 0, none⟩) 0 (S_api_Selector.cs ⟨ofL name, ⟨none, 0, 0⟩⟩) (Nat.le_refl _))
  refine ⟨_, WrsAt.of_blk Q (by rw [scs_len]; omega), rfl, ?_⟩
  generalize setsH (h2.push (.cells (S_api_Selector.cs zSel).toArray 53)) ⟨h2.size, 0, none⟩ 0 (S_api_Selector.cs ⟨ofL name, ⟨none, 0, 0⟩⟩) = h3 at *
  have z3 := W3.size
  have ql := Q2.lt
  have P3 := P.ext W3 pl
  have X03 : Ext h.size h h3 := W.trans (W3.mono z2)
  have bad : ∀ h', Blk h' h.size (S_api_Selector.cs zSel) 53 → Ext h.size h h' → selU l = none → ∃ h8 : Heap, WrsAt h' ⟨h.size, 0, none⟩ 2 ∧ h8 = setsH h' ⟨h.size, 0, none⟩ 0 (S_api_Selector.cs zSel) ∧ (∃ v9 : S_api_Selector, CellsAt h8 ⟨h.size, 0, none⟩ (S_api_Selector.cs v9) ∧ k (v9, 4) h8) := fun h' P' X' hn =>
    ⟨_, WrsAt.of_blk P' (by rw [scs_len]; omega), rfl, _, CellsAt.of_blk (P'.sets_all (vs := S_api_Selector.cs zSel) rfl), H0 _ hn (X'.trans (Ext.sets _ _ _ (Nat.le_refl _)))⟩
  have good : ∀ h' s qs, Blk h' h.size (S_api_Selector.cs zSel) 53 → Ext h.size h h' → Blk h' h2.size (S_api_Selector.cs ⟨ofL name, s⟩) 53 → Row (h2.size + 1) h' 86 3 s (qs.flatMap qcs) → s.len = qs.length → selU l = some (name, qs) →
      ∃ v10 : S_api_Selector, CellsAt h' ⟨h2.size, 0, none⟩ (S_api_Selector.cs v10) ∧ (∃ h11 : Heap, WrsAt h' ⟨h.size, 0, none⟩ 2 ∧ h11 = setsH h' ⟨h.size, 0, none⟩ 0 (S_api_Selector.cs v10) ∧ (∃ v12 : S_api_Selector, CellsAt h11 ⟨h.size, 0, none⟩ (S_api_Selector.cs v12) ∧ k (v12, 0) h11)) := fun h' s qs P' X' Q' R' sl hs => by
    refine ⟨_, CellsAt.of_blk Q', _, WrsAt.of_blk P' (by rw [scs_len]; omega), rfl, _, CellsAt.of_blk (P'.sets_all (vs := S_api_Selector.cs ⟨ofL name, s⟩) rfl), ?_⟩
    exact H1 name qs s _ hs ((R'.keep fun g hg => setsH_other _ _ (by have := (R'.bd hg).1; dsimp only; omega)).mono (by omega)) sl (X'.trans (Ext.sets _ _ _ (Nat.le_refl _)))
  have g1 : ∀ b, b = decide (name ≠ [] ∧ wordU name = false) → label_Selector_g1 ⟨h.size, 0, none⟩ (ofL rest) some' ⟨h2.size, 0, none⟩ b k h3 := fun b hb => by
    unfold label_Selector_g1
    by_cases hw : name ≠ [] ∧ wordU name = false
    · rw [hb, if_pos (by simpa using hw)]
      exact bad h3 P3 X03 (by rw [hsel, if_pos hw])
    rw [hb, if_neg (by simpa using hw)]
    rw [if_neg hw] at hsel
    cases hs' : some' with
    | false =>
      rw [if_pos (by simp)]
      rw [hs', if_pos rfl] at hsel
      exact good h3 ⟨none, 0, 0⟩ [] P3 X03 Q2 (Row.nil _ _ _ _) rfl hsel
    | true =>
      rw [if_neg (by simp)]
      rw [hs', if_neg (by simp)] at hsel
      refine CutSuffix_ok (by omega) ?_
      have sl := suf_len rest 125
      obtain ⟨r0, er0⟩ : ∃ x, x = (sufU rest 125).1 := ⟨_, rfl⟩
      obtain ⟨ok0, eok⟩ : ∃ x, x = (sufU rest 125).2 := ⟨_, rfl⟩
      rw [← er0, ← eok] at hsel
      rw [← er0] at sl
      rw [← er0, ← eok]
      refine ⟨fun q h' => ∃ s qs rl, Blk h' h.size (S_api_Selector.cs zSel) 53 ∧ Blk h' h2.size (S_api_Selector.cs ⟨ofL name, s⟩) 53 ∧ Row (h2.size + 1) h' 86 3 s (qs.flatMap qcs) ∧ s.len = qs.length ∧ qs.length ≤ 8 ∧ q.1 = ofL rl ∧ rl.length ≤ 100000000 ∧ Ext h.size h h' ∧
          ((q.2.1 = false ∧ selU l = none) ∨ (q.2.1 = true ∧ q.2.2 = true ∧ ∃ f, rl.length < f ∧ (selGo f rl qs).map (fun qs => (name, qs)) = selU l) ∨ (q.2.1 = true ∧ q.2.2 = false ∧ selU l = some (name, qs))),
        fun q _ => if q.2.2 = true then q.1.size + 1 else 0, ⟨⟨none, 0, 0⟩, [], r0, P3, Q2, Row.nil _ _ _ _, rfl, by simp, rfl, by omega, X03, ?_⟩, ?_⟩
      · cases hok : ok0 with
        | false => rw [hok, if_pos rfl] at hsel; exact .inl ⟨rfl, hsel⟩
        | true => rw [hok, if_neg (by simp)] at hsel; exact .inr (.inl ⟨rfl, rfl, r0.length + 1, by omega, hsel.symm⟩)
      rintro t5 t8 t9 h' ⟨s, qs, rl, P', Q', R', sl', q8, et, rl8, X', C⟩
      dsimp only at et C
      subst et
      have z' := X'.size
      have p' := P'.lt
      have q' := Q'.lt
      unfold label_Selector_l3b
      have j2f : label_Selector_j2 ⟨h.size, 0, none⟩ ⟨h2.size, 0, none⟩ false k h' ∨ selU l ≠ none := by
        by_cases hn : selU l = none
        · left; unfold label_Selector_j2; rw [if_pos (by simp)]; exact bad h' P' X' hn
        · exact .inr hn
      rcases C with ⟨c1, c2⟩ | ⟨c1, c2, f, hf, hgo⟩ | ⟨c1, c2, hgo⟩
      · subst c1
        rw [if_neg (by simp)]
        exact j2f.resolve_right fun hh => hh c2
      · subst c1; subst c2
        rw [if_pos (by simp)]
        obtain ⟨f, rfl⟩ : ∃ g, f = g + 1 := ⟨f - 1, by omega⟩
        unfold selGo at hgo
        obtain ⟨d1, d2, d3⟩ := cut_len rl 44
        refine Cut_ok' (by omega) ?_
        dsimp only
        refine Question_ok (by omega) fun h4 X4 => ?_
        obtain ⟨x, ex⟩ : ∃ x, x = (questionU (cutU rl 44).1).1 := ⟨_, rfl⟩
        obtain ⟨fit, ef⟩ : ∃ x, x = (questionU (cutU rl 44).1).2 := ⟨_, rfl⟩
        obtain ⟨r2, er2⟩ : ∃ x, x = (cutU rl 44).2.1 := ⟨_, rfl⟩
        obtain ⟨more, em⟩ : ∃ x, x = (cutU rl 44).2.2 := ⟨_, rfl⟩
        rw [← ex, ← ef, ← er2, ← em] at hgo
        rw [← er2, ← em] at d3
        rw [← er2] at d2
        rw [← ex, ← ef, ← er2, ← em]
        have z4 := X4.size
        refine ⟨_, _, rfl, rfl, ?_⟩
        have T := Blk.push h4 (S_api_Question.cs ⟨ByteArray.empty, 0, ByteArray.empty⟩) 86
        have T2 := T.sets_all (vs := S_api_Question.cs (qst x)) rfl
        have W5 := (Ext.push h4 (.cells (S_api_Question.cs ⟨ByteArray.empty, 0, ByteArray.empty⟩).toArray 86) (Nat.le_refl _)).trans (Ext.sets _ (a := ⟨h4.size, 0, none⟩) 0 (S_api_Question.cs (qst x)) (Nat.le_refl _))
        refine ⟨_, WrsAt.of_blk T (by rw [scs3_len]; omega), rfl, ?_⟩
        generalize setsH (h4.push (.cells (S_api_Question.cs ⟨ByteArray.empty, 0, ByteArray.empty⟩).toArray 86)) ⟨h4.size, 0, none⟩ 0 (S_api_Question.cs (qst x)) = h5 at *
        have z5 := W5.size
        have X45 : Ext h'.size h' h5 := X4.trans (W5.mono z4)
        have P5 := P'.ext X45 p'
        have Q5 := Q'.ext X45 q'
        have R5 := R'.ext X45 fun g hg => (R'.bd hg).2
        have X05 : Ext h.size h h5 := X'.trans (X45.mono z')
        have no : selU l = none → label_Selector_j2 ⟨h.size, 0, none⟩ ⟨h2.size, 0, none⟩ false k h5 := fun hn => by
          unfold label_Selector_j2; rw [if_pos (by simp)]; exact bad h5 P5 X05 hn
        cases hfit : fit with
        | false =>
          rw [if_pos (by simp)]
          rw [hfit, if_pos (.inl rfl)] at hgo
          unfold label_Selector_g4
          rw [if_pos rfl]
          exact no (by rw [← hgo]; rfl)
        | true =>
          rw [if_neg (by simp)]
          have c5 : cellH h5 ((⟨h2.size, 0, none⟩ : Addr).add 1) = some (Slc.v s) := by rw [add_mk, Q5.cell]; rfl
          refine ⟨s, c5, ?_⟩
          unfold label_Selector_g4
          by_cases h8 : qs.length = 8
          · rw [if_pos (by rw [beq_iff_eq]; omega)]
            rw [hfit, if_pos (.inr h8)] at hgo
            exact no (by rw [← hgo]; rfl)
          rw [if_neg (by rw [beq_iff_eq]; omega)]
          rw [hfit, if_neg (by simpa using h8)] at hgo
          refine ⟨s, c5, qst x, CellsAt.of_blk T2, _, _, rfl, rfl, ?_⟩
          refine App.row (R5.pushed _) (by simp; omega) rfl rfl (oneC (by kernel_rfl)) (by omega) (by simp only [maxLen]; omega) fun s' h6 R6 l6 z6 F6 _ => ?_
          simp at z6
          have F : ∀ g, g < h5.size → s.blk ≠ some g → h6[g]? = h5[g]? := fun g hg hs => by rw [F6 g (by simp; omega) hs, Array.getElem?_push, if_neg (by omega)]
          have ns : ∀ g, g ≤ h2.size → s.blk ≠ some g := fun g hg e => by have := (R5.bd e).1; omega
          have P6 : Blk h6 h.size (S_api_Selector.cs zSel) 53 := P5.old (F h.size (by omega) (ns _ (by omega)))
          have Q6 : Blk h6 h2.size (S_api_Selector.cs ⟨ofL name, s⟩) 53 := Q5.old (F h2.size (by omega) (ns _ (Nat.le_refl _)))
          refine ⟨_, by rw [add_mk]; exact Q6.wr (by rw [scs_len]; omega), rfl, ?_⟩
          rw [show (⟨h2.size, 0, none⟩ : Addr).add 1 = ⟨h2.size, 1, none⟩ from by simp]
          have Q7 : Blk (setH h6 ⟨h2.size, 1, none⟩ (Slc.v s')) h2.size (S_api_Selector.cs ⟨ofL name, s'⟩) 53 := Q6.set
          have oth : ∀ g, g ≠ h2.size → (setH h6 ⟨h2.size, 1, none⟩ (Slc.v s'))[g]? = h6[g]? := fun g hg => setH_other hg
          have z7 : (setH h6 ⟨h2.size, 1, none⟩ (Slc.v s')).size = h6.size := setH_size
          generalize setH h6 ⟨h2.size, 1, none⟩ (Slc.v s') = h7 at *
          refine ⟨⟨s', qs ++ [x], r2, P6.old (oth _ (by omega)), Q7, ?_, by rw [l6, List.length_append]; simp; omega, by rw [List.length_append]; simp; omega, rfl, by omega, X05.trans ⟨by omega, fun g hg => by rw [oth g (by omega), F g (by omega) (ns g (by omega))]⟩, ?_⟩, ?_⟩
          · have := R6.keep fun g hg => oth g (by have := (R6.bd hg).1; omega)
            rw [List.flatMap_append]
            simpa [qcs] using this
          · cases hm : more with
            | true =>
              rw [hm, if_pos rfl] at hgo
              exact .inr (.inl ⟨rfl, rfl, f, by have := d3 hm; omega, hgo⟩)
            | false =>
              rw [hm, if_neg (by simp)] at hgo
              exact .inr (.inr ⟨rfl, rfl, hgo.symm⟩)
          · dsimp only
            rw [size_ofL, size_ofL, if_pos rfl]
            cases hm : more with
            | true => rw [if_pos rfl]; have := d3 hm; omega
            | false => rw [if_neg (by simp)]; omega
      · subst c1; subst c2
        rw [if_neg (by simp)]
        unfold label_Selector_j2
        rw [if_neg (by simp)]
        exact good h' s qs P' X' Q' R' sl' hgo
  have nempty : (ofL name).toList == (⟨#[]⟩ : ByteArray).toList ↔ name = [] := by
    rw [ofL_toList, show (⟨#[]⟩ : ByteArray).toList = [] from ofL_toList []]; simp
  by_cases hn : name = []
  · rw [if_neg (by rw [Bool.not_eq_true', Bool.not_eq_false]; exact nempty.2 hn)]
    exact g1 _ (by simp [hn])
  · rw [if_pos (by
      rw [Bool.not_eq_true']
      cases hh : ((ofL name).toList == (⟨#[]⟩ : ByteArray).toList) with
      | false => rfl
      | true => exact absurd (nempty.1 hh) hn)]
    refine word_ok (by omega) (g1 _ ?_)
    cases hw : wordU name <;> simp [hn, hw]
end Go.Q.Yz
set_option linter.unusedVariables false
set_option linter.unusedSimpArgs false
namespace Go.Q.Yz
/-! ### series -/
abbrev LU := Tx × Tx
def lst (x : LU) : S_api_Label := ⟨ofL x.1, ofL x.2⟩
def lcs (x : LU) : List Value := S_api_Label.cs (lst x)
theorem labcs_len (x : S_api_Label) : (S_api_Label.cs x).length = 2 := rfl
theorem sercs_len (x : S_api_Series) : (S_api_Series.cs x).length = 2 := rfl
abbrev zSer : S_api_Series := ⟨ByteArray.empty, ⟨none, 0, 0⟩⟩
def chkL : Option Tx → List LU → Bool
  | _, [] => true
  | prev, l :: r => if wordU l.1 = true then if wordU l.2 = true then if (match prev with | none => true | some p => Op.bytesLess p l.1) = true then chkL (some l.1) r else false else false else false
theorem chkL_cons (prev : Option Tx) (l : LU) (r : List LU) : chkL prev (l :: r) = if wordU l.1 = true then if wordU l.2 = true then if (match prev with | none => true | some p => Op.bytesLess p l.1) = true then chkL (some l.1) r else false else false else false := rfl
def checkU (name : Tx) (ls : List LU) : Bool := if wordU name = true then if ls.length > 8 then false else chkL none ls else false
def prevU (ls : List LU) (i : Nat) : Option Tx := if i = 0 then none else (ls[i - 1]?).map (·.1)
def okL (ls : List LU) : Prop := ∀ x ∈ ls, x.1.length ≤ 9223372036854775807 ∧ x.2.length ≤ 9223372036854775807
theorem SCheck_ok {name : Tx} {s : Slc} {ls : List LU} {k : Int → Heap → Prop} {h : Heap} (L : LsAt S_api_Label.cs 2 h s (ls.map lst)) (nl : name.length ≤ 9223372036854775807) (ok : okL ls) (hm : s.len ≤ 4611686018427387904)
    (H : ∀ h', Ext h.size h h' → k (if checkU name ls = true then 0 else 1) h') : label_Check ⟨ofL name, s⟩ k h := by
  have sl : s.len = ls.length := by have := L.l; simpa using this
  unfold label_Check
  refine ⟨_, _, rfl, rfl, ?_⟩
  have P := Blk.push h (S_api_Series.cs ⟨ofL name, s⟩) 62
  have W := Ext.push h (.cells (S_api_Series.cs ⟨ofL name, s⟩).toArray 62) (Nat.le_refl _)
  have pl := P.lt
  generalize h.push (.cells (S_api_Series.cs ⟨ofL name, s⟩).toArray 62) = h2 at *
  have z2 := W.size
  have cs : ∀ {h'}, Blk h' h.size (S_api_Series.cs ⟨ofL name, s⟩) 62 → cellH h' ((⟨h.size, 0, none⟩ : Addr).add 1) = some (Slc.v s) := fun K => by rw [add_mk, K.cell]; rfl
  refine ⟨ofL name, by rw [P.cell]; rfl, word_ok nl ?_⟩
  unfold checkU at H
  have fin := H h2 W
  cases hw : wordU name with
  | false =>
    rw [if_pos (by simp)]
    unfold label_Check_g1
    rw [if_pos rfl]
    rw [hw, if_neg (by simp)] at fin; exact fin
  | true =>
    rw [if_neg (by simp)]
    simp only [hw, if_true] at H fin
    refine ⟨s, cs P, ?_⟩
    unfold label_Check_g1
    by_cases h8 : ls.length > 8
    · rw [if_pos (by rw [decide_eq_true_eq]; omega)]
      rw [if_pos h8, if_neg (by simp)] at fin; exact fin
    rw [if_neg (by rw [decide_eq_true_eq]; omega)]
    simp only [if_neg h8] at H
    refine ⟨s, cs P, ?_⟩
    refine ⟨fun i h' => 0 ≤ i ∧ i ≤ ls.length ∧ chkL (prevU ls i.toNat) (ls.drop i.toNat) = chkL none ls ∧ Ext h2.size h2 h', fun i _ => (ls.length - i).toNat, ⟨by omega, by omega, rfl, Ext.refl _ _⟩, ?_⟩
    rintro i h3 ⟨i0, i1, hc, X⟩
    have z3 := X.size
    have P3 := P.ext X pl
    have L3 := (L.ext W).ext X
    have X03 : Ext h.size h h3 := W.trans (X.mono z2)
    unfold label_Check_l2b
    by_cases hi : i < ls.length
    · rw [if_pos (by rw [decide_eq_true_eq]; omega)]
      have hx : ls[i.toNat]? = some (ls[i.toNat]'(by omega)) := by simp
      have hd : ls.drop i.toNat = (ls[i.toNat]'(by omega)) :: ls.drop (i.toNat + 1) := List.drop_eq_getElem_cons (by omega)
      generalize ls[i.toNat]'(by omega) = x at *
      obtain ⟨ok1, ok2⟩ := ok x (List.mem_of_getElem? hx)
      obtain ⟨a, ha, C⟩ := L3.at' i.toNat (lst x) (by rw [List.getElem?_map, hx]; rfl)
      refine ⟨a, ha, i0, by omega, lst x, C, _, _, rfl, rfl, ?_⟩
      have T := Blk.push h3 (S_api_Label.cs ⟨ByteArray.empty, ByteArray.empty⟩) 103
      have T2 := T.sets_all (vs := S_api_Label.cs (lst x)) rfl
      have W5 := (Ext.push h3 (.cells (S_api_Label.cs ⟨ByteArray.empty, ByteArray.empty⟩).toArray 103) (Nat.le_refl _)).trans (Ext.sets _ (a := ⟨h3.size, 0, none⟩) 0 (S_api_Label.cs (lst x)) (Nat.le_refl _))
      refine ⟨_, WrsAt.of_blk T (by rw [labcs_len]; omega), rfl, ?_⟩
      generalize setsH (h3.push (.cells (S_api_Label.cs ⟨ByteArray.empty, ByteArray.empty⟩).toArray 103)) ⟨h3.size, 0, none⟩ 0 (S_api_Label.cs (lst x)) = h5 at *
      have z5 := W5.size
      have P5 := P3.ext W5 P3.lt
      have L5 := L3.ext W5
      have X5 : Ext h2.size h2 h5 := X.trans (W5.mono z3)
      have X05 : Ext h.size h h5 := W.trans (X5.mono z2)
      rw [hd] at hc
      rw [chkL_cons] at hc
      have F := H h5 X05
      have j3 : ∀ b : Bool, (b = true → chkL none ls = false) → (b = false → chkL (some x.1) (ls.drop (i.toNat + 1)) = chkL none ls) → label_Check_j3 ⟨h.size, 0, none⟩ s (s.len : Int) i b k (fun q h' => (0 ≤ q ∧ q ≤ (ls.length : Int) ∧ chkL (prevU ls q.toNat) (ls.drop q.toNat) = chkL none ls ∧ Ext h2.size h2 h') ∧ ((ls.length : Int) - q).toNat < ((ls.length : Int) - i).toNat) h5 := fun b b1 b2 => by
        unfold label_Check_j3
        cases b with
        | true =>
          rw [if_pos rfl]
          rw [b1 rfl, if_neg (by simp)] at F; exact F
        | false =>
          rw [if_neg (by simp), wrapI64 (by omega) (by omega)]
          refine ⟨⟨by omega, by omega, ?_, X5⟩, by omega⟩
          rw [show (i + 1).toNat = i.toNat + 1 from by omega]
          have : prevU ls (i.toNat + 1) = some x.1 := by unfold prevU; rw [if_neg (by omega), show i.toNat + 1 - 1 = i.toNat from by omega, hx]; rfl
          rw [this]; exact b2 rfl
      refine ⟨ofL x.1, by rw [T2.cell]; rfl, word_ok ok1 ?_⟩
      cases hw1 : wordU x.1 with
      | false =>
        rw [hw1, if_neg (by simp)] at hc
        rw [if_pos (by simp), if_pos rfl]
        exact j3 true (fun _ => hc.symm) (fun h => by cases h)
      | true =>
        rw [hw1, if_pos rfl] at hc
        rw [if_neg (by simp)]
        refine ⟨ofL x.2, by rw [add_mk, T2.cell]; rfl, word_ok ok2 ?_⟩
        cases hw2 : wordU x.2 with
        | false =>
          rw [hw2, if_neg (by simp)] at hc
          rw [if_pos (by simp)]
          exact j3 true (fun _ => hc.symm) (fun h => by cases h)
        | true =>
          rw [hw2, if_pos rfl] at hc
          rw [if_neg (by simp)]
          by_cases hi0 : i > 0
          · rw [if_pos (by simpa using hi0)]
            refine ⟨s, cs P5, ?_⟩
            rw [wrapI64 (x := i - 1) (by omega) (by omega)]
            have hy : ls[i.toNat - 1]? = some (ls[i.toNat - 1]'(by omega)) := by simp
            generalize ls[i.toNat - 1]'(by omega) = y at *
            have pv : prevU ls i.toNat = some y.1 := by unfold prevU; rw [if_neg (by omega), hy]; rfl
            rw [pv] at hc
            obtain ⟨a2, ha2, C2⟩ := L5.at' (i.toNat - 1) (lst y) (by rw [List.getElem?_map, hy]; rfl)
            have c0 := C2 0 (.string (ofL y.1)) rfl
            rw [show (a2.add ((i.toNat - 1) * 2)).add 0 = a2.add ((i.toNat - 1) * 2) from by simp [Addr.add]] at c0
            refine ⟨a2, ha2, by omega, by omega, ofL y.1, by rw [show (i - 1).toNat = i.toNat - 1 from by omega]; exact c0, ofL x.1, by rw [T2.cell]; rfl, ?_⟩
            rw [ofL_toList, ofL_toList]
            have hc2 : (if Op.bytesLess y.1 x.1 = true then chkL (some x.1) (ls.drop (i.toNat + 1)) else false) = chkL none ls := hc
            refine j3 _ (fun hb => ?_) fun hb => ?_
            · rw [Bool.not_eq_true'] at hb
              rw [hb, if_neg (by simp)] at hc2; exact hc2.symm
            · rw [Bool.not_eq_false'] at hb
              rw [hb, if_pos rfl] at hc2; exact hc2
          · rw [if_neg (by simpa using hi0)]
            have pv : prevU ls i.toNat = none := by unfold prevU; rw [if_pos (by omega)]
            rw [pv] at hc
            exact j3 false (fun h => by cases h) fun _ => hc
    · rw [if_neg (by rw [decide_eq_true_eq]; omega)]
      have hd : ls.drop i.toNat = [] := List.drop_of_length_le (by omega)
      rw [hd] at hc
      have F := H h3 X03
      rw [← hc] at F
      exact F
def parseU (l : Tx) : Option (Tx × List LU) :=
  match selU l with
  | none => none
  | some (name, qs) => if (qs.any fun x => x.2.1 != 0) = true then none else if checkU name (qs.map fun x => (x.1, x.2.2)) = true then some (name, qs.map fun x => (x.1, x.2.2)) else none
theorem q_len (l : Tx) : (questionU l).1.1.length ≤ l.length ∧ (questionU l).1.2.2.length ≤ l.length := by
  have key : ∀ (n r : Tx) (j : Int) (ss : List Tx), n.length ≤ l.length → r.length ≤ l.length → (qgo n r j ss).1.1.length ≤ l.length ∧ (qgo n r j ss).1.2.2.length ≤ l.length := by
    intro n r j ss hn hr
    induction ss generalizing j with
    | nil => exact ⟨hn, Nat.zero_le _⟩
    | cons s ss ih =>
      unfold qgo
      split
      · exact ⟨hn, by dsimp only; rw [List.length_drop]; omega⟩
      · exact ih _
  have h1 : l.takeWhile letterU ++ l.dropWhile letterU = l := List.takeWhile_append_dropWhile
  have := congrArg List.length h1
  rw [List.length_append] at this
  exact key _ _ _ _ (by omega) (by omega)
theorem selGo_len : ∀ (f : Nat) (rest : Tx) (qs out : List QU) (N : Nat), rest.length ≤ N → (∀ x ∈ qs, x.1.length ≤ N ∧ x.2.2.length ≤ N) → qs.length ≤ 8 → selGo f rest qs = some out → (∀ x ∈ out, x.1.length ≤ N ∧ x.2.2.length ≤ N) ∧ out.length ≤ 8
  | 0, _, _, _, _, _, _, _, h => by cases h
  | f + 1, rest, qs, out, N, hr, hq, q8, h => by
    unfold selGo at h
    obtain ⟨d1, d2, _⟩ := cut_len rest 44
    have ql := q_len (cutU rest 44).1
    have hq' : ∀ x ∈ qs ++ [(questionU (cutU rest 44).1).1], x.1.length ≤ N ∧ x.2.2.length ≤ N := fun x hx => by
      rcases List.mem_append.1 hx with hx | hx
      · exact hq x hx
      · simp at hx; subst hx; exact ⟨by omega, by omega⟩
    split at h
    · cases h
    · rename_i hc
      have h8 : qs.length ≠ 8 := fun e => hc (.inr e)
      split at h
      · exact selGo_len f _ _ out N (by omega) hq' (by rw [List.length_append]; simp; omega) h
      · cases h
        refine ⟨hq', ?_⟩
        rw [List.length_append]; simp; omega
theorem sel_len {l name : Tx} {qs : List QU} (h : selU l = some (name, qs)) : name.length ≤ l.length ∧ (∀ x ∈ qs, x.1.length ≤ l.length ∧ x.2.2.length ≤ l.length) ∧ qs.length ≤ 8 := by
  unfold selU at h
  obtain ⟨d1, d2, _⟩ := cut_len l 123
  split at h
  · cases h
  · split at h
    · cases h; exact ⟨d1, by simp, by simp⟩
    · split at h
      · cases h
      · cases hg : selGo ((sufU (cutU l 123).2.1 125).1.length + 1) (sufU (cutU l 123).2.1 125).1 [] with
        | none => rw [hg] at h; cases h
        | some out =>
          rw [hg] at h; cases h
          have := suf_len (cutU l 123).2.1 125
          have := selGo_len _ _ _ _ l.length (by omega) (by simp) (by simp) hg
          exact ⟨d1, this.1, by have := this.2; simpa using this⟩
theorem Parse_ok {l : Tx} {k : S_api_Series × Int → Heap → Prop} {h : Heap} (hl : l.length ≤ 100000000)
    (H0 : ∀ h', parseU l = none → Ext h.size h h' → k (zSer, 4) h')
    (H1 : ∀ name ls s h', parseU l = some (name, ls) → Row h.size h' 103 2 s (ls.flatMap lcs) → s.len = ls.length → Ext h.size h h' → k (⟨ofL name, s⟩, 0) h') : label_Parse (ofL l) k h := by
  unfold label_Parse
  refine ⟨_, _, rfl, rfl, ?_⟩
  have P := Blk.push h (S_api_Series.cs zSer) 62
  have W := Ext.push h (.cells (S_api_Series.cs zSer).toArray 62) (Nat.le_refl _)
  have pl := P.lt
  generalize h.push (.cells (S_api_Series.cs zSer).toArray 62) = h2 at *
  have z2 := W.size
  -- what comes of a selector
  have go : ∀ (name : Tx) (qs : List QU) (sq : Slc) (e0 : Int) (h4 : Heap), Row h2.size h4 86 3 sq (qs.flatMap qcs) → sq.len = qs.length → Ext h2.size h2 h4 → name.length ≤ 100000000 → (∀ x ∈ qs, x.1.length ≤ 100000000 ∧ x.2.2.length ≤ 100000000) → qs.length ≤ 8 → (e0 = 0 ∨ e0 = 4) →
      parseU l = (if e0 ≠ 0 then none else if (qs.any fun x => x.2.1 != 0) = true then none else if checkU name (qs.map fun x => (x.1, x.2.2)) = true then some (name, qs.map fun x => (x.1, x.2.2)) else none) →
      ∃ (b5 : Nat) (h6 : Heap), b5 = h4.size ∧ h6 = h4.push (.cells (S_api_Selector.cs zSel).toArray 53) ∧ (∃ h7 : Heap, WrsAt h6 (⟨b5, 0, none⟩ : Addr) 2 ∧ h7 = setsH h6 (⟨b5, 0, none⟩ : Addr) 0 (S_api_Selector.cs ⟨ofL name, sq⟩) ∧ (∃ v8 : ByteArray, cellH h7 (⟨b5, 0, none⟩ : Addr) = some (.string v8) ∧ (∃ (b9 : Nat) (h10 : Heap), b9 = h7.size ∧ h10 = h7.push (.cells (S_api_Series.cs zSer).toArray 62) ∧ (∃ h11 : Heap, WrsAt h10 (⟨b9, 0, none⟩ : Addr) 2 ∧ h11 = setsH h10 (⟨b9, 0, none⟩ : Addr) 0 (S_api_Series.cs (⟨v8, (⟨none, 0, 0⟩ : Slc)⟩ : S_api_Series)) ∧ (∃ v12 : Slc, cellH h11 ((⟨b5, 0, none⟩ : Addr).add 1) = some (Slc.v v12) ∧ (label_Parse_l1 (⟨h.size, 0, none⟩ : Addr) (⟨b9, 0, none⟩ : Addr) v12 (v12.len : Int) e0 0 k h11)))))) := by
    intro name qs sq e0 h4 Rq sql X4 nl ql q8 he hp
    have z4 := X4.size
    have P4 := P.ext X4 pl
    refine ⟨_, _, rfl, rfl, ?_⟩
    have Q := Blk.push h4 (S_api_Selector.cs zSel) 53
    have Q2 := Q.sets_all (vs := S_api_Selector.cs ⟨ofL name, sq⟩) rfl
    have W5 := (Ext.push h4 (.cells (S_api_Selector.cs zSel).toArray 53) (Nat.le_refl _)).trans (Ext.sets _ (a := ⟨h4.size, 0, none⟩) 0 (S_api_Selector.cs ⟨ofL name, sq⟩) (Nat.le_refl _))
    refine ⟨_, WrsAt.of_blk Q (by rw [scs_len]; omega), rfl, ?_⟩
    generalize setsH (h4.push (.cells (S_api_Selector.cs zSel).toArray 53)) ⟨h4.size, 0, none⟩ 0 (S_api_Selector.cs ⟨ofL name, sq⟩) = h5 at *
    have z5 := W5.size
    have ql5 := Q2.lt
    refine ⟨ofL name, by rw [Q2.cell]; rfl, _, _, rfl, rfl, ?_⟩
    have S := Blk.push h5 (S_api_Series.cs zSer) 62
    have S2 := S.sets_all (vs := S_api_Series.cs ⟨ofL name, ⟨none, 0, 0⟩⟩) rfl
    have W6 := (Ext.push h5 (.cells (S_api_Series.cs zSer).toArray 62) (Nat.le_refl _)).trans (Ext.sets _ (a := ⟨h5.size, 0, none⟩) 0 (S_api_Series.cs ⟨ofL name, ⟨none, 0, 0⟩⟩) (Nat.le_refl _))
    refine ⟨_, WrsAt.of_blk S (by rw [sercs_len]; omega), rfl, ?_⟩
    generalize setsH (h5.push (.cells (S_api_Series.cs zSer).toArray 62)) ⟨h5.size, 0, none⟩ 0 (S_api_Series.cs ⟨ofL name, ⟨none, 0, 0⟩⟩) = h6 at *
    have z6 := W6.size
    have sl6 := S2.lt
    have Q6 := Q2.ext W6 ql5
    refine ⟨sq, by rw [add_mk, Q6.cell]; rfl, ?_⟩
    have X46 : Ext h4.size h4 h6 := W5.trans (W6.mono z5)
    have P6 := P4.ext X46 P4.lt
    have Rq6 := Rq.ext X46 fun g hg => (Rq.bd hg).2
    have X06 : Ext h.size h h6 := W.trans ((X4.trans (X46.mono z4)).mono z2)
    have g3 : ∀ (b : Bool) (s : Slc) (h' : Heap) nx, Blk h' h.size (S_api_Series.cs zSer) 62 → Ext h.size h h' → (b = true → parseU l = none) → (b = false → Blk h' h5.size (S_api_Series.cs ⟨ofL name, s⟩) 62 ∧ Row (h5.size + 1) h' 103 2 s ((qs.map fun x => (x.1, x.2.2)).flatMap lcs) ∧ s.len = qs.length ∧ parseU l = some (name, qs.map fun x => (x.1, x.2.2))) →
        label_Parse_g3 ⟨h.size, 0, none⟩ ⟨h5.size, 0, none⟩ b k nx h' := fun b s h' nx P' X' b1 b2 => by
      unfold label_Parse_g3
      cases b with
      | true =>
        rw [if_pos rfl]
        exact ⟨_, WrsAt.of_blk P' (by rw [sercs_len]; omega), rfl, _, CellsAt.of_blk (P'.sets_all (vs := S_api_Series.cs zSer) rfl), H0 _ (b1 rfl) (X'.trans (Ext.sets _ _ _ (Nat.le_refl _)))⟩
      | false =>
        obtain ⟨S', R', sl', hp'⟩ := b2 rfl
        rw [if_neg (by simp)]
        refine ⟨_, CellsAt.of_blk S', _, WrsAt.of_blk P' (by rw [sercs_len]; omega), rfl, _, CellsAt.of_blk (P'.sets_all (vs := S_api_Series.cs ⟨ofL name, s⟩) rfl), ?_⟩
        exact H1 name _ s _ hp' ((R'.keep fun g hg => setsH_other _ _ (by have := (R'.bd hg).1; dsimp only; omega)).mono (by omega)) (by rw [List.length_map]; exact sl') (X'.trans (Ext.sets _ _ _ (Nat.le_refl _)))
    refine ⟨fun q h' => ∃ s, 0 ≤ q.2 ∧ q.2 ≤ qs.length ∧ Blk h' h.size (S_api_Series.cs zSer) 62 ∧ Blk h' h5.size (S_api_Series.cs ⟨ofL name, s⟩) 62 ∧ Row (h5.size + 1) h' 103 2 s (((qs.take q.2.toNat).map fun x => (x.1, x.2.2)).flatMap lcs) ∧ s.len = q.2.toNat ∧ Row h2.size h' 86 3 sq (qs.flatMap qcs) ∧ Ext h.size h h' ∧
        q.1 = (if ((qs.take q.2.toNat).any fun x => x.2.1 != 0) = true then 4 else e0), fun q _ => (qs.length - q.2).toNat, ⟨⟨none, 0, 0⟩, by dsimp only; omega, by dsimp only; omega, P6, S2, by simpa using Row.nil _ _ _ _, rfl, Rq6, X06, by simp⟩, ?_⟩
    rintro e i h' ⟨s, i0, i1, P', S', R', sl', Rq', X', ee⟩
    dsimp only at i0 i1 R' sl' ee
    have z' := X'.size
    have p' := P'.lt
    have s' := S'.lt
    unfold label_Parse_l1b
    by_cases hi : i < qs.length
    · rw [if_pos (by rw [decide_eq_true_eq]; omega)]
      have hx : qs[i.toNat]? = some (qs[i.toNat]'(by omega)) := by simp
      generalize qs[i.toNat]'(by omega) = x at *
      have Lq : LsAt S_api_Question.cs 3 h' sq (qs.map qst) := LsAt.of_slc scs3_len (by rw [List.flatMap_map]; exact Rq'.slc) (by rw [List.length_map]; exact sql) (by omega)
      obtain ⟨a, ha, C⟩ := Lq.at' i.toNat (qst x) (by rw [List.getElem?_map, hx]; rfl)
      refine ⟨a, ha, i0, by omega, qst x, C, _, _, rfl, rfl, ?_⟩
      have T := Blk.push h' (S_api_Question.cs ⟨ByteArray.empty, 0, ByteArray.empty⟩) 86
      have T2 := T.sets_all (vs := S_api_Question.cs (qst x)) rfl
      have W7 := (Ext.push h' (.cells (S_api_Question.cs ⟨ByteArray.empty, 0, ByteArray.empty⟩).toArray 86) (Nat.le_refl _)).trans (Ext.sets _ (a := ⟨h'.size, 0, none⟩) 0 (S_api_Question.cs (qst x)) (Nat.le_refl _))
      refine ⟨_, WrsAt.of_blk T (by rw [scs3_len]; omega), rfl, ?_⟩
      generalize setsH (h'.push (.cells (S_api_Question.cs ⟨ByteArray.empty, 0, ByteArray.empty⟩).toArray 86)) ⟨h'.size, 0, none⟩ 0 (S_api_Question.cs (qst x)) = h7 at *
      have z7 := W7.size
      have P7 := P'.ext W7 p'
      have S7 := S'.ext W7 s'
      have R7 := R'.ext W7 fun g hg => (R'.bd hg).2
      have Rq7 := Rq'.ext W7 fun g hg => (Rq'.bd hg).2
      have X7 : Ext h.size h h7 := X'.trans (W7.mono z')
      have j2 : ∀ e', e' = (if ((qs.take (i.toNat + 1)).any fun x => x.2.1 != 0) = true then 4 else e0) → label_Parse_j2 ⟨h.size, 0, none⟩ ⟨h5.size, 0, none⟩ ⟨h'.size, 0, none⟩ sq (sq.len : Int) i e' k (fun q h'' => (∃ s, 0 ≤ q.2 ∧ q.2 ≤ (qs.length : Int) ∧ Blk h'' h.size (S_api_Series.cs zSer) 62 ∧ Blk h'' h5.size (S_api_Series.cs ⟨ofL name, s⟩) 62 ∧ Row (h5.size + 1) h'' 103 2 s (((qs.take q.2.toNat).map fun x => (x.1, x.2.2)).flatMap lcs) ∧ s.len = q.2.toNat ∧ Row h2.size h'' 86 3 sq (qs.flatMap qcs) ∧ Ext h.size h h'' ∧
          q.1 = (if ((qs.take q.2.toNat).any fun x => x.2.1 != 0) = true then 4 else e0)) ∧ ((qs.length : Int) - q.2).toNat < ((qs.length : Int) - i).toNat) h7 := fun e' he' => by
        unfold label_Parse_j2
        refine ⟨s, by rw [add_mk, S7.cell]; rfl, ofL x.1, by rw [T2.cell]; rfl, ofL x.2.2, by rw [add_mk, T2.cell]; rfl, _, _, rfl, rfl, ?_⟩
        refine App.row (R7.pushed _) (by simp; omega) rfl rfl (oneC (by kernel_rfl)) (by omega) (by simp only [maxLen]; omega) fun s'' h8 R8 l8 z8 F8 _ => ?_
        simp at z8
        have F : ∀ g, g < h7.size → s.blk ≠ some g → h8[g]? = h7[g]? := fun g hg hs => by rw [F8 g (by simp; omega) hs, Array.getElem?_push, if_neg (by omega)]
        have ns : ∀ g, g ≤ h5.size → s.blk ≠ some g := fun g hg e => by have := (R7.bd e).1; omega
        have P8 : Blk h8 h.size (S_api_Series.cs zSer) 62 := P7.old (F h.size (by omega) (ns _ (by omega)))
        have S8 : Blk h8 h5.size (S_api_Series.cs ⟨ofL name, s⟩) 62 := S7.old (F h5.size (by omega) (ns _ (Nat.le_refl _)))
        refine ⟨_, by rw [add_mk]; exact S8.wr (by rw [sercs_len]; omega), rfl, ?_⟩
        rw [show (⟨h5.size, 0, none⟩ : Addr).add 1 = ⟨h5.size, 1, none⟩ from by simp, wrapI64 (by omega) (by omega)]
        have S9 : Blk (setH h8 ⟨h5.size, 1, none⟩ (Slc.v s'')) h5.size (S_api_Series.cs ⟨ofL name, s''⟩) 62 := S8.set
        have oth : ∀ g, g ≠ h5.size → (setH h8 ⟨h5.size, 1, none⟩ (Slc.v s''))[g]? = h8[g]? := fun g hg => setH_other hg
        have z9 : (setH h8 ⟨h5.size, 1, none⟩ (Slc.v s'')).size = h8.size := setH_size
        generalize setH h8 ⟨h5.size, 1, none⟩ (Slc.v s'') = h9 at *
        refine ⟨⟨s'', by dsimp only; omega, by dsimp only; omega, P8.old (oth _ (by omega)), S9, ?_, by dsimp only; rw [l8]; omega, Rq7.keep fun g hg => ?_, X7.trans ⟨by omega, fun g hg => by rw [oth g (by omega), F g (by omega) (ns g (by omega))]⟩, by dsimp only; rw [show (i + 1).toNat = i.toNat + 1 from by omega]; exact he'⟩, by dsimp only; omega⟩
        · dsimp only
          have := R8.keep fun g hg => oth g (by have := (R8.bd hg).1; omega)
          rw [show (i + 1).toNat = i.toNat + 1 from by omega, List.take_add_one, hx, List.map_append, List.flatMap_append]
          simpa [lcs, lst] using this
        · have b7 := Rq7.bd hg
          rw [oth g (fun e => by subst e; exact Row.unlike Rq7 S7 (by decide) hg), F g b7.2 fun e => Row.ne_row R7 Rq7 (by decide) e hg]
      refine ⟨x.2.1, by rw [add_mk, T2.cell]; rfl, ?_⟩
      have anys : ((qs.take (i.toNat + 1)).any fun x => x.2.1 != 0) = (((qs.take i.toNat).any fun x => x.2.1 != 0) || (x.2.1 != 0)) := by
        rw [List.take_add_one, hx, List.any_append]; simp
      by_cases hs : x.2.1 = 0
      · rw [if_neg (by simp [hs])]
        exact j2 e (by rw [ee, anys, hs, show ((0 : Int) != 0) = false from rfl, Bool.or_false])
      · rw [if_pos (by simpa using hs)]
        exact j2 4 (by rw [anys, show (x.2.1 != 0) = true from by simpa using hs, Bool.or_true, if_pos rfl])
    · rw [if_neg (by rw [decide_eq_true_eq]; omega)]
      have ht : qs.take i.toNat = qs := List.take_of_length_le (by omega)
      rw [ht] at R' ee
      by_cases hany : (qs.any fun x => x.2.1 != 0) = true
      · rw [if_pos hany] at ee
        rw [if_pos (by rw [ee]; decide)]
        refine g3 true s h' _ P' X' (fun _ => ?_) (fun h => by cases h)
        rw [hp, if_pos hany]; split <;> rfl
      · rw [if_neg hany] at ee
        by_cases he0 : e0 = 0
        · rw [if_neg (by rw [ee, he0]; decide)]
          have Ls : LsAt S_api_Label.cs 2 h' s ((qs.map fun x => (x.1, x.2.2)).map lst) := LsAt.of_slc labcs_len (by rw [List.flatMap_map]; exact R'.slc) (by simp; omega) (by omega)
          refine ⟨_, CellsAt.of_blk S', SCheck_ok Ls (by omega) (fun y hy => ?_) (by omega) fun h8 X8 => ?_⟩
          · simp only [List.mem_map] at hy
            obtain ⟨x, hx, rfl⟩ := hy
            have := ql x hx
            exact ⟨by dsimp only; omega, by dsimp only; omega⟩
          have z8 := X8.size
          have P8 := P'.ext X8 p'
          have X08 : Ext h.size h h8 := X'.trans (X8.mono z')
          rw [if_neg (by simpa using he0), if_neg hany] at hp
          cases hck : checkU name (qs.map fun x => (x.1, x.2.2)) with
          | true =>
            rw [hck, if_pos rfl] at hp
            rw [if_pos rfl]
            exact g3 _ s h8 _ P8 X08 (fun h => by simp at h) fun _ => ⟨S'.ext X8 s', R'.ext X8 fun g hg => (R'.bd hg).2, by omega, hp⟩
          | false =>
            rw [hck, if_neg (by simp)] at hp
            rw [if_neg (by simp)]
            exact g3 _ s h8 _ P8 X08 (fun _ => hp) fun h => by simp at h
        · rw [if_pos (by rw [ee]; simpa using he0)]
          refine g3 true s h' _ P' X' (fun _ => ?_) (fun h => by cases h)
          rw [hp, if_pos he0]
  refine Selector_ok hl (fun h4 hn X4 => ?_) fun name qs s h4 hs R4 sl4 X4 => ?_
  · exact go [] [] ⟨none, 0, 0⟩ 4 h4 (Row.nil _ _ _ _) rfl X4 (by simp) (by simp) (by simp) (.inr rfl) (by unfold parseU; rw [hn]; rfl)
  · obtain ⟨n1, n2, n3⟩ := sel_len hs
    exact go name qs s 0 h4 R4 sl4 X4 (by omega) (fun x hx => by have := n2 x hx; omega) n3 (.inl rfl) (by unfold parseU; rw [hs]; rfl)
end Go.Q.Yz
set_option linter.unusedVariables false
set_option linter.unusedSimpArgs false
namespace Go.Q.Yz
def hasU (ls : List LU) (a b : Tx) : Bool := ls.any fun l => decide (l.1 = a) && decide (l.2 = b)
def begU (ls : List LU) (a b : Tx) : Bool := ls.any fun l => decide (l.1 = a) && prefU l.2 b
def answerU (ls : List LU) (x : QU) : Bool := if x.2.1 = 0 then hasU ls x.1 x.2.2 else if x.2.1 = 1 then !hasU ls x.1 x.2.2 else if x.2.1 = 2 then begU ls x.1 x.2.2 else false
def chooseU (qn : Tx) (qs : List QU) (sn : Tx) (ls : List LU) : Bool := if qn ≠ [] ∧ qn ≠ sn then false else !(qs.any fun x => !answerU ls x)
theorem bq (a b : Tx) : ((ofL a).toList == (ofL b).toList) = decide (a = b) := by
  rw [ofL_toList, ofL_toList]; by_cases h : a = b <;> simp [h]
theorem any_snoc {α : Type} {p : α → Bool} {l : List α} {i : Nat} {x : α} (hx : l[i]? = some x) : (l.take (i + 1)).any p = ((l.take i).any p || p x) := by
  rw [List.take_add_one, hx, List.any_append]; simp
theorem any_take {α : Type} {p : α → Bool} {l : List α} {i : Nat} (h : (l.take i).any p = true) : l.any p = true := by
  obtain ⟨x, hx, hp⟩ := List.any_eq_true.1 h
  exact List.any_eq_true.2 ⟨x, List.mem_of_mem_take hx, hp⟩
section
variable {s : Slc} {ls : List LU}
theorem LHas_ok {a b : Tx} {k : Bool → Heap → Prop} {h : Heap} (L : LsAt S_api_Label.cs 2 h s (ls.map lst)) (hm : ls.length ≤ 1000000) (H : ∀ h', Ext h.size h h' → k (hasU ls a b) h') : slices_Contains_api_Label_api_Label s ⟨ofL a, ofL b⟩ k h := by
  have sl : s.len = ls.length := by have := L.l; simpa using this
  unfold slices_Contains_api_Label_api_Label
  refine ⟨_, _, rfl, rfl, ?_⟩
  have P := Blk.push h (S_api_Label.cs ⟨ofL a, ofL b⟩) 103
  have W := Ext.push h (.cells (S_api_Label.cs ⟨ofL a, ofL b⟩).toArray 103) (Nat.le_refl _)
  generalize h.push (.cells (S_api_Label.cs ⟨ofL a, ofL b⟩).toArray 103) = h2 at *
  have z2 := W.size
  refine ⟨_, CellsAt.of_blk P, ?_⟩
  unfold slices_Index_api_Label_api_Label
  refine ⟨_, _, rfl, rfl, ?_⟩
  have Q := Blk.push h2 (S_api_Label.cs ⟨ofL a, ofL b⟩) 103
  have W3 := Ext.push h2 (.cells (S_api_Label.cs ⟨ofL a, ofL b⟩).toArray 103) (Nat.le_refl _)
  generalize h2.push (.cells (S_api_Label.cs ⟨ofL a, ofL b⟩).toArray 103) = h3 at *
  have X03 : Ext h.size h h3 := W.trans (W3.mono z2)
  have L3 := (L.ext W).ext W3
  refine ⟨fun i h' => 0 ≤ i ∧ i ≤ ls.length ∧ (hasU (ls.take i.toNat) a b) = false ∧ h' = h3, fun i _ => (ls.length - i).toNat, ⟨by omega, by omega, by simp [hasU], rfl⟩, ?_⟩
  rintro i h' ⟨i0, i1, ha, e⟩
  subst e
  unfold slices_Index_api_Label_api_Label_l1b
  by_cases hi : i < ls.length
  · rw [if_pos (by rw [decide_eq_true_eq]; omega)]
    have hx : ls[i.toNat]? = some (ls[i.toNat]'(by omega)) := by simp
    generalize ls[i.toNat]'(by omega) = x at *
    obtain ⟨ad, h1, C⟩ := L3.at' i.toNat (lst x) (by rw [List.getElem?_map, hx]; rfl)
    refine ⟨_, CellsAt.of_blk Q, ad, h1, i0, by omega, lst x, C, ?_⟩
    show (if (((ofL a).toList == (ofL x.1).toList) && ((ofL b).toList == (ofL x.2).toList)) = true then _ else _)
    rw [bq, bq]
    have hs := any_snoc (p := fun l : LU => decide (l.1 = a) && decide (l.2 = b)) hx
    by_cases hb : a = x.1 ∧ b = x.2
    · rw [if_pos (by simp [hb.1, hb.2])]
      have : hasU ls a b = true := any_take (i := i.toNat + 1) (by rw [hs]; simp [hb.1, hb.2])
      have F := H h' X03
      rw [this] at F
      dsimp only
      rw [show decide (i ≥ 0) = true from by simpa using i0]; exact F
    · rw [if_neg (by simpa using hb), wrapI64 (by omega) (by omega)]
      refine ⟨⟨by omega, by omega, ?_, rfl⟩, by dsimp only; omega⟩
      rw [show (i + 1).toNat = i.toNat + 1 from by omega]
      unfold hasU at ha ⊢
      rw [hs, ha]
      have : ¬ (x.1 = a ∧ x.2 = b) := fun h => hb ⟨h.1.symm, h.2.symm⟩
      by_cases h1 : x.1 = a
      · have : ¬ x.2 = b := fun h2 => this ⟨h1, h2⟩
        simp [this]
      · simp [h1]
  · rw [if_neg (by rw [decide_eq_true_eq]; omega)]
    rw [List.take_of_length_le (by omega)] at ha
    have F := H h' X03
    rw [ha] at F
    exact ⟨_, rfl, F⟩
theorem LBeg_ok {x : QU} {b : Nat} {k : Bool → Heap → Prop} {h : Heap} (L : LsAt S_api_Label.cs 2 h s (ls.map lst)) (hm : ls.length ≤ 1000000) (ok : okL ls) (P : Blk h b (qcs x) 86) (H : ∀ h', Ext h.size h h' → k (begU ls x.1 x.2.2) h') : slices_ContainsFunc_api_Label_api_Label__label_answers_1 s ⟨b, 0, none⟩ k h := by
  have sl : s.len = ls.length := by have := L.l; simpa using this
  unfold slices_ContainsFunc_api_Label_api_Label__label_answers_1 slices_IndexFunc_api_Label_api_Label__label_answers_1
  refine ⟨fun i h' => 0 ≤ i ∧ i ≤ ls.length ∧ (begU (ls.take i.toNat) x.1 x.2.2) = false ∧ Ext h.size h h', fun i _ => (ls.length - i).toNat, ⟨by omega, by omega, by simp [begU], Ext.refl _ _⟩, ?_⟩
  rintro i h1 ⟨i0, i1, ha, X⟩
  have z1 := X.size
  unfold slices_IndexFunc_api_Label_api_Label__label_answers_1_l1b
  by_cases hi : i < ls.length
  · rw [if_pos (by rw [decide_eq_true_eq]; omega)]
    have hx : ls[i.toNat]? = some (ls[i.toNat]'(by omega)) := by simp
    generalize ls[i.toNat]'(by omega) = y at *
    obtain ⟨ad, hd, C⟩ := (L.ext X).at' i.toNat (lst y) (by rw [List.getElem?_map, hx]; rfl)
    refine ⟨ad, hd, i0, by omega, lst y, C, ?_⟩
    unfold label_answers_1
    refine ⟨_, _, rfl, rfl, ?_⟩
    have Q := Blk.push h1 (S_api_Label.cs (lst y)) 103
    have W2 := Ext.push h1 (.cells (S_api_Label.cs (lst y)).toArray 103) (Nat.le_refl _)
    have P2 := (P.ext X P.lt).ext W2 (by have := P.lt; omega)
    generalize h1.push (.cells (S_api_Label.cs (lst y)).toArray 103) = h2 at *
    have X2 : Ext h.size h h2 := X.trans (W2.mono z1)
    have hs := any_snoc (p := fun l : LU => decide (l.1 = x.1) && prefU l.2 x.2.2) hx
    have step : ∀ r, r = (decide (y.1 = x.1) && prefU y.2 x.2.2) → (if r = true then k (decide (i ≥ 0)) h2 else (0 ≤ IntKind.i64.wrap (i + 1) ∧ IntKind.i64.wrap (i + 1) ≤ (ls.length : Int) ∧ begU (ls.take (IntKind.i64.wrap (i + 1)).toNat) x.1 x.2.2 = false ∧ Ext h.size h h2) ∧ ((ls.length : Int) - IntKind.i64.wrap (i + 1)).toNat < ((ls.length : Int) - i).toNat) := fun r hr => by
      rw [← hr] at hs
      cases hr2 : r with
      | true =>
        rw [if_pos rfl]
        have : begU ls x.1 x.2.2 = true := any_take (i := i.toNat + 1) (by rw [hs, hr2]; simp)
        have F := H h2 X2
        rw [this] at F
        rw [show decide (i ≥ 0) = true from by simpa using i0]; exact F
      | false =>
        rw [if_neg (by simp), wrapI64 (by omega) (by omega)]
        refine ⟨⟨by omega, by omega, ?_, X2⟩, by omega⟩
        rw [show (i + 1).toNat = i.toNat + 1 from by omega]
        unfold begU at ha ⊢
        rw [hs, ha, hr2]; rfl
    refine ⟨ofL y.1, by rw [Q.cell]; rfl, ofL x.1, by rw [P2.cell]; rfl, ?_⟩
    rw [bq]
    by_cases hn : y.1 = x.1
    · rw [if_pos (by simpa using hn)]
      refine ⟨ofL y.2, by rw [add_mk, Q.cell]; rfl, ofL x.2.2, by rw [add_mk, P2.cell]; rfl, ?_⟩
      refine HasPrefix_ok (ok y (List.mem_of_getElem? hx)).2 ?_
      unfold label_answers_1_g1
      exact step _ (by simp [hn])
    · rw [if_neg (by simpa using hn)]
      unfold label_answers_1_g1
      exact step _ (by simp [hn])
  · rw [if_neg (by rw [decide_eq_true_eq]; omega)]
    rw [List.take_of_length_le (by omega)] at ha
    have F := H h1 X
    rw [ha] at F
    exact ⟨_, rfl, F⟩
theorem Answers_ok {x : QU} {sn : Tx} {k : Bool → Heap → Prop} {h : Heap} (L : LsAt S_api_Label.cs 2 h s (ls.map lst)) (hm : ls.length ≤ 1000000) (ok : okL ls) (H : ∀ h', Ext h.size h h' → k (answerU ls x) h') : label_answers (qst x) ⟨ofL sn, s⟩ k h := by
  unfold label_answers
  refine ⟨_, _, rfl, rfl, ?_⟩
  have P := Blk.push h (qcs x) 86
  have W := Ext.push h (.cells (qcs x).toArray 86) (Nat.le_refl _)
  have pl := P.lt
  rw [show S_api_Question.cs (qst x) = qcs x from rfl]
  generalize h.push (.cells (qcs x).toArray 86) = h2 at *
  have z2 := W.size
  refine ⟨_, _, rfl, rfl, ?_⟩
  have Q := Blk.push h2 (S_api_Series.cs ⟨ofL sn, s⟩) 62
  have W3 := Ext.push h2 (.cells (S_api_Series.cs ⟨ofL sn, s⟩).toArray 62) (Nat.le_refl _)
  generalize h2.push (.cells (S_api_Series.cs ⟨ofL sn, s⟩).toArray 62) = h3 at *
  have P3 := P.ext W3 pl
  have L3 := (L.ext W).ext W3
  have X3 : Ext h.size h h3 := W.trans (W3.mono z2)
  have z3 := X3.size
  have H' : ∀ h', Ext h3.size h3 h' → k (answerU ls x) h' := fun h' X => H h' (X3.trans (X.mono z3))
  unfold answerU at H'
  have cq : ∀ i : Nat, cellH h3 ((⟨h.size, 0, none⟩ : Addr).add i) = (qcs x)[i]? := fun i => by rw [add_mk, Nat.zero_add, P3.cell]
  have cs : cellH h3 ((⟨h2.size, 0, none⟩ : Addr).add 1) = some (Slc.v s) := by rw [add_mk, Q.cell]; rfl
  refine ⟨x.2.1, by rw [cq]; rfl, ?_⟩
  by_cases h0 : x.2.1 = 0
  · rw [if_pos (by simp [h0])]
    simp only [if_pos h0] at H'
    exact ⟨s, cs, ofL x.1, by rw [P3.cell]; rfl, ofL x.2.2, by rw [cq]; rfl, LHas_ok L3 hm H'⟩
  rw [if_neg (by simpa using h0)]
  simp only [if_neg h0] at H'
  by_cases h1 : x.2.1 = 1
  · rw [if_pos (by simp [h1])]
    simp only [if_pos h1] at H'
    exact ⟨s, cs, ofL x.1, by rw [P3.cell]; rfl, ofL x.2.2, by rw [cq]; rfl, LHas_ok L3 hm H'⟩
  rw [if_neg (by simpa using h1)]
  simp only [if_neg h1] at H'
  by_cases h2' : x.2.1 = 2
  · rw [if_pos (by simp [h2'])]
    simp only [if_pos h2'] at H'
    exact ⟨s, cs, LBeg_ok L3 hm ok P3 H'⟩
  · rw [if_neg (by simpa using h2')]
    simp only [if_neg h2'] at H'
    exact H' h3 (Ext.refl _ _)
variable {sq : Slc} {qs : List QU}
theorem Chooses_ok {qn sn : Tx} {k : Bool → Heap → Prop} {h : Heap} (Lq : LsAt S_api_Question.cs 3 h sq (qs.map qst)) (L : LsAt S_api_Label.cs 2 h s (ls.map lst)) (hq : qs.length ≤ 1000000) (hm : ls.length ≤ 1000000) (ok : okL ls) (H : ∀ h', Ext h.size h h' → k (chooseU qn qs sn ls) h') : label_Chooses ⟨ofL qn, sq⟩ ⟨ofL sn, s⟩ k h := by
  have ql : sq.len = qs.length := by have := Lq.l; simpa using this
  unfold label_Chooses
  refine ⟨_, _, rfl, rfl, ?_⟩
  have P := Blk.push h (S_api_Selector.cs ⟨ofL qn, sq⟩) 53
  have W := Ext.push h (.cells (S_api_Selector.cs ⟨ofL qn, sq⟩).toArray 53) (Nat.le_refl _)
  have pl := P.lt
  generalize h.push (.cells (S_api_Selector.cs ⟨ofL qn, sq⟩).toArray 53) = h2 at *
  have z2 := W.size
  refine ⟨_, _, rfl, rfl, ?_⟩
  have Q := Blk.push h2 (S_api_Series.cs ⟨ofL sn, s⟩) 62
  have W3 := Ext.push h2 (.cells (S_api_Series.cs ⟨ofL sn, s⟩).toArray 62) (Nat.le_refl _)
  generalize h2.push (.cells (S_api_Series.cs ⟨ofL sn, s⟩).toArray 62) = h3 at *
  have P3 := P.ext W3 pl
  have L3 := (L.ext W).ext W3
  have Lq3 := (Lq.ext W).ext W3
  have X3 : Ext h.size h h3 := W.trans (W3.mono z2)
  have z3 := X3.size
  have ql3 := Q.lt
  have H' : ∀ h', Ext h3.size h3 h' → k (chooseU qn qs sn ls) h' := fun h' X => H h' (X3.trans (X.mono z3))
  unfold chooseU at H'
  have g1 : ∀ b, b = decide (qn ≠ [] ∧ qn ≠ sn) → label_Chooses_g1 ⟨h.size, 0, none⟩ ⟨h2.size, 0, none⟩ b k h3 := fun b hb => by
    unfold label_Chooses_g1
    by_cases hc : qn ≠ [] ∧ qn ≠ sn
    · rw [hb, if_pos (by simpa using hc)]
      have := H' h3 (Ext.refl _ _)
      rw [if_pos hc] at this; exact this
    rw [hb, if_neg (by simpa using hc)]
    simp only [if_neg hc] at H'
    refine ⟨sq, by rw [add_mk, P3.cell]; rfl, ?_⟩
    unfold slices_ContainsFunc_api_Question_api_Question__label_Chooses_1 slices_IndexFunc_api_Question_api_Question__label_Chooses_1
    refine ⟨fun i h' => 0 ≤ i ∧ i ≤ qs.length ∧ ((qs.take i.toNat).any fun x => !answerU ls x) = false ∧ Ext h3.size h3 h', fun i _ => (qs.length - i).toNat, ⟨by omega, by omega, by simp, Ext.refl _ _⟩, ?_⟩
    rintro i h4 ⟨i0, i1, ha, X4⟩
    have z4 := X4.size
    unfold slices_IndexFunc_api_Question_api_Question__label_Chooses_1_l1b
    by_cases hi : i < qs.length
    · rw [if_pos (by rw [decide_eq_true_eq]; omega)]
      have hx : qs[i.toNat]? = some (qs[i.toNat]'(by omega)) := by simp
      generalize qs[i.toNat]'(by omega) = x at *
      obtain ⟨ad, hd, C⟩ := (Lq3.ext X4).at' i.toNat (qst x) (by rw [List.getElem?_map, hx]; rfl)
      refine ⟨ad, hd, i0, by omega, qst x, C, ?_⟩
      unfold label_Chooses_1
      refine ⟨_, _, rfl, rfl, ?_⟩
      have T := Blk.push h4 (S_api_Question.cs (qst x)) 86
      have W5 := Ext.push h4 (.cells (S_api_Question.cs (qst x)).toArray 86) (Nat.le_refl _)
      have Q5 := (Q.ext X4 ql3).ext W5 (by omega)
      generalize h4.push (.cells (S_api_Question.cs (qst x)).toArray 86) = h5 at *
      have z5 := W5.size
      refine ⟨qst x, CellsAt.of_blk T, _, CellsAt.of_blk Q5, Answers_ok ((L3.ext X4).ext W5) hm ok fun h6 X6 => ?_⟩
      have X36 : Ext h3.size h3 h6 := X4.trans ((W5.trans (X6.mono z5)).mono z4)
      have hs := any_snoc (p := fun x : QU => !answerU ls x) hx
      cases hb : answerU ls x with
      | true =>
        dsimp only
        rw [if_neg (by simp), wrapI64 (by omega) (by omega)]
        refine ⟨⟨by omega, by omega, ?_, X36⟩, by omega⟩
        rw [show (i + 1).toNat = i.toNat + 1 from by omega, hs, ha, hb]; rfl
      | false =>
        dsimp only
        rw [if_pos (by simp)]
        have : (qs.any fun x => !answerU ls x) = true := any_take (i := i.toNat + 1) (by rw [hs, hb]; simp)
        have F := H' h6 X36
        rw [this] at F
        rw [show decide (i ≥ 0) = true from by simpa using i0]; exact F
    · rw [if_neg (by rw [decide_eq_true_eq]; omega)]
      rw [List.take_of_length_le (by omega)] at ha
      have F := H' h4 X4
      rw [ha] at F
      exact ⟨_, rfl, F⟩
  have hne : ((ofL qn).toList == (⟨#[]⟩ : ByteArray).toList) = decide (qn = []) := bq qn []
  refine ⟨ofL qn, by rw [P3.cell]; rfl, ?_⟩
  rw [hne]
  by_cases hn : qn = []
  · rw [if_neg (by simp [hn])]
    exact g1 _ (by simp [hn])
  · rw [if_pos (by simp [hn])]
    refine ⟨ofL qn, by rw [P3.cell]; rfl, ofL sn, by rw [Q.cell]; rfl, ?_⟩
    rw [bq]
    exact g1 _ (by simp [hn])
end
end Go.Q.Yz
