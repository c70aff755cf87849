/- A part of the proof of statements of this seat: lemmas, no statement of their own. -/
import Derived.Test.YtidhlagdagbggaaYgLabB
import Derived.Test.YtidhlagdagbggaaQFr
import Derived.Test.YtidhlagdagbggaaQLs
import Derived.Test.YtidhlagdagbggaaYgLs
set_option linter.unusedVariables false
set_option linter.unusedSimpArgs false
namespace Go.Q.Yg
/-! ### series -/
abbrev LU := Tx × Tx
def lst (x : LU) : S_api_Label := ⟨ofL x.1, ofL x.2⟩
def lcs (x : LU) : List Value := S_api_Label.cs (lst x)
theorem lcs_len (x : LU) : (lcs x).length = 2 := rfl
theorem labcs_len (x : S_api_Label) : (S_api_Label.cs x).length = 2 := rfl
theorem sercs_len (x : S_api_Series) : (S_api_Series.cs x).length = 2 := rfl
abbrev zSer : S_api_Series := ⟨ByteArray.empty, ⟨none, 0, 0⟩⟩
def chkL : Option Tx → List LU → Bool
  | _, [] => true
  | prev, l :: r => if wordU l.1 = true then if wordU l.2 = true then if (match prev with | none => true | some p => Op.bytesLess p l.1) = true then chkL (some l.1) r else false else false else false
theorem chkL_cons (prev : Option Tx) (l : LU) (r : List LU) : chkL prev (l :: r) = if wordU l.1 = true then if wordU l.2 = true then if (match prev with | none => true | some p => Op.bytesLess p l.1) = true then chkL (some l.1) r else false else false else false := rfl
def checkU (name : Tx) (ls : List LU) : Bool := if wordU name = true then if ls.length > 8 then false else chkL none ls else false
def prevU (ls : List LU) (i : Nat) : Option Tx := if i = 0 then none else (ls[i - 1]?).map (·.1)
def okL (ls : List LU) : Prop := ∀ x ∈ ls, x.1.length ≤ 9223372036854775807 ∧ x.2.length ≤ 9223372036854775807
theorem SCheck_ok {name : Tx} {s : Slc} {ls : List LU} {k : Int → Heap → Prop} {h : Heap} (L : LsAt S_api_Label.cs 2 h s (ls.map lst)) (nl : name.length ≤ 9223372036854775807) (ok : okL ls) (hm : s.len ≤ 4611686018427387904)
    (H : ∀ h', Ext h.size h h' → k (if checkU name ls = true then 0 else 1) h') : label_Check ⟨ofL name, s⟩ k h := by
  have sl : s.len = ls.length := by have := L.l; simpa using this
  unfold label_Check
  refine ⟨_, _, rfl, rfl, ?_⟩
  have P := Blk.push h (S_api_Series.cs ⟨ofL name, s⟩) 114
  have W := Ext.push h (.cells (S_api_Series.cs ⟨ofL name, s⟩).toArray 114) (Nat.le_refl _)
  have pl := P.lt
  generalize h.push (.cells (S_api_Series.cs ⟨ofL name, s⟩).toArray 114) = h2 at *
  have z2 := W.size
  have cs : ∀ {h'}, Blk h' h.size (S_api_Series.cs ⟨ofL name, s⟩) 114 → cellH h' ((⟨h.size, 0, none⟩ : Addr).add 1) = some (Slc.v s) := fun K => by rw [add_mk, K.cell]; rfl
  refine ⟨ofL name, by rw [P.cell]; rfl, word_ok nl ?_⟩
  unfold checkU at H
  have fin := H h2 W
  cases hw : wordU name with
  | false =>
    rw [if_pos (by simp)]
    unfold label_Check_g1
    rw [if_pos rfl]
    rw [hw, if_neg (by simp)] at fin; exact fin
  | true =>
    rw [if_neg (by simp)]
    simp only [hw, if_true] at H fin
    refine ⟨s, cs P, ?_⟩
    unfold label_Check_g1
    by_cases h8 : ls.length > 8
    · rw [if_pos (by rw [decide_eq_true_eq]; omega)]
      rw [if_pos h8, if_neg (by simp)] at fin; exact fin
    rw [if_neg (by rw [decide_eq_true_eq]; omega)]
    simp only [if_neg h8] at H
    refine ⟨s, cs P, ?_⟩
    refine ⟨fun i h' => 0 ≤ i ∧ i ≤ ls.length ∧ chkL (prevU ls i.toNat) (ls.drop i.toNat) = chkL none ls ∧ Ext h2.size h2 h', fun i _ => (ls.length - i).toNat, ⟨by omega, by omega, rfl, Ext.refl _ _⟩, ?_⟩
    rintro i h3 ⟨i0, i1, hc, X⟩
    have z3 := X.size
    have P3 := P.ext X pl
    have L3 := (L.ext W).ext X
    have X03 : Ext h.size h h3 := W.trans (X.mono z2)
    unfold label_Check_l2b
    by_cases hi : i < ls.length
    · rw [if_pos (by rw [decide_eq_true_eq]; omega)]
      have hx : ls[i.toNat]? = some (ls[i.toNat]'(by omega)) := by simp
      have hd : ls.drop i.toNat = (ls[i.toNat]'(by omega)) :: ls.drop (i.toNat + 1) := List.drop_eq_getElem_cons (by omega)
      generalize ls[i.toNat]'(by omega) = x at *
      obtain ⟨ok1, ok2⟩ := ok x (List.mem_of_getElem? hx)
      obtain ⟨a, ha, C⟩ := L3.at' i.toNat (lst x) (by rw [List.getElem?_map, hx]; rfl)
      refine ⟨a, ha, i0, by omega, lst x, C, _, _, rfl, rfl, ?_⟩
      have T := Blk.push h3 (S_api_Label.cs ⟨ByteArray.empty, ByteArray.empty⟩) 159
      have T2 := T.sets_all (vs := S_api_Label.cs (lst x)) rfl
      have W5 := (Ext.push h3 (.cells (S_api_Label.cs ⟨ByteArray.empty, ByteArray.empty⟩).toArray 159) (Nat.le_refl _)).trans (Ext.sets _ (a := ⟨h3.size, 0, none⟩) 0 (S_api_Label.cs (lst x)) (Nat.le_refl _))
      refine ⟨_, WrsAt.of_blk T (by rw [labcs_len]; omega), rfl, ?_⟩
      generalize setsH (h3.push (.cells (S_api_Label.cs ⟨ByteArray.empty, ByteArray.empty⟩).toArray 159)) ⟨h3.size, 0, none⟩ 0 (S_api_Label.cs (lst x)) = h5 at *
      have z5 := W5.size
      have P5 := P3.ext W5 P3.lt
      have L5 := L3.ext W5
      have X5 : Ext h2.size h2 h5 := X.trans (W5.mono z3)
      have X05 : Ext h.size h h5 := W.trans (X5.mono z2)
      rw [hd] at hc
      rw [chkL_cons] at hc
      have F := H h5 X05
      have j3 : ∀ b : Bool, (b = true → chkL none ls = false) → (b = false → chkL (some x.1) (ls.drop (i.toNat + 1)) = chkL none ls) → label_Check_j3 ⟨h.size, 0, none⟩ s (s.len : Int) i b k (fun q h' => (0 ≤ q ∧ q ≤ (ls.length : Int) ∧ chkL (prevU ls q.toNat) (ls.drop q.toNat) = chkL none ls ∧ Ext h2.size h2 h') ∧ ((ls.length : Int) - q).toNat < ((ls.length : Int) - i).toNat) h5 := fun b b1 b2 => by
        unfold label_Check_j3
        cases b with
        | true =>
          rw [if_pos rfl]
          rw [b1 rfl, if_neg (by simp)] at F; exact F
        | false =>
          rw [if_neg (by simp), wrapI64 (by omega) (by omega)]
          refine ⟨⟨by omega, by omega, ?_, X5⟩, by omega⟩
          rw [show (i + 1).toNat = i.toNat + 1 from by omega]
          have : prevU ls (i.toNat + 1) = some x.1 := by unfold prevU; rw [if_neg (by omega), show i.toNat + 1 - 1 = i.toNat from by omega, hx]; rfl
          rw [this]; exact b2 rfl
      refine ⟨ofL x.1, by rw [T2.cell]; rfl, word_ok ok1 ?_⟩
      cases hw1 : wordU x.1 with
      | false =>
        rw [hw1, if_neg (by simp)] at hc
        rw [if_pos (by simp), if_pos rfl]
        exact j3 true (fun _ => hc.symm) (fun h => by cases h)
      | true =>
        rw [hw1, if_pos rfl] at hc
        rw [if_neg (by simp)]
        refine ⟨ofL x.2, by rw [add_mk, T2.cell]; rfl, word_ok ok2 ?_⟩
        cases hw2 : wordU x.2 with
        | false =>
          rw [hw2, if_neg (by simp)] at hc
          rw [if_pos (by simp)]
          exact j3 true (fun _ => hc.symm) (fun h => by cases h)
        | true =>
          rw [hw2, if_pos rfl] at hc
          rw [if_neg (by simp)]
          by_cases hi0 : i > 0
          · rw [if_pos (by simpa using hi0)]
            refine ⟨s, cs P5, ?_⟩
            rw [wrapI64 (x := i - 1) (by omega) (by omega)]
            have hy : ls[i.toNat - 1]? = some (ls[i.toNat - 1]'(by omega)) := by simp
            generalize ls[i.toNat - 1]'(by omega) = y at *
            have pv : prevU ls i.toNat = some y.1 := by unfold prevU; rw [if_neg (by omega), hy]; rfl
            rw [pv] at hc
            obtain ⟨a2, ha2, C2⟩ := L5.at' (i.toNat - 1) (lst y) (by rw [List.getElem?_map, hy]; rfl)
            have c0 := C2 0 (.string (ofL y.1)) rfl
            rw [show (a2.add ((i.toNat - 1) * 2)).add 0 = a2.add ((i.toNat - 1) * 2) from by simp [Addr.add]] at c0
            refine ⟨a2, ha2, by omega, by omega, ofL y.1, by rw [show (i - 1).toNat = i.toNat - 1 from by omega]; exact c0, ofL x.1, by rw [T2.cell]; rfl, ?_⟩
            rw [ofL_toList, ofL_toList]
            have hc2 : (if Op.bytesLess y.1 x.1 = true then chkL (some x.1) (ls.drop (i.toNat + 1)) else false) = chkL none ls := hc
            refine j3 _ (fun hb => ?_) fun hb => ?_
            · rw [Bool.not_eq_true'] at hb
              rw [hb, if_neg (by simp)] at hc2; exact hc2.symm
            · rw [Bool.not_eq_false'] at hb
              rw [hb, if_pos rfl] at hc2; exact hc2
          · rw [if_neg (by simpa using hi0)]
            have pv : prevU ls i.toNat = none := by unfold prevU; rw [if_pos (by omega)]
            rw [pv] at hc
            exact j3 false (fun h => by cases h) fun _ => hc
    · rw [if_neg (by rw [decide_eq_true_eq]; omega)]
      have hd : ls.drop i.toNat = [] := List.drop_of_length_le (by omega)
      rw [hd] at hc
      have F := H h3 X03
      rw [← hc] at F
      exact F
def parseU (l : Tx) : Option (Tx × List LU) :=
  match selU l with
  | none => none
  | some (name, qs) => if (qs.any fun x => x.2.1 != 0) = true then none else if checkU name (qs.map fun x => (x.1, x.2.2)) = true then some (name, qs.map fun x => (x.1, x.2.2)) else none
def okQ (l : Tx) : Prop := ∀ name qs, selU l = some (name, qs) → name.length ≤ 100000000 ∧ ∀ x ∈ qs, x.1.length ≤ 100000000 ∧ x.2.2.length ≤ 100000000
theorem q_len (l : Tx) : (questionU l).1.1.length ≤ l.length ∧ (questionU l).1.2.2.length ≤ l.length := by
  have key : ∀ (n r : Tx) (j : Int) (ss : List Tx), n.length ≤ l.length → r.length ≤ l.length → (qgo n r j ss).1.1.length ≤ l.length ∧ (qgo n r j ss).1.2.2.length ≤ l.length := by
    intro n r j ss hn hr
    induction ss generalizing j with
    | nil => exact ⟨hn, Nat.zero_le _⟩
    | cons s ss ih =>
      unfold qgo
      split
      · exact ⟨hn, by dsimp only; rw [List.length_drop]; omega⟩
      · exact ih _
  have h1 : l.takeWhile letterU ++ l.dropWhile letterU = l := List.takeWhile_append_dropWhile
  have := congrArg List.length h1
  rw [List.length_append] at this
  exact key _ _ _ _ (by omega) (by omega)
theorem selGo_len : ∀ (f : Nat) (rest : Tx) (qs out : List QU) (N : Nat), rest.length ≤ N → (∀ x ∈ qs, x.1.length ≤ N ∧ x.2.2.length ≤ N) → qs.length ≤ 8 → selGo f rest qs = some out → (∀ x ∈ out, x.1.length ≤ N ∧ x.2.2.length ≤ N) ∧ out.length ≤ 8
  | 0, _, _, _, _, _, _, _, h => by cases h
  | f + 1, rest, qs, out, N, hr, hq, q8, h => by
    unfold selGo at h
    obtain ⟨d1, d2, _⟩ := cut_len rest 44
    have ql := q_len (cutU rest 44).1
    have hq' : ∀ x ∈ qs ++ [(questionU (cutU rest 44).1).1], x.1.length ≤ N ∧ x.2.2.length ≤ N := fun x hx => by
      rcases List.mem_append.1 hx with hx | hx
      · exact hq x hx
      · simp at hx; subst hx; exact ⟨by omega, by omega⟩
    split at h
    · cases h
    · rename_i hc
      have h8 : qs.length ≠ 8 := fun e => hc (.inr e)
      split at h
      · exact selGo_len f _ _ out N (by omega) hq' (by rw [List.length_append]; simp; omega) h
      · cases h
        refine ⟨hq', ?_⟩
        rw [List.length_append]; simp; omega
theorem sel_len {l name : Tx} {qs : List QU} (h : selU l = some (name, qs)) : name.length ≤ l.length ∧ (∀ x ∈ qs, x.1.length ≤ l.length ∧ x.2.2.length ≤ l.length) ∧ qs.length ≤ 8 := by
  unfold selU at h
  obtain ⟨d1, d2, _⟩ := cut_len l 123
  split at h
  · cases h
  · split at h
    · cases h; exact ⟨d1, by simp, by simp⟩
    · split at h
      · cases h
      · cases hg : selGo ((sufU (cutU l 123).2.1 125).1.length + 1) (sufU (cutU l 123).2.1 125).1 [] with
        | none => rw [hg] at h; cases h
        | some out =>
          rw [hg] at h; cases h
          have := suf_len (cutU l 123).2.1 125
          have := selGo_len _ _ _ _ l.length (by omega) (by simp) (by simp) hg
          exact ⟨d1, this.1, by have := this.2; simpa using this⟩
theorem Parse_ok {l : Tx} {k : S_api_Series × Int → Heap → Prop} {h : Heap} (hl : l.length ≤ 100000000)
    (H0 : ∀ h', parseU l = none → Ext h.size h h' → k (zSer, 4) h')
    (H1 : ∀ name ls s h', parseU l = some (name, ls) → Row h.size h' 159 2 s (ls.flatMap lcs) → s.len = ls.length → Ext h.size h h' → k (⟨ofL name, s⟩, 0) h') : label_Parse (ofL l) k h := by
  unfold label_Parse
  refine ⟨_, _, rfl, rfl, ?_⟩
  have P := Blk.push h (S_api_Series.cs zSer) 114
  have W := Ext.push h (.cells (S_api_Series.cs zSer).toArray 114) (Nat.le_refl _)
  have pl := P.lt
  generalize h.push (.cells (S_api_Series.cs zSer).toArray 114) = h2 at *
  have z2 := W.size
  -- what comes of a selector
  have go : ∀ (name : Tx) (qs : List QU) (sq : Slc) (e0 : Int) (h4 : Heap), Row h2.size h4 143 3 sq (qs.flatMap qcs) → sq.len = qs.length → Ext h2.size h2 h4 → name.length ≤ 100000000 → (∀ x ∈ qs, x.1.length ≤ 100000000 ∧ x.2.2.length ≤ 100000000) → qs.length ≤ 8 → (e0 = 0 ∨ e0 = 4) →
      parseU l = (if e0 ≠ 0 then none else if (qs.any fun x => x.2.1 != 0) = true then none else if checkU name (qs.map fun x => (x.1, x.2.2)) = true then some (name, qs.map fun x => (x.1, x.2.2)) else none) →
      ∃ (b5 : Nat) (h6 : Heap), b5 = h4.size ∧ h6 = h4.push (.cells (S_api_Selector.cs zSel).toArray 105) ∧ (∃ h7 : Heap, WrsAt h6 (⟨b5, 0, none⟩ : Addr) 2 ∧ h7 = setsH h6 (⟨b5, 0, none⟩ : Addr) 0 (S_api_Selector.cs ⟨ofL name, sq⟩) ∧ (∃ v8 : ByteArray, cellH h7 (⟨b5, 0, none⟩ : Addr) = some (.string v8) ∧ (∃ (b9 : Nat) (h10 : Heap), b9 = h7.size ∧ h10 = h7.push (.cells (S_api_Series.cs zSer).toArray 114) ∧ (∃ h11 : Heap, WrsAt h10 (⟨b9, 0, none⟩ : Addr) 2 ∧ h11 = setsH h10 (⟨b9, 0, none⟩ : Addr) 0 (S_api_Series.cs (⟨v8, (⟨none, 0, 0⟩ : Slc)⟩ : S_api_Series)) ∧ (∃ v12 : Slc, cellH h11 ((⟨b5, 0, none⟩ : Addr).add 1) = some (Slc.v v12) ∧ (label_Parse_l1 (⟨h.size, 0, none⟩ : Addr) (⟨b9, 0, none⟩ : Addr) v12 (v12.len : Int) e0 0 k h11)))))) := by
    intro name qs sq e0 h4 Rq sql X4 nl ql q8 he hp
    have z4 := X4.size
    have P4 := P.ext X4 pl
    refine ⟨_, _, rfl, rfl, ?_⟩
    have Q := Blk.push h4 (S_api_Selector.cs zSel) 105
    have Q2 := Q.sets_all (vs := S_api_Selector.cs ⟨ofL name, sq⟩) rfl
    have W5 := (Ext.push h4 (.cells (S_api_Selector.cs zSel).toArray 105) (Nat.le_refl _)).trans (Ext.sets _ (a := ⟨h4.size, 0, none⟩) 0 (S_api_Selector.cs ⟨ofL name, sq⟩) (Nat.le_refl _))
    refine ⟨_, WrsAt.of_blk Q (by rw [scs_len]; omega), rfl, ?_⟩
    generalize setsH (h4.push (.cells (S_api_Selector.cs zSel).toArray 105)) ⟨h4.size, 0, none⟩ 0 (S_api_Selector.cs ⟨ofL name, sq⟩) = h5 at *
    have z5 := W5.size
    have ql5 := Q2.lt
    refine ⟨ofL name, by rw [Q2.cell]; rfl, _, _, rfl, rfl, ?_⟩
    have S := Blk.push h5 (S_api_Series.cs zSer) 114
    have S2 := S.sets_all (vs := S_api_Series.cs ⟨ofL name, ⟨none, 0, 0⟩⟩) rfl
    have W6 := (Ext.push h5 (.cells (S_api_Series.cs zSer).toArray 114) (Nat.le_refl _)).trans (Ext.sets _ (a := ⟨h5.size, 0, none⟩) 0 (S_api_Series.cs ⟨ofL name, ⟨none, 0, 0⟩⟩) (Nat.le_refl _))
    refine ⟨_, WrsAt.of_blk S (by rw [sercs_len]; omega), rfl, ?_⟩
    generalize setsH (h5.push (.cells (S_api_Series.cs zSer).toArray 114)) ⟨h5.size, 0, none⟩ 0 (S_api_Series.cs ⟨ofL name, ⟨none, 0, 0⟩⟩) = h6 at *
    have z6 := W6.size
    have sl6 := S2.lt
    have Q6 := Q2.ext W6 ql5
    refine ⟨sq, by rw [add_mk, Q6.cell]; rfl, ?_⟩
    have X46 : Ext h4.size h4 h6 := W5.trans (W6.mono z5)
    have P6 := P4.ext X46 P4.lt
    have Rq6 := Rq.ext X46 fun g hg => (Rq.bd hg).2
    have X06 : Ext h.size h h6 := W.trans ((X4.trans (X46.mono z4)).mono z2)
    have g3 : ∀ (b : Bool) (s : Slc) (h' : Heap) nx, Blk h' h.size (S_api_Series.cs zSer) 114 → Ext h.size h h' → (b = true → parseU l = none) → (b = false → Blk h' h5.size (S_api_Series.cs ⟨ofL name, s⟩) 114 ∧ Row (h5.size + 1) h' 159 2 s ((qs.map fun x => (x.1, x.2.2)).flatMap lcs) ∧ s.len = qs.length ∧ parseU l = some (name, qs.map fun x => (x.1, x.2.2))) →
        label_Parse_g3 ⟨h.size, 0, none⟩ ⟨h5.size, 0, none⟩ b k nx h' := fun b s h' nx P' X' b1 b2 => by
      unfold label_Parse_g3
      cases b with
      | true =>
        rw [if_pos rfl]
        exact ⟨_, WrsAt.of_blk P' (by rw [sercs_len]; omega), rfl, _, CellsAt.of_blk (P'.sets_all (vs := S_api_Series.cs zSer) rfl), H0 _ (b1 rfl) (X'.trans (Ext.sets _ _ _ (Nat.le_refl _)))⟩
      | false =>
        obtain ⟨S', R', sl', hp'⟩ := b2 rfl
        rw [if_neg (by simp)]
        refine ⟨_, CellsAt.of_blk S', _, WrsAt.of_blk P' (by rw [sercs_len]; omega), rfl, _, CellsAt.of_blk (P'.sets_all (vs := S_api_Series.cs ⟨ofL name, s⟩) rfl), ?_⟩
        exact H1 name _ s _ hp' ((R'.keep fun g hg => setsH_other _ _ (by have := (R'.bd hg).1; dsimp only; omega)).mono (by omega)) (by rw [List.length_map]; exact sl') (X'.trans (Ext.sets _ _ _ (Nat.le_refl _)))
    refine ⟨fun q h' => ∃ s, 0 ≤ q.2 ∧ q.2 ≤ qs.length ∧ Blk h' h.size (S_api_Series.cs zSer) 114 ∧ Blk h' h5.size (S_api_Series.cs ⟨ofL name, s⟩) 114 ∧ Row (h5.size + 1) h' 159 2 s (((qs.take q.2.toNat).map fun x => (x.1, x.2.2)).flatMap lcs) ∧ s.len = q.2.toNat ∧ Row h2.size h' 143 3 sq (qs.flatMap qcs) ∧ Ext h.size h h' ∧
        q.1 = (if ((qs.take q.2.toNat).any fun x => x.2.1 != 0) = true then 4 else e0), fun q _ => (qs.length - q.2).toNat, ⟨⟨none, 0, 0⟩, by dsimp only; omega, by dsimp only; omega, P6, S2, by simpa using Row.nil _ _ _ _, rfl, Rq6, X06, by simp⟩, ?_⟩
    rintro e i h' ⟨s, i0, i1, P', S', R', sl', Rq', X', ee⟩
    dsimp only at i0 i1 R' sl' ee
    have z' := X'.size
    have p' := P'.lt
    have s' := S'.lt
    unfold label_Parse_l1b
    by_cases hi : i < qs.length
    · rw [if_pos (by rw [decide_eq_true_eq]; omega)]
      have hx : qs[i.toNat]? = some (qs[i.toNat]'(by omega)) := by simp
      generalize qs[i.toNat]'(by omega) = x at *
      have Lq : LsAt S_api_Question.cs 3 h' sq (qs.map qst) := LsAt.of_slc scs3_len (by rw [List.flatMap_map]; exact Rq'.slc) (by rw [List.length_map]; exact sql) (by omega)
      obtain ⟨a, ha, C⟩ := Lq.at' i.toNat (qst x) (by rw [List.getElem?_map, hx]; rfl)
      refine ⟨a, ha, i0, by omega, qst x, C, _, _, rfl, rfl, ?_⟩
      have T := Blk.push h' (S_api_Question.cs ⟨ByteArray.empty, 0, ByteArray.empty⟩) 143
      have T2 := T.sets_all (vs := S_api_Question.cs (qst x)) rfl
      have W7 := (Ext.push h' (.cells (S_api_Question.cs ⟨ByteArray.empty, 0, ByteArray.empty⟩).toArray 143) (Nat.le_refl _)).trans (Ext.sets _ (a := ⟨h'.size, 0, none⟩) 0 (S_api_Question.cs (qst x)) (Nat.le_refl _))
      refine ⟨_, WrsAt.of_blk T (by rw [scs3_len]; omega), rfl, ?_⟩
      generalize setsH (h'.push (.cells (S_api_Question.cs ⟨ByteArray.empty, 0, ByteArray.empty⟩).toArray 143)) ⟨h'.size, 0, none⟩ 0 (S_api_Question.cs (qst x)) = h7 at *
      have z7 := W7.size
      have P7 := P'.ext W7 p'
      have S7 := S'.ext W7 s'
      have R7 := R'.ext W7 fun g hg => (R'.bd hg).2
      have Rq7 := Rq'.ext W7 fun g hg => (Rq'.bd hg).2
      have X7 : Ext h.size h h7 := X'.trans (W7.mono z')
      have j2 : ∀ e', e' = (if ((qs.take (i.toNat + 1)).any fun x => x.2.1 != 0) = true then 4 else e0) → label_Parse_j2 ⟨h.size, 0, none⟩ ⟨h5.size, 0, none⟩ ⟨h'.size, 0, none⟩ sq (sq.len : Int) i e' k (fun q h'' => (∃ s, 0 ≤ q.2 ∧ q.2 ≤ (qs.length : Int) ∧ Blk h'' h.size (S_api_Series.cs zSer) 114 ∧ Blk h'' h5.size (S_api_Series.cs ⟨ofL name, s⟩) 114 ∧ Row (h5.size + 1) h'' 159 2 s (((qs.take q.2.toNat).map fun x => (x.1, x.2.2)).flatMap lcs) ∧ s.len = q.2.toNat ∧ Row h2.size h'' 143 3 sq (qs.flatMap qcs) ∧ Ext h.size h h'' ∧
          q.1 = (if ((qs.take q.2.toNat).any fun x => x.2.1 != 0) = true then 4 else e0)) ∧ ((qs.length : Int) - q.2).toNat < ((qs.length : Int) - i).toNat) h7 := fun e' he' => by
        unfold label_Parse_j2
        refine ⟨s, by rw [add_mk, S7.cell]; rfl, ofL x.1, by rw [T2.cell]; rfl, ofL x.2.2, by rw [add_mk, T2.cell]; rfl, _, _, rfl, rfl, ?_⟩
        refine App.row (R7.pushed _) (by simp; omega) rfl rfl (oneC (by kernel_rfl)) (by omega) (by simp only [maxLen]; omega) fun s'' h8 R8 l8 z8 F8 _ => ?_
        simp at z8
        have F : ∀ g, g < h7.size → s.blk ≠ some g → h8[g]? = h7[g]? := fun g hg hs => by rw [F8 g (by simp; omega) hs, Array.getElem?_push, if_neg (by omega)]
        have ns : ∀ g, g ≤ h5.size → s.blk ≠ some g := fun g hg e => by have := (R7.bd e).1; omega
        have P8 : Blk h8 h.size (S_api_Series.cs zSer) 114 := P7.old (F h.size (by omega) (ns _ (by omega)))
        have S8 : Blk h8 h5.size (S_api_Series.cs ⟨ofL name, s⟩) 114 := S7.old (F h5.size (by omega) (ns _ (Nat.le_refl _)))
        refine ⟨_, by rw [add_mk]; exact S8.wr (by rw [sercs_len]; omega), rfl, ?_⟩
        rw [show (⟨h5.size, 0, none⟩ : Addr).add 1 = ⟨h5.size, 1, none⟩ from by simp, wrapI64 (by omega) (by omega)]
        have S9 : Blk (setH h8 ⟨h5.size, 1, none⟩ (Slc.v s'')) h5.size (S_api_Series.cs ⟨ofL name, s''⟩) 114 := S8.set
        have oth : ∀ g, g ≠ h5.size → (setH h8 ⟨h5.size, 1, none⟩ (Slc.v s''))[g]? = h8[g]? := fun g hg => setH_other hg
        have z9 : (setH h8 ⟨h5.size, 1, none⟩ (Slc.v s'')).size = h8.size := setH_size
        generalize setH h8 ⟨h5.size, 1, none⟩ (Slc.v s'') = h9 at *
        refine ⟨⟨s'', by dsimp only; omega, by dsimp only; omega, P8.old (oth _ (by omega)), S9, ?_, by dsimp only; rw [l8]; omega, Rq7.keep fun g hg => ?_, X7.trans ⟨by omega, fun g hg => by rw [oth g (by omega), F g (by omega) (ns g (by omega))]⟩, by dsimp only; rw [show (i + 1).toNat = i.toNat + 1 from by omega]; exact he'⟩, by dsimp only; omega⟩
        · dsimp only
          have := R8.keep fun g hg => oth g (by have := (R8.bd hg).1; omega)
          rw [show (i + 1).toNat = i.toNat + 1 from by omega, List.take_add_one, hx, List.map_append, List.flatMap_append]
          simpa [lcs, lst] using this
        · have b7 := Rq7.bd hg
          rw [oth g (fun e => by subst e; exact Row.unlike Rq7 S7 (by decide) hg), F g b7.2 fun e => Row.ne_row R7 Rq7 (by decide) e hg]
      refine ⟨x.2.1, by rw [add_mk, T2.cell]; rfl, ?_⟩
      have anys : ((qs.take (i.toNat + 1)).any fun x => x.2.1 != 0) = (((qs.take i.toNat).any fun x => x.2.1 != 0) || (x.2.1 != 0)) := by
        rw [List.take_add_one, hx, List.any_append]; simp
      by_cases hs : x.2.1 = 0
      · rw [if_neg (by simp [hs])]
        exact j2 e (by rw [ee, anys, hs, show ((0 : Int) != 0) = false from rfl, Bool.or_false])
      · rw [if_pos (by simpa using hs)]
        exact j2 4 (by rw [anys, show (x.2.1 != 0) = true from by simpa using hs, Bool.or_true, if_pos rfl])
    · rw [if_neg (by rw [decide_eq_true_eq]; omega)]
      have ht : qs.take i.toNat = qs := List.take_of_length_le (by omega)
      rw [ht] at R' ee
      by_cases hany : (qs.any fun x => x.2.1 != 0) = true
      · rw [if_pos hany] at ee
        rw [if_pos (by rw [ee]; decide)]
        refine g3 true s h' _ P' X' (fun _ => ?_) (fun h => by cases h)
        rw [hp, if_pos hany]; split <;> rfl
      · rw [if_neg hany] at ee
        by_cases he0 : e0 = 0
        · rw [if_neg (by rw [ee, he0]; decide)]
          have Ls : LsAt S_api_Label.cs 2 h' s ((qs.map fun x => (x.1, x.2.2)).map lst) := LsAt.of_slc labcs_len (by rw [List.flatMap_map]; exact R'.slc) (by simp; omega) (by omega)
          refine ⟨_, CellsAt.of_blk S', SCheck_ok Ls (by omega) (fun y hy => ?_) (by omega) fun h8 X8 => ?_⟩
          · simp only [List.mem_map] at hy
            obtain ⟨x, hx, rfl⟩ := hy
            have := ql x hx
            exact ⟨by dsimp only; omega, by dsimp only; omega⟩
          have z8 := X8.size
          have P8 := P'.ext X8 p'
          have X08 : Ext h.size h h8 := X'.trans (X8.mono z')
          rw [if_neg (by simpa using he0), if_neg hany] at hp
          cases hck : checkU name (qs.map fun x => (x.1, x.2.2)) with
          | true =>
            rw [hck, if_pos rfl] at hp
            rw [if_pos rfl]
            exact g3 _ s h8 _ P8 X08 (fun h => by simp at h) fun _ => ⟨S'.ext X8 s', R'.ext X8 fun g hg => (R'.bd hg).2, by omega, hp⟩
          | false =>
            rw [hck, if_neg (by simp)] at hp
            rw [if_neg (by simp)]
            exact g3 _ s h8 _ P8 X08 (fun _ => hp) fun h => by simp at h
        · rw [if_pos (by rw [ee]; simpa using he0)]
          refine g3 true s h' _ P' X' (fun _ => ?_) (fun h => by cases h)
          rw [hp, if_pos he0]
  refine Selector_ok hl (fun h4 hn X4 => ?_) fun name qs s h4 hs R4 sl4 X4 => ?_
  · exact go [] [] ⟨none, 0, 0⟩ 4 h4 (Row.nil _ _ _ _) rfl X4 (by simp) (by simp) (by simp) (.inr rfl) (by unfold parseU; rw [hn]; rfl)
  · obtain ⟨n1, n2, n3⟩ := sel_len hs
    exact go name qs s 0 h4 R4 sl4 X4 (by omega) (fun x hx => by have := n2 x hx; omega) n3 (.inl rfl) (by unfold parseU; rw [hs]; rfl)
end Go.Q.Yg
