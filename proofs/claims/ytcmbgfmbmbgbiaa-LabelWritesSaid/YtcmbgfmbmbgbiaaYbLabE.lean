/- A part of the proof of statements of this seat: lemmas, no statement of their own. -/
import Derived.Test.YtcmbgfmbmbgbiaaYbLabD
set_option linter.unusedVariables false
set_option linter.unusedSimpArgs false
namespace Go.Q.Yb
def smLabels (ls : List LU) : Prop := ls.length ≤ 20 ∧ ∀ x ∈ ls, IntKind.i64.wrap ((x.1.length : Int) + (x.2.length : Int)) ≤ 200
def smQs (qs : List QU) : Prop := qs.length ≤ 20 ∧ ∀ x ∈ qs, IntKind.i64.wrap ((x.1.length : Int) + (x.2.2.length : Int)) ≤ 200
section
variable {s sq : Slc} {ls : List LU} {qs : List QU}
theorem Great15_ok {qn sn : Tx} {k : Bool → Heap → Prop} {h : Heap} (Lq : LsAt S_api_Question.cs 3 h sq (qs.map qst)) (L : LsAt S_api_Label.cs 2 h s (ls.map lst))
    (H : ∀ r h', Ext h.size h h' → (r = false → sn.length ≤ 100 ∧ qn.length ≤ 100 ∧ smLabels ls ∧ smQs qs) → k r h') : ref15_Great ⟨ofL sn, s⟩ ⟨ofL qn, sq⟩ k h := by
  have ql : sq.len = qs.length := by have := Lq.l; simpa using this
  have sl : s.len = ls.length := by have := L.l; simpa using this
  unfold ref15_Great
  refine ⟨_, _, rfl, rfl, ?_⟩
  have P := Blk.push h (S_api_Series.cs ⟨ofL sn, s⟩) 66
  have W := Ext.push h (.cells (S_api_Series.cs ⟨ofL sn, s⟩).toArray 66) (Nat.le_refl _)
  have pl := P.lt
  generalize h.push (.cells (S_api_Series.cs ⟨ofL sn, s⟩).toArray 66) = h2 at *
  have z2 := W.size
  refine ⟨_, _, rfl, rfl, ?_⟩
  have Q := Blk.push h2 (S_api_Selector.cs ⟨ofL qn, sq⟩) 63
  have W3 := Ext.push h2 (.cells (S_api_Selector.cs ⟨ofL qn, sq⟩).toArray 63) (Nat.le_refl _)
  generalize h2.push (.cells (S_api_Selector.cs ⟨ofL qn, sq⟩).toArray 63) = h3 at *
  have P3 := P.ext W3 pl
  have L3 := (L.ext W).ext W3
  have Lq3 := (Lq.ext W).ext W3
  have X3 : Ext h.size h h3 := W.trans (W3.mono z2)
  have no : k true h3 := H true h3 X3 fun e => by cases e
  have cs : cellH h3 ((⟨h.size, 0, none⟩ : Addr).add 1) = some (Slc.v s) := by rw [add_mk, P3.cell]; rfl
  have cq : cellH h3 ((⟨h2.size, 0, none⟩ : Addr).add 1) = some (Slc.v sq) := by rw [add_mk, Q.cell]; rfl
  have g1t : ref15_Great_g1 ⟨h.size, 0, none⟩ ⟨h2.size, 0, none⟩ true k h3 := by
    unfold ref15_Great_g1; rw [if_pos rfl]
    unfold ref15_Great_g2; rw [if_pos rfl]
    unfold ref15_Great_g3; rw [if_pos rfl]
    exact no
  have g1 : sn.length ≤ 100 → ∀ b, b = decide (qn.length > 100) → ref15_Great_g1 ⟨h.size, 0, none⟩ ⟨h2.size, 0, none⟩ b k h3 := fun hsn b hb => by
    by_cases hqn : qn.length > 100
    · rw [hb, show decide (qn.length > 100) = true from by simpa using hqn]; exact g1t
    rw [hb, show decide (qn.length > 100) = false from by simpa using hqn]
    unfold ref15_Great_g1; rw [if_neg (by simp)]
    refine ⟨s, cs, ?_⟩
    by_cases h20 : ls.length > 20
    · rw [show decide ((s.len : Int) > 20) = true from by rw [decide_eq_true_eq]; omega]
      unfold ref15_Great_g2; rw [if_pos rfl]
      unfold ref15_Great_g3; rw [if_pos rfl]
      exact no
    rw [show decide ((s.len : Int) > 20) = false from by rw [decide_eq_false_iff_not]; omega]
    unfold ref15_Great_g2; rw [if_neg (by simp)]
    refine ⟨sq, cq, ?_⟩
    by_cases q20 : qs.length > 20
    · rw [show decide ((sq.len : Int) > 20) = true from by rw [decide_eq_true_eq]; omega]
      unfold ref15_Great_g3; rw [if_pos rfl]
      exact no
    rw [show decide ((sq.len : Int) > 20) = false from by rw [decide_eq_false_iff_not]; omega]
    unfold ref15_Great_g3; rw [if_neg (by simp)]
    refine ⟨fun i h' => 0 ≤ i ∧ i ≤ ls.length ∧ (∀ x ∈ ls.take i.toNat, IntKind.i64.wrap ((x.1.length : Int) + (x.2.length : Int)) ≤ 200) ∧ h' = h3, fun i _ => (ls.length - i).toNat, ⟨by omega, by omega, by simp, rfl⟩, ?_⟩
    rintro i h' ⟨i0, i1, ha, e⟩
    subst e
    unfold ref15_Great_l4b
    refine ⟨s, cs, ?_⟩
    by_cases hi : i < ls.length
    · rw [if_pos (by rw [decide_eq_true_eq]; omega)]
      have hx : ls[i.toNat]? = some (ls[i.toNat]'(by omega)) := by simp
      generalize ls[i.toNat]'(by omega) = x at *
      obtain ⟨a, h1, C⟩ := L3.at' i.toNat (lst x) (by rw [List.getElem?_map, hx]; rfl)
      have C0 := C 0 (.string (ofL x.1)) rfl
      rw [show (a.add (i.toNat * 2)).add 0 = a.add (i.toNat * 2) from by simp [Addr.add]] at C0
      refine ⟨s, cs, a, h1, i0, by omega, ofL x.1, C0, s, cs, a, h1, i0, by omega, ofL x.2, C 1 _ rfl, ?_⟩
      rw [size_ofL, size_ofL]
      by_cases hg : IntKind.i64.wrap ((x.1.length : Int) + (x.2.length : Int)) > 200
      · rw [if_pos (by simpa using hg)]; exact no
      · rw [if_neg (by simpa using hg), wrapI64 (x := i + 1) (by omega) (by omega)]
        refine ⟨_, rfl, ⟨by omega, by omega, fun y hy => ?_, rfl⟩, by dsimp only; omega⟩
        rw [show (i + 1).toNat = i.toNat + 1 from by omega, List.take_add_one, hx] at hy
        simp only [Option.toList_some, List.mem_append, List.mem_singleton] at hy
        rcases hy with hy | rfl
        · exact ha y hy
        · omega
    · rw [if_neg (by rw [decide_eq_true_eq]; omega)]
      rw [List.take_of_length_le (by omega)] at ha
      refine ⟨fun j h'' => 0 ≤ j ∧ j ≤ qs.length ∧ (∀ x ∈ qs.take j.toNat, IntKind.i64.wrap ((x.1.length : Int) + (x.2.2.length : Int)) ≤ 200) ∧ h'' = h', fun j _ => (qs.length - j).toNat, ⟨by omega, by omega, by simp, rfl⟩, ?_⟩
      rintro j h'' ⟨j0, j1, hq, e⟩
      subst e
      unfold ref15_Great_l5b
      refine ⟨sq, cq, ?_⟩
      by_cases hj : j < qs.length
      · rw [if_pos (by rw [decide_eq_true_eq]; omega)]
        have hx : qs[j.toNat]? = some (qs[j.toNat]'(by omega)) := by simp
        generalize qs[j.toNat]'(by omega) = x at *
        obtain ⟨a, h1, C⟩ := Lq3.at' j.toNat (qst x) (by rw [List.getElem?_map, hx]; rfl)
        have C0 := C 0 (.string (ofL x.1)) rfl
        rw [show (a.add (j.toNat * 3)).add 0 = a.add (j.toNat * 3) from by simp [Addr.add]] at C0
        refine ⟨sq, cq, a, h1, j0, by omega, ofL x.1, C0, sq, cq, a, h1, j0, by omega, ofL x.2.2, C 2 _ rfl, ?_⟩
        rw [size_ofL, size_ofL]
        by_cases hg : IntKind.i64.wrap ((x.1.length : Int) + (x.2.2.length : Int)) > 200
        · rw [if_pos (by simpa using hg)]; exact no
        · rw [if_neg (by simpa using hg), wrapI64 (x := j + 1) (by omega) (by omega)]
          refine ⟨_, rfl, ⟨by omega, by omega, fun y hy => ?_, rfl⟩, by dsimp only; omega⟩
          rw [show (j + 1).toNat = j.toNat + 1 from by omega, List.take_add_one, hx] at hy
          simp only [Option.toList_some, List.mem_append, List.mem_singleton] at hy
          rcases hy with hy | rfl
          · exact hq y hy
          · omega
      · rw [if_neg (by rw [decide_eq_true_eq]; omega)]
        rw [List.take_of_length_le (by omega)] at hq
        exact H false _ X3 fun _ => ⟨hsn, by omega, ⟨by omega, ha⟩, ⟨by omega, hq⟩⟩
  refine ⟨ofL sn, by rw [P3.cell]; rfl, ?_⟩
  rw [size_ofL]
  by_cases hs : sn.length > 100
  · rw [if_pos (by rw [decide_eq_true_eq]; omega)]; exact g1t
  · rw [if_neg (by rw [decide_eq_true_eq]; omega)]
    refine ⟨ofL qn, by rw [Q.cell]; rfl, ?_⟩
    rw [size_ofL]
    exact g1 (by omega) _ (decide_eq_decide.2 (by omega))
end
/-! ### the example -/
def tx1 : Tx := [99, 112, 117, 123, 104, 111, 115, 116, 61, 97, 44, 122, 111, 110, 101, 61, 49, 125]
def tx2 : Tx := [123, 122, 111, 110, 101, 33, 61, 50, 44, 104, 111, 115, 116, 94, 61, 97, 125]
def ls1 : List LU := [([104, 111, 115, 116], [97]), ([122, 111, 110, 101], [49])]
def qs2 : List QU := [([122, 111, 110, 101], 1, [50]), ([104, 111, 115, 116], 2, [97])]
theorem par1 : parseU tx1 = some ([99, 112, 117], ls1) := by decide +kernel
theorem sel2 : selU tx2 = some ([], qs2) := by decide +kernel
theorem cho12 : chooseU [] qs2 [99, 112, 117] ls1 = true := by decide +kernel
theorem awake15_ok {k : Bool → Heap → Prop} {h : Heap} (H : ∀ h', Ext h.size h h' → k true h') : law15_awake k h := by
  unfold law15_awake
  refine Parse_ok (l := tx1) (by decide) (fun h' hn _ => by rw [par1] at hn; cases hn) fun name ls s h2 hp R2 sl2 X2 => ?_
  rw [par1] at hp; cases hp
  have z2 := X2.size
  refine ⟨_, _, rfl, rfl, ?_⟩
  have P := Blk.push h2 (S_api_Series.cs zSer) 66
  have P2 := P.sets_all (vs := S_api_Series.cs ⟨ofL [99, 112, 117], s⟩) rfl
  have W3 := (Ext.push h2 (.cells (S_api_Series.cs zSer).toArray 66) (Nat.le_refl _)).trans (Ext.sets _ (a := ⟨h2.size, 0, none⟩) 0 (S_api_Series.cs ⟨ofL [99, 112, 117], s⟩) (Nat.le_refl _))
  refine ⟨_, WrsAt.of_blk P (by rw [sercs_len]; omega), rfl, ?_⟩
  dsimp only
  generalize setsH (h2.push (.cells (S_api_Series.cs zSer).toArray 66)) ⟨h2.size, 0, none⟩ 0 (S_api_Series.cs ⟨ofL [99, 112, 117], s⟩) = h3 at *
  have z3 := W3.size
  have pl := P2.lt
  have R3 := R2.ext W3 fun g hg => (R2.bd hg).2
  refine Selector_ok (l := tx2) (by decide) (fun h' hn _ => by rw [sel2] at hn; cases hn) fun qn qs sq h4 hq R4 sl4 X4 => ?_
  rw [sel2] at hq; cases hq
  have z4 := X4.size
  refine ⟨_, _, rfl, rfl, ?_⟩
  have Q := Blk.push h4 (S_api_Selector.cs zSel) 63
  have Q2 := Q.sets_all (vs := S_api_Selector.cs ⟨ofL [], sq⟩) rfl
  have W5 := (Ext.push h4 (.cells (S_api_Selector.cs zSel).toArray 63) (Nat.le_refl _)).trans (Ext.sets _ (a := ⟨h4.size, 0, none⟩) 0 (S_api_Selector.cs ⟨ofL [], sq⟩) (Nat.le_refl _))
  refine ⟨_, WrsAt.of_blk Q (by rw [scs_len]; omega), rfl, ?_⟩
  dsimp only
  generalize setsH (h4.push (.cells (S_api_Selector.cs zSel).toArray 63)) ⟨h4.size, 0, none⟩ 0 (S_api_Selector.cs ⟨ofL [], sq⟩) = h5 at *
  have z5 := W5.size
  have P5 := (P2.ext X4 pl).ext W5 (by omega)
  have R5 := (R3.ext X4 fun g hg => (R3.bd hg).2).ext W5 fun g hg => by have := (R3.bd hg).2; omega
  have S5 := R4.ext W5 fun g hg => (R4.bd hg).2
  rw [if_pos (by decide)]
  refine ⟨s, by rw [add_mk, P5.cell]; rfl, ?_⟩
  unfold law15_awake_g1
  rw [if_pos (by rw [sl2]; rfl)]
  refine ⟨sq, by rw [add_mk, Q2.cell]; rfl, ?_⟩
  unfold law15_awake_g2
  rw [if_pos (by rw [sl4]; rfl)]
  refine ⟨_, CellsAt.of_blk Q2, _, CellsAt.of_blk P5, ?_⟩
  have L : LsAt S_api_Label.cs 2 h5 s (ls1.map lst) := LsAt.of_slc labcs_len (by rw [List.flatMap_map]; exact R5.slc) (by rw [List.length_map]; exact sl2) (by omega)
  have Lq : LsAt S_api_Question.cs 3 h5 sq (qs2.map qst) := LsAt.of_slc scs3_len (by rw [List.flatMap_map]; exact S5.slc) (by rw [List.length_map]; exact sl4) (by omega)
  refine Chooses_ok Lq L (by decide) (by decide) (by unfold okL; decide) fun h6 X6 => ?_
  rw [cho12]
  unfold law15_awake_g3
  exact H h6 (X2.trans ((W3.trans ((X4.trans ((W5.trans (X6.mono z5)).mono z4)).mono z3)).mono z2))
section
variable {s sq : Slc} {ls : List LU} {qs : List QU}
/-- the law -/
theorem LChooses_ok {qn sn : Tx} {k : Bool → Heap → Prop} {h : Heap} (Lq : LsAt S_api_Question.cs 3 h sq (qs.map qst)) (L : LsAt S_api_Label.cs 2 h s (ls.map lst)) (ok : okL ls) (H : ∀ h', Ext h.size h h' → k true h') : law15_LabelChooses ⟨ofL qn, sq⟩ ⟨ofL sn, s⟩ k h := by
  unfold law15_LabelChooses
  refine ⟨_, _, rfl, rfl, ?_⟩
  have P := Blk.push h (S_api_Selector.cs ⟨ofL qn, sq⟩) 63
  have W := Ext.push h (.cells (S_api_Selector.cs ⟨ofL qn, sq⟩).toArray 63) (Nat.le_refl _)
  have pl := P.lt
  generalize h.push (.cells (S_api_Selector.cs ⟨ofL qn, sq⟩).toArray 63) = h2 at *
  have z2 := W.size
  refine ⟨_, _, rfl, rfl, ?_⟩
  have Q := Blk.push h2 (S_api_Series.cs ⟨ofL sn, s⟩) 66
  have W3 := Ext.push h2 (.cells (S_api_Series.cs ⟨ofL sn, s⟩).toArray 66) (Nat.le_refl _)
  have ql := Q.lt
  generalize h2.push (.cells (S_api_Series.cs ⟨ofL sn, s⟩).toArray 66) = h3 at *
  have P3 := P.ext W3 pl
  have p3 := P3.lt
  have L3 := (L.ext W).ext W3
  have Lq3 := (Lq.ext W).ext W3
  have X3 : Ext h.size h h3 := W.trans (W3.mono z2)
  have z3 := X3.size
  refine ⟨_, CellsAt.of_blk Q, _, CellsAt.of_blk P3, Great15_ok Lq3 L3 fun r h4 X4 hr => ?_⟩
  have z4 := X4.size
  have X04 : Ext h.size h h4 := X3.trans (X4.mono z3)
  cases r with
  | true =>
    rw [if_pos rfl]
    exact awake15_ok fun h' X => H h' (X04.trans (X.mono X04.size))
  | false =>
    rw [if_neg (by simp)]
    obtain ⟨_, _, ⟨l20, _⟩, ⟨q20, _⟩⟩ := hr rfl
    have P4 := P3.ext X4 p3
    have Q4 := Q.ext X4 ql
    have L4 := L3.ext X4
    have Lq4 := Lq3.ext X4
    refine ⟨_, CellsAt.of_blk P4, _, CellsAt.of_blk Q4, _, CellsAt.of_blk P4, _, CellsAt.of_blk Q4, ?_⟩
    refine Chooses_ok Lq4 L4 (by omega) (by omega) ok fun h5 X5 => ?_
    have z5 := X5.size
    have P5 := P4.ext X5 P4.lt
    have Q5 := Q4.ext X5 Q4.lt
    have L5 := L4.ext X5
    have Lq5 := Lq4.ext X5
    refine ⟨CellsAt.of_blk Q5, CellsAt.of_blk P5, RChooses_ok Lq5 L5 (by omega) (by omega) fun h6 X6 => ?_⟩
    have z6 := X6.size
    rw [if_pos (by simp)]
    have Q6 := Q5.ext X6 Q5.lt
    have L6 := L5.ext X6
    have Lz : LsAt S_api_Question.cs 3 h6 ⟨none, 0, 0⟩ (([] : List QU).map qst) := ⟨rfl, fun i x hx => by simp at hx⟩
    refine ⟨_, CellsAt.of_blk Q6, Chooses_ok (qn := []) (qs := []) Lz L6 (by simp) (by omega) ok fun h7 X7 => ?_⟩
    have c : chooseU [] [] sn ls = true := rfl
    rw [c, if_pos rfl]
    have X07 : Ext h.size h h7 := X04.trans ((X5.trans ((X6.trans (X7.mono z6)).mono z5)).mono X04.size)
    refine awake15_ok fun h8 X8 => ?_
    unfold law15_LabelChooses_j1
    exact H h8 (X07.trans (X8.mono X07.size))
end
end Go.Q.Yb
