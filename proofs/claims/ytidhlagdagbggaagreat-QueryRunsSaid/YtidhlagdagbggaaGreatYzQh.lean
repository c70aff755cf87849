/- A part of the proof of statements of this seat: lemmas, no statement of their own. -/
import Derived.Test.YtidhlagdagbggaaGreatYzQl
import Derived.Test.YtidhlagdagbggaaGreatQrB
set_option linter.unusedVariables false
set_option linter.unusedSimpArgs false
set_option maxRecDepth 100000
/- What the laws of queries need. -/
namespace Go.Q.Yz
open Go.Q.Rw
theorem Great_ok {p0 : Slc} {l : List Pc} {n : Nat} {k : Bool → Heap → Prop} {h : Heap} (L : Pcs h p0 l) (n1 : n ≤ 1000) (H0 : k true h) (H1 : l.length ≤ n → (∀ p ∈ l, p.f_Series.size ≤ 400) → k false h) : ref13_Great p0 n k h := by
  unfold ref13_Great ref13_Great_l1
  refine ⟨fun i h' => h' = h ∧ 0 ≤ i ∧ i ≤ (n : Int) ∧ ∀ p ∈ l.take i.toNat, p.f_Series.size ≤ 400, fun i _ => n - i.toNat, ⟨rfl, Int.le_refl _, by omega, by simp⟩, ?_⟩
  rintro i h' ⟨rfl, i0, i1, al⟩
  unfold ref13_Great_l1b
  rw [L.l]
  by_cases hi : i < (l.length : Int) ∧ i < (n : Int)
  · rw [if_pos (by simpa using hi)]
    obtain ⟨a, x, ha, g0, g1, hx, hc⟩ := L.it i0 hi.1
    rw [L.l] at g1
    refine ⟨a, ha, g0, g1, x.f_Series, cls0 hc rfl, ?_⟩
    by_cases hs : x.f_Series.size ≤ 400
    · rw [if_neg (by simp; omega)]
      refine ⟨_, rfl, ?_⟩
      rw [wrapI64 (by omega) (by omega)]
      refine ⟨⟨rfl, by omega, by omega, ?_⟩, by dsimp only; omega⟩
      rw [take1 i0 hx]
      intro p hp
      rcases List.mem_append.1 hp with hp | hp
      · exact al p hp
      · simp only [List.mem_singleton] at hp; subst hp; exact hs
    · rw [if_pos (by simp; omega)]
      exact H0
  · rw [if_neg (by simpa using hi)]
    by_cases hl : l.length ≤ n
    · rw [show decide ((l.length : Int) > (n : Int)) = false from by simp; omega]
      rw [take_all (by omega)] at al
      exact H1 hl al
    · rw [show decide ((l.length : Int) > (n : Int)) = true from by simp; omega]
      exact H0
/-- an item of rows -/
theorem RowsV.it {h : Heap} {s : Slc} {rs : List RI} (R : RowsV h s rs) {i : Int} (h0 : 0 ≤ i) (h1 : i < (rs.length : Int)) : ∃ a r, s.a = some a ∧ rs[i.toNat]? = some r ∧ CellsAt h (a.add (i.toNat * 4)) (S_api_Row.cs (toRow r)) := by
  have L : LsAt S_api_Row.cs 4 h s (rs.map toRow) := ls_of_slc rcs4 R.1 (by simp [R.2]) (by decide)
  obtain ⟨a, x, ha, _, _, hx, hc⟩ := L.it h0 (by simpa using h1)
  rw [List.getElem?_map] at hx
  obtain ⟨r, hr, rfl⟩ := Option.map_eq_some_iff.1 hx
  exact ⟨a, r, ha, hr, hc⟩
theorem rowWide {h : Heap} {a : Addr} {r : RI} (C : CellsAt h a (S_api_Row.cs (toRow r))) : CellsAt h (a.add 2) (S_api_Wide.cs (wd r.2.2)) := fun j v hj => by
  rw [add_add2]
  match j, hj with
  | 0, hj => exact C 2 v hj
  | 1, hj => exact C 3 v hj
  | j + 2, hj => simp [S_api_Wide.cs] at hj
theorem SameRows_ok {s t : Slc} {rs : List RI} {k : Bool → Heap → Prop} {h : Heap} (A : RowsV h s rs) (B : RowsV h t rs) (m : rs.length ≤ 1000000) (H : k true h) : ref19_SameRows s t k h := by
  unfold ref19_SameRows
  rw [A.2, B.2, if_neg (by simp)]
  unfold ref19_SameRows_l1
  refine ⟨fun i h' => h' = h ∧ 0 ≤ i ∧ i ≤ (rs.length : Int), fun i _ => rs.length - i.toNat, ⟨rfl, Int.le_refl _, by omega⟩, ?_⟩
  rintro i h' ⟨rfl, i0, i1⟩
  unfold ref19_SameRows_l1b
  rw [A.2, B.2]
  by_cases hi : i < (rs.length : Int)
  · rw [if_pos (by simpa using hi)]
    obtain ⟨a, r, ha, hr, hc⟩ := A.it i0 hi
    obtain ⟨b, r2, hb, hr2, hc2⟩ := B.it i0 hi
    rw [hr] at hr2; cases hr2
    refine ⟨a, ha, i0, hi, toRow r, hc, b, hb, i0, hi, toRow r, hc2, ?_⟩
    rw [if_neg (by simp)]
    refine ⟨_, rfl, ?_⟩
    rw [wI i0 hi m]
    exact ⟨⟨rfl, by omega, by omega⟩, by dsimp only; omega⟩
  · rw [if_neg (by simpa using hi)]
    exact H
/-! the document's examples -/
def exA : ByteArray := ⟨#[97]⟩
def exL : List Pc := [⟨exA, 1, 5, ⟨0, 0⟩⟩, ⟨exA, 2, 7, ⟨0, 0⟩⟩]
theorem exM : IsMrg exL exL := by
  have e1 : okP (⟨exA, 1, 5, ⟨0, 0⟩⟩ : Pc) = true := by decide
  have e2 : okP (⟨exA, 2, 7, ⟨0, 0⟩⟩ : Pc) = true := by decide
  refine ⟨by unfold exL; rw [List.pairwise_cons]; exact ⟨fun b hb => by simp at hb; subst hb; exact .inr ⟨rfl, by decide⟩, List.pairwise_singleton _ _⟩, fun z => ⟨fun hz => ?_, fun h => h.1⟩⟩
  refine ⟨hz, ?_, fun y hy ok ey => ?_⟩
  · simp only [exL, List.mem_cons, List.not_mem_nil, or_false] at hz
    rcases hz with rfl | rfl
    · exact e1
    · exact e2
  · simp only [exL, List.mem_cons, List.not_mem_nil, or_false] at hz hy
    have et : y.f_T = z.f_T := congrArg S_piece_place.f_t ey
    rcases hz with rfl | rfl <;> rcases hy with rfl | rfl
    · rw [ordP_self]; exact Int.le_refl _
    · exact absurd et (by decide)
    · exact absurd et (by decide)
    · rw [ordP_self]; exact Int.le_refl _
theorem run_mrg {q : S_api_Query} {hz : Int} {l m z1 z2 : List Pc} (A : IsMrg l z1 ∨ (chkQ q ≠ 0 ∧ z1 = [])) (B : IsMrg m z2 ∨ (chkQ q ≠ 0 ∧ z2 = [])) (h : ∀ z, z ∈ l ↔ z ∈ m) : runP q hz z1 = runP q hz z2 := by
  by_cases hc : chkQ q = 0
  · rcases A with A | A
    · rcases B with B | B
      · rw [A.uniq B h]
      · exact absurd hc B.1
    · exact absurd hc A.1
  · unfold runP
    rw [if_pos hc, if_pos hc]
theorem exR1 : runP ⟨ByteArray.empty, 0, 9, 2, 0⟩ 0 exL = ([(exA, 0, 12)], 0) := by decide +kernel
theorem exR2 : runP ⟨ByteArray.empty, 0, 9, 5, 0⟩ 0 exL = ([(exA, 0, 2)], 0) := by decide +kernel
theorem exR3 : runP ⟨ByteArray.empty, 0, 9, 6, 2⟩ 0 exL = ([(exA, 0, 5), (exA, 2, 7)], 0) := by decide +kernel
theorem awake_ok {k : Bool → Heap → Prop} {h : Heap} (H : ∀ h', Ext h.size h h' → k true h') : law19_awake k h := by
  unfold law19_awake
  refine bx0 fun h2 B1 X1 => ?_
  have z1 := X1.size
  have L : Pcs h2 ⟨some ⟨h.size, 0, none⟩, 2, 2⟩ exL := ls_of_slc pcs5 (B1.slc (o := 0) (n := 10) rfl) rfl (by decide)
  have hp : ∀ p ∈ exL, p.f_Series.size ≤ 100000000 ∧ in64 p.f_V ∧ in64 p.f_T := by
    intro p hp
    simp only [exL, List.mem_cons, List.not_mem_nil, or_false] at hp
    rcases hp with rfl | rfl <;> exact ⟨by decide, by decide, by decide⟩
  refine Run_ok L (by decide) (by decide) hp (by decide) fun zs s h4 im X4 R4 _ => ?_
  have e4 := run_mrg (q := ⟨ByteArray.empty, 0, 9, 2, 0⟩) (hz := 0) im (.inl exM) fun _ => Iff.rfl
  rw [e4, exR1] at R4
  rw [e4, exR1]
  refine Run_ok (L.ext X4) (by decide) (by decide) hp (by decide) fun zs s2 h6 im X6 R6 _ => ?_
  have e6 := run_mrg (q := ⟨ByteArray.empty, 0, 9, 5, 0⟩) (hz := 0) im (.inl exM) fun _ => Iff.rfl
  rw [e6, exR2] at R6
  rw [e6, exR2]
  have z4 := X4.size
  have z6 := X6.size
  have X26 := X4.trans (X6.mono z4)
  refine Run_ok (L.ext X26) (by decide) (by decide) hp (by decide) fun zs s3 h8 im X8 R8 _ => ?_
  have e8 := run_mrg (q := ⟨ByteArray.empty, 0, 9, 6, 2⟩) (hz := 0) im (.inl exM) fun _ => Iff.rfl
  rw [e8, exR3] at R8
  rw [e8, exR3]
  have R4' := (R4.ext X6).ext X8
  have R6' := R6.ext X8
  have X28 := X26.trans (X8.mono X26.size)
  have fin : Ext h.size h h8 := X1.trans (X28.mono z1)
  have l4 : s.len = 1 := R4'.2
  have l6 : s2.len = 1 := R6'.2
  have l8 : s3.len = 2 := R8.2
  rw [l4]
  rw [if_pos (by simp)]
  obtain ⟨a, r, ha, hr, hc⟩ := R4'.it (i := 0) (by decide) (by decide)
  cases hr
  refine ⟨a, ha, by decide, by decide, 12, (rowWide hc) 1 _ rfl, ?_⟩
  unfold law19_awake_g1
  rw [l6, if_pos (by decide)]
  obtain ⟨a, r, ha, hr, hc⟩ := R6'.it (i := 0) (by decide) (by decide)
  cases hr
  refine ⟨a, ha, by decide, by decide, 2, (rowWide hc) 1 _ rfl, ?_⟩
  unfold law19_awake_g2
  rw [l8, if_pos (by decide)]
  obtain ⟨a, r, ha, hr, hc⟩ := R8.it (i := 0) (by decide) (by decide)
  cases hr
  refine ⟨a, ha, by decide, by decide, 0, hc 1 _ rfl, ?_⟩
  unfold law19_awake_g3
  rw [if_pos (by decide)]
  refine ⟨a, ha, by decide, by rw [l8]; decide, 5, (rowWide hc) 1 _ rfl, ?_⟩
  unfold law19_awake_g4
  rw [if_pos (by decide)]
  obtain ⟨b, r, hb, hr, hc⟩ := R8.it (i := 1) (by decide) (by decide)
  cases hr
  refine ⟨b, hb, by decide, by rw [l8]; decide, 2, hc 1 _ rfl, ?_⟩
  unfold law19_awake_g5
  exact H h8 fin
end Go.Q.Yz
