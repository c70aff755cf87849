/- A part of the proof of statements of this seat: lemmas, no statement of their own. -/
import Derived.Test.YtidhlagdagbggaaYgQl
import Derived.Test.YtidhlagdagbggaaQrB
set_option linter.unusedVariables false
set_option linter.unusedSimpArgs false
set_option maxRecDepth 100000
/- What the laws of queries need. -/
namespace Go.Q.Yg
open Go.Q.Rw
theorem Great_ok {p0 : Slc} {l : List Pc} {n : Nat} {k : Bool → Heap → Prop} {h : Heap} (L : Pcs h p0 l) (n1 : n ≤ 1000) (H0 : k true h) (H1 : l.length ≤ n → (∀ p ∈ l, p.f_Series.size ≤ 400) → k false h) : ref13_Great p0 n k h := by
  unfold ref13_Great ref13_Great_l1
  refine ⟨fun i h' => h' = h ∧ 0 ≤ i ∧ i ≤ (n : Int) ∧ ∀ p ∈ l.take i.toNat, p.f_Series.size ≤ 400, fun i _ => n - i.toNat, ⟨rfl, Int.le_refl _, by omega, by simp⟩, ?_⟩
  rintro i h' ⟨rfl, i0, i1, al⟩
  unfold ref13_Great_l1b
  rw [L.l]
  by_cases hi : i < (l.length : Int) ∧ i < (n : Int)
  · rw [if_pos (by simpa using hi)]
    obtain ⟨a, x, ha, g0, g1, hx, hc⟩ := L.it i0 hi.1
    rw [L.l] at g1
    refine ⟨a, ha, g0, g1, x.f_Series, cls0 hc rfl, ?_⟩
    by_cases hs : x.f_Series.size ≤ 400
    · rw [if_neg (by simp; omega)]
      refine ⟨_, rfl, ?_⟩
      rw [wrapI64 (by omega) (by omega)]
      refine ⟨⟨rfl, by omega, by omega, ?_⟩, by dsimp only; omega⟩
      rw [take1 i0 hx]
      intro p hp
      rcases List.mem_append.1 hp with hp | hp
      · exact al p hp
      · simp only [List.mem_singleton] at hp; subst hp; exact hs
    · rw [if_pos (by simp; omega)]
      exact H0
  · rw [if_neg (by simpa using hi)]
    by_cases hl : l.length ≤ n
    · rw [show decide ((l.length : Int) > (n : Int)) = false from by simp; omega]
      rw [take_all (by omega)] at al
      exact H1 hl al
    · rw [show decide ((l.length : Int) > (n : Int)) = true from by simp; omega]
      exact H0
/-- an item of rows -/
theorem RowsV.it {h : Heap} {s : Slc} {rs : List RI} (R : RowsV h s rs) {i : Int} (h0 : 0 ≤ i) (h1 : i < (rs.length : Int)) : ∃ a r, s.a = some a ∧ rs[i.toNat]? = some r ∧ CellsAt h (a.add (i.toNat * 4)) (S_api_Row.cs (toRow r)) := by
  have L : LsAt S_api_Row.cs 4 h s (rs.map toRow) := ls_of_slc rcs4 R.1 (by simp [R.2]) (by decide)
  obtain ⟨a, x, ha, _, _, hx, hc⟩ := L.it h0 (by simpa using h1)
  rw [List.getElem?_map] at hx
  obtain ⟨r, hr, rfl⟩ := Option.map_eq_some_iff.1 hx
  exact ⟨a, r, ha, hr, hc⟩
theorem rowWide {h : Heap} {a : Addr} {r : RI} (C : CellsAt h a (S_api_Row.cs (toRow r))) : CellsAt h (a.add 2) (S_api_Wide.cs (wd r.2.2)) := fun j v hj => by
  rw [add_add2]
  match j, hj with
  | 0, hj => exact C 2 v hj
  | 1, hj => exact C 3 v hj
  | j + 2, hj => simp [S_api_Wide.cs] at hj
theorem SameRows_ok {s t : Slc} {rs : List RI} {k : Bool → Heap → Prop} {h : Heap} (A : RowsV h s rs) (B : RowsV h t rs) (m : rs.length ≤ 1000000) (H : k true h) : ref19_SameRows s t k h := by
  unfold ref19_SameRows
  rw [A.2, B.2, if_neg (by simp)]
  unfold ref19_SameRows_l1
  refine ⟨fun i h' => h' = h ∧ 0 ≤ i ∧ i ≤ (rs.length : Int), fun i _ => rs.length - i.toNat, ⟨rfl, Int.le_refl _, by omega⟩, ?_⟩
  rintro i h' ⟨rfl, i0, i1⟩
  unfold ref19_SameRows_l1b
  rw [A.2, B.2]
  by_cases hi : i < (rs.length : Int)
  · rw [if_pos (by simpa using hi)]
    obtain ⟨a, r, ha, hr, hc⟩ := A.it i0 hi
    obtain ⟨b, r2, hb, hr2, hc2⟩ := B.it i0 hi
    rw [hr] at hr2; cases hr2
    refine ⟨a, ha, i0, hi, toRow r, hc, b, hb, i0, hi, toRow r, hc2, ?_⟩
    rw [if_neg (by simp)]
    refine ⟨_, rfl, ?_⟩
    rw [wI i0 hi m]
    exact ⟨⟨rfl, by omega, by omega⟩, by dsimp only; omega⟩
  · rw [if_neg (by simpa using hi)]
    exact H
/-! the document's examples -/
def exA : ByteArray := ⟨#[97]⟩
def exL : List Pc := [⟨exA, 1, 5, ⟨0, 0⟩⟩, ⟨exA, 2, 7, ⟨0, 0⟩⟩]
theorem exM : IsMrg exL exL := by
  have e1 : okP (⟨exA, 1, 5, ⟨0, 0⟩⟩ : Pc) = true := by decide
  have e2 : okP (⟨exA, 2, 7, ⟨0, 0⟩⟩ : Pc) = true := by decide
  refine ⟨by unfold exL; rw [List.pairwise_cons]; exact ⟨fun b hb => by simp at hb; subst hb; exact .inr ⟨rfl, by decide⟩, List.pairwise_singleton _ _⟩, fun z => ⟨fun hz => ?_, fun h => h.1⟩⟩
  refine ⟨hz, ?_, fun y hy ok ey => ?_⟩
  · simp only [exL, List.mem_cons, List.not_mem_nil, or_false] at hz
    rcases hz with rfl | rfl
    · exact e1
    · exact e2
  · simp only [exL, List.mem_cons, List.not_mem_nil, or_false] at hz hy
    have et : y.f_T = z.f_T := congrArg S_piece_place.f_t ey
    rcases hz with rfl | rfl <;> rcases hy with rfl | rfl
    · rw [ordP_self]; exact Int.le_refl _
    · exact absurd et (by decide)
    · exact absurd et (by decide)
    · rw [ordP_self]; exact Int.le_refl _
theorem run_mrg {q : S_api_Query} {hz : Int} {l m z1 z2 : List Pc} (A : IsMrg l z1 ∨ (chkQ q ≠ 0 ∧ z1 = [])) (B : IsMrg m z2 ∨ (chkQ q ≠ 0 ∧ z2 = [])) (h : ∀ z, z ∈ l ↔ z ∈ m) : runP q hz z1 = runP q hz z2 := by
  by_cases hc : chkQ q = 0
  · rcases A with A | A
    · rcases B with B | B
      · rw [A.uniq B h]
      · exact absurd hc B.1
    · exact absurd hc A.1
  · unfold runP
    rw [if_pos hc, if_pos hc]
theorem exR1 : runP ⟨ByteArray.empty, 0, 9, 2, 0⟩ 0 exL = ([(exA, 0, 12)], 0) := by decide +kernel
theorem exR2 : runP ⟨ByteArray.empty, 0, 9, 5, 0⟩ 0 exL = ([(exA, 0, 2)], 0) := by decide +kernel
theorem exR3 : runP ⟨ByteArray.empty, 0, 9, 6, 2⟩ 0 exL = ([(exA, 0, 5), (exA, 2, 7)], 0) := by decide +kernel
theorem awake_ok {k : Bool → Heap → Prop} {h : Heap} (H : ∀ h', Ext h.size h h' → k true h') : law19_awake k h := by
  unfold law19_awake
  refine bx0 fun h2 B1 X1 => ?_
  have z1 := X1.size
  have L : Pcs h2 ⟨some ⟨h.size, 0, none⟩, 2, 2⟩ exL := ls_of_slc pcs5 (B1.slc (o := 0) (n := 10) rfl) rfl (by decide)
  have hp : ∀ p ∈ exL, p.f_Series.size ≤ 100000000 ∧ in64 p.f_V ∧ in64 p.f_T := by
    intro p hp
    simp only [exL, List.mem_cons, List.not_mem_nil, or_false] at hp
    rcases hp with rfl | rfl <;> exact ⟨by decide, by decide, by decide⟩
  refine Run_ok L (by decide) (by decide) hp (by decide) fun zs s h4 im X4 R4 _ => ?_
  have e4 := run_mrg (q := ⟨ByteArray.empty, 0, 9, 2, 0⟩) (hz := 0) im (.inl exM) fun _ => Iff.rfl
  rw [e4, exR1] at R4
  rw [e4, exR1]
  refine Run_ok (L.ext X4) (by decide) (by decide) hp (by decide) fun zs s2 h6 im X6 R6 _ => ?_
  have e6 := run_mrg (q := ⟨ByteArray.empty, 0, 9, 5, 0⟩) (hz := 0) im (.inl exM) fun _ => Iff.rfl
  rw [e6, exR2] at R6
  rw [e6, exR2]
  have z4 := X4.size
  have z6 := X6.size
  have X26 := X4.trans (X6.mono z4)
  refine Run_ok (L.ext X26) (by decide) (by decide) hp (by decide) fun zs s3 h8 im X8 R8 _ => ?_
  have e8 := run_mrg (q := ⟨ByteArray.empty, 0, 9, 6, 2⟩) (hz := 0) im (.inl exM) fun _ => Iff.rfl
  rw [e8, exR3] at R8
  rw [e8, exR3]
  have R4' := (R4.ext X6).ext X8
  have R6' := R6.ext X8
  have X28 := X26.trans (X8.mono X26.size)
  have fin : Ext h.size h h8 := X1.trans (X28.mono z1)
  have l4 : s.len = 1 := R4'.2
  have l6 : s2.len = 1 := R6'.2
  have l8 : s3.len = 2 := R8.2
  rw [l4]
  rw [if_pos (by simp)]
  obtain ⟨a, r, ha, hr, hc⟩ := R4'.it (i := 0) (by decide) (by decide)
  cases hr
  refine ⟨a, ha, by decide, by decide, 12, (rowWide hc) 1 _ rfl, ?_⟩
  unfold law19_awake_g1
  rw [l6, if_pos (by decide)]
  obtain ⟨a, r, ha, hr, hc⟩ := R6'.it (i := 0) (by decide) (by decide)
  cases hr
  refine ⟨a, ha, by decide, by decide, 2, (rowWide hc) 1 _ rfl, ?_⟩
  unfold law19_awake_g2
  rw [l8, if_pos (by decide)]
  obtain ⟨a, r, ha, hr, hc⟩ := R8.it (i := 0) (by decide) (by decide)
  cases hr
  refine ⟨a, ha, by decide, by decide, 0, hc 1 _ rfl, ?_⟩
  unfold law19_awake_g3
  rw [if_pos (by decide)]
  refine ⟨a, ha, by decide, by rw [l8]; decide, 5, (rowWide hc) 1 _ rfl, ?_⟩
  unfold law19_awake_g4
  rw [if_pos (by decide)]
  obtain ⟨b, r, hb, hr, hc⟩ := R8.it (i := 1) (by decide) (by decide)
  cases hr
  refine ⟨b, hb, by decide, by rw [l8]; decide, 2, hc 1 _ rfl, ?_⟩
  unfold law19_awake_g5
  exact H h8 fin
end Go.Q.Yg
set_option linter.unusedVariables false
set_option linter.unusedSimpArgs false
set_option maxRecDepth 100000
/- QueryOrder over the predicates. -/
namespace Go.Q.Yg
open Go.Q.Rw
theorem Pick_ok {x : Int} {n : Nat} {k : Int → Heap → Prop} {h : Heap} (n0 : 1 ≤ n) (n1 : n ≤ 1000000) (H : ∀ r : Int, 0 ≤ r → r < n → k r h) : ref01_Pick x n k h := by
  unfold ref01_Pick ref01_Pick_j1
  rw [if_neg (by simp; omega)]
  have h1 : -(n : Int) < x.tmod n ∧ x.tmod n < n := by
    refine ⟨?_, Int.tmod_lt_of_pos x (by omega)⟩
    have := Int.tmod_lt_of_pos (-x) (b := n) (by omega)
    rw [Int.neg_tmod] at this; omega
  refine ⟨by omega, _, rfl, ?_⟩
  by_cases hx : x.tmod n < 0
  · rw [if_pos (by simpa using hx)]
    refine ⟨_, rfl, ?_⟩
    rw [wrapI64 (by omega) (by omega)]
    exact H _ (by omega) (by omega)
  · rw [if_neg (by simpa using hx)]
    exact H _ (by omega) (by omega)
theorem rowsP_bd {agg step : Int} {g : List Pc} {r : List RI} (hg : g ≠ []) (e : rowsP agg step g = some r) : r.length ≤ g.length := by
  have gp : 1 ≤ g.length := List.length_pos_iff.2 hg
  unfold rowsP at e
  split at e
  · cases e; simp
  split at e
  · cases e; simpa using gp
  split at e
  · cases e; simpa using gp
  split at e
  · cases e; simpa using gp
  split at e
  · cases e; simpa using gp
  split at e
  · split at e
    · cases e; simp
    · cases hr : rateP g with
      | none => rw [hr] at e; cases e
      | some n => rw [hr] at e; cases e; simpa using gp
  · cases e
    have key : ∀ (g : List Pc) (o : List RI), (g.foldl (eachE step) o).length ≤ o.length + g.length := fun g => by
      induction g with
      | nil => simp
      | cons p r ih =>
        intro o
        rw [List.foldl_cons]
        have h1 := ih (eachE step o p)
        have h2 := eachE_len step o p
        simp only [List.length_cons]; omega
    simpa [eachP] using key g []
theorem rowsL_bd {agg step : Int} : ∀ {gs : List (List Pc)} {r : List RI}, (∀ g ∈ gs, g ≠ []) → rowsL agg step gs = some r → r.length ≤ gs.flatten.length
  | [], r, _, e => by cases e; simp
  | g :: gs, r, hne, e => by
    unfold rowsL at e
    cases e1 : rowsP agg step g with
    | none => rw [e1] at e; cases e
    | some x =>
      rw [e1] at e
      dsimp only at e
      cases e2 : rowsL agg step gs with
      | none => rw [e2] at e; cases e
      | some y =>
        rw [e2] at e; cases e
        have := rowsP_bd (hne g List.mem_cons_self) e1
        have := rowsL_bd (fun z hz => hne z (List.mem_cons_of_mem _ hz)) e2
        rw [List.flatten_cons, List.length_append, List.length_append]; omega
theorem runP_bd {q : S_api_Query} {hz : Int} {zs : List Pc} : (runP q hz zs).1.length ≤ zs.length := by
  unfold runP
  split
  · simp
  · cases e : rowsL q.f_Agg q.f_Step (grp (askQ q hz zs)) with
    | none => simp
    | some r =>
      have := rowsL_bd (fun g hg => grp_ne hg) e
      rw [grp_flat] at this
      exact Nat.le_trans this askQ_sub.length_le
theorem im_len {q : S_api_Query} {l zs : List Pc} (h : IsMrg l zs ∨ (chkQ q ≠ 0 ∧ zs = [])) : zs.length ≤ l.length := by
  rcases h with h | ⟨_, rfl⟩
  · exact h.len
  · simp
/-- what an argument of pieces is -/
def OkPc (p : Pc) : Prop := in64 p.f_V ∧ in64 p.f_T
theorem QueryOrder_ok {q : S_api_Query} {p1 : Slc} {l : List Pc} {hz turn : Int} {k : Bool → Heap → Prop} {h : Heap} (L : Pcs h p1 l) (cp : p1.len ≤ p1.cap ∧ p1.cap ≤ maxLen) (hok : ∀ p ∈ l, OkPc p) (q6 : in64 q.f_Step) (H : ∀ h', Ext h.size h h' → k true h') : law19_QueryOrder q p1 hz turn k h := by
  unfold law19_QueryOrder
  refine bx0 fun h2 B1 X1 => ?_
  have z1 := X1.size
  have aw : law19_QueryOrder_g1 p1 hz turn ⟨h.size, 0, none⟩ true k h2 := by
    unfold law19_QueryOrder_g1
    rw [if_pos rfl]
    exact awake_ok fun h'' X => H h'' (X1.trans (X.mono z1))
  refine Great_ok (n := 40) (L.ext X1) (by decide) (by rw [if_pos rfl]; exact aw) fun l40 s400 => ?_
  rw [if_neg (by simp)]
  refine ⟨q.f_Select, B1.cl0 rfl, ?_⟩
  by_cases hs : q.f_Select.size ≤ 400
  rotate_left
  · rw [show decide ((q.f_Select.size : Int) > 400) = true from by simp; omega]
    exact aw
  rw [show decide ((q.f_Select.size : Int) > 400) = false from by simp; omega]
  unfold law19_QueryOrder_g1
  have pl := L.l
  rw [if_neg (by simp), show IntKind.i64.wrap ((p1.len : Int) + 1) = ((l.length + 1 : Nat) : Int) from by rw [L.l, wrapI64 (by omega) (by omega)]; omega]
  refine Pick_ok (by omega) (by omega) fun r r0 r1 => ?_
  have L2 := L.ext X1
  refine ⟨_, r0, by omega, by omega, Int.le_refl _, rfl, _, Int.le_refl _, r0, by omega, Int.le_refl _, rfl, bx0 fun h12 B11 X12 => ?_⟩
  have z12 := X12.size
  have L12 := L2.ext X12
  have sa := L12.sub (a := r.toNat) (b := (p1.len : Int).toNat) (m := (p1.cap : Int).toNat) (by omega) (by omega) (by omega)
  have sb := L12.sub (a := (0 : Int).toNat) (b := r.toNat) (m := (p1.cap : Int).toNat) (by simp) (by omega) (by omega)
  rw [show (p1.len : Int).toNat = l.length from by omega, List.take_length] at sa
  rw [show (p1.len : Int).toNat = l.length from by omega]
  simp only [Int.toNat_zero, List.drop_zero] at sb
  have slcOf : ∀ {g : Heap} {s : Slc} {xs : List Pc}, Pcs g s xs → SlcAt g s (xs.flatMap S_api_Piece.cs) := fun {g s xs} L => by
    refine ⟨fun hn => ?_, fun a ha j v hj => ?_⟩
    · cases xs with
      | nil => rfl
      | cons x r => obtain ⟨a, ha, _⟩ := L.at' 0 x rfl; rw [hn] at ha; cases ha
    · have hl : j < (xs.flatMap S_api_Piece.cs).length := (List.getElem?_eq_some_iff.1 hj).1
      rw [fm_len pcs5] at hl
      have e := fm_get pcs5 xs (j / 5) (j % 5) (Nat.mod_lt _ (by decide))
      rw [show j / 5 * 5 + j % 5 = j from by omega, hj] at e
      obtain ⟨x, hx⟩ : ∃ x, xs[j / 5]? = some x := ⟨_, List.getElem?_eq_getElem (by omega)⟩
      rw [hx] at e
      obtain ⟨a', ha', hc⟩ := L.at' _ _ hx
      rw [ha] at ha'; cases ha'
      have := hc (j % 5) v e.symm
      rwa [add_add2, show j / 5 * 5 + j % 5 = j from by omega] at this
  have la : (subS p1 5 r.toNat l.length (p1.cap : Int).toNat).len = l.length - r.toNat := rfl
  have lb : (subS p1 5 (0 : Int).toNat r.toNat (p1.cap : Int).toNat).len = r.toNat := rfl
  have R0 : Row h2.size h12 80 5 ⟨some ⟨h2.size, 0, none⟩, 0, 0⟩ ([] : List Value) := ⟨rfl, by simp [maxLen], .inr ⟨h2.size, [], rfl, Nat.le_refl _, B11, Nat.le_refl _, by simp, by simp⟩⟩
  refine ⟨_, slcOf sa, app1 R0 (by omega) rfl (by rw [fm_len pcs5, List.length_drop, la]) (fun v hv => by obtain ⟨x, _, hx⟩ := List.mem_flatMap.1 hv; exact pcs_one x v hx) (by rw [la]; show (0 + (l.length - r.toNat)) * 48 ≤ _; omega) (by rw [la]; show 0 + (l.length - r.toNat) ≤ _; unfold maxLen; omega) fun s13 h14 R14 l14 X14 => ?_⟩
  have z14 := X14.size
  have X214 : Ext h2.size h2 h14 := X12.trans X14
  have sb' := (L2.ext X214).sub (a := (0 : Int).toNat) (b := r.toNat) (m := (p1.cap : Int).toNat) (by simp) (by omega) (by omega)
  simp only [Int.toNat_zero, List.drop_zero] at sb'
  simp only [List.nil_append] at R14
  refine ⟨_, slcOf sb', app1 R14 (by omega) rfl (by rw [fm_len pcs5, List.length_take]; show _ = r.toNat * 5; rw [Nat.min_eq_left (by omega)]) (fun v hv => by obtain ⟨x, _, hx⟩ := List.mem_flatMap.1 hv; exact pcs_one x v hx) (by rw [l14, la]; show (0 + (l.length - r.toNat) + r.toNat) * 48 ≤ _; omega) (by rw [l14, la]; show 0 + (l.length - r.toNat) + r.toNat ≤ _; unfold maxLen; omega) fun s16 h17 R17 l17 X17 => ?_⟩
  have z17 := X17.size
  have X217 := X214.trans X17
  have D1 := B1.ext X217 B1.lt
  rw [← List.flatMap_append] at R17
  have L16 : Pcs h17 s16 (l.drop r.toNat ++ l.take r.toNat) := ls_of_slc pcs5 R17.slc (by rw [l17, l14, la, lb]; show 0 + (l.length - r.toNat) + r.toNat = _; rw [List.length_append, List.length_drop, List.length_take]; omega) (by decide)
  have hp : ∀ p ∈ l, p.f_Series.size ≤ 100000000 ∧ in64 p.f_V ∧ in64 p.f_T := fun p hp => ⟨by have := s400 p hp; omega, hok p hp⟩
  have mm : ∀ z, z ∈ l ↔ z ∈ l.drop r.toNat ++ l.take r.toNat := fun z => by
    rw [List.mem_append]
    conv => lhs; rw [← List.take_append_drop r.toNat l, List.mem_append]
    exact or_comm
  refine ⟨q, CellsAt.of_blk D1, Run_ok (L2.ext X217) (by omega) (by omega) hp q6 fun zs s21 h21 im X21 R21 _ => ?_⟩
  have z21 := X21.size
  refine ⟨q, CellsAt.of_blk (D1.ext X21 D1.lt), Run_ok (L16.ext X21) ?_ (by omega) (fun p h => hp p ((mm p).2 h)) q6 fun zs2 s24 h24 im2 X24 R24 _ => ?_⟩
  · rw [List.length_append, List.length_drop, List.length_take]; omega
  · have e := run_mrg (hz := hz) im im2 mm
    rw [← e] at R24 ⊢
    rw [if_pos (by simp)]
    have b1 := runP_bd (q := q) (hz := hz) (zs := zs)
    have b2 := im_len im
    refine SameRows_ok (R21.ext X24) R24 (by omega) ?_
    unfold law19_QueryOrder_g2
    rw [if_pos rfl]
    exact awake_ok fun h'' X => by unfold law19_QueryOrder_g3; exact H h'' ((X1.trans (X217.mono z1)).trans (((X21.mono (by omega)).trans (X24.mono (by omega))).trans (X.mono (by have := X24.size; omega))))
end Go.Q.Yg
