/- A part of the proof of statements of this seat: lemmas, no statement of their own. -/
import Derived.Test.YtidhlagdagbggaaGreatYzSrt
import Derived.Test.YtidhlagdagbggaaGreatYzLayS
import Derived.Test.YtidhlagdagbggaaGreatQRow
import Derived.Shelf.SlSortCmp.NoneTotal
set_option linter.unusedVariables false
set_option linter.unusedSimpArgs false
set_option maxRecDepth 100000
/- slices.SortFunc of pieces: they lie sorted. -/
namespace Go.Q.Yz
open Go.Proofs Go.RowKit Go.Shelf Go.Sort Go.Q.Rw
theorem Good.swo {α : Type} {c : α → α → Int} (C : Good c) : SWO (ltOf c) where
  irrefl x := by have := C.anti x x; simp [ltOf]; omega
  trans x y z h1 h2 := by
    simp [ltOf] at *
    have a1 := C.anti x y
    have a2 := C.anti y z
    have a3 := C.anti x z
    have t1 := C.tr x y z
    have t2 := C.tr z x y
    omega
  ntrans x y z h1 h2 := by
    simp [ltOf] at *
    have a1 := C.anti x y
    have a2 := C.anti y z
    have a3 := C.anti x z
    have t1 := C.tr z y x
    omega
theorem pcs5 (x : S_api_Piece) : (S_api_Piece.cs x).length = 5 := rfl
theorem flat_list (xs : List S_api_Piece) : (flatK S_api_Piece.cs 5 xs.toArray).toList = xs.flatMap S_api_Piece.cs := by
  apply List.ext_getElem?
  intro t
  by_cases ht : t < xs.length * 5
  · have h1 : t / 5 < xs.length := by omega
    have h2 : t % 5 < 5 := Nat.mod_lt _ (by omega)
    have e : (xs.flatMap S_api_Piece.cs)[t]? = some ((S_api_Piece.cs xs[t / 5])[t % 5]'(by rw [pcs5]; exact h2)) := by
      have := fm_get pcs5 xs (t / 5) (t % 5) h2
      rw [show t / 5 * 5 + t % 5 = t from by omega] at this
      rw [this, List.getElem?_eq_getElem h1, Option.bind_some, List.getElem?_eq_getElem (by rw [pcs5]; exact h2)]
    rw [e]
    have h3 : t % 5 < (S_api_Piece.cs xs[t / 5]).length := by rw [pcs5]; exact h2
    simp [flatK, ht, h1, h3]
  · rw [List.getElem?_eq_none (by simp; omega), List.getElem?_eq_none (by rw [fm_len pcs5]; omega)]
theorem world_grow {W w' : World} (ww : WW true W w'.heap w') (X : Ext W.heap.size W.heap w'.heap) : ∃ q os', w' = grow (W.drewN q) os' := by
  obtain ⟨a1, a2, a3, a4, a5⟩ := ww
  refine ⟨w'.drawn - W.drawn, w'.heap.extract W.heap.size w'.heap.size, ?_⟩
  have hd := a5 rfl
  have hh : w'.heap = W.heap ++ w'.heap.extract W.heap.size w'.heap.size := by
    apply Array.ext_getElem?
    intro i
    by_cases hi : i < W.heap.size
    · rw [X.block i hi, Array.getElem?_append_left hi]
    · rw [Array.getElem?_append_right (by omega), Array.getElem?_extract]
      have hs := X.size
      by_cases h2 : i < w'.heap.size
      · rw [if_pos (by omega)]; congr 1; omega
      · rw [if_neg (by omega)]; exact Array.getElem?_eq_none (by omega)
  cases w'
  cases W
  simp only [grow, World.drewN] at *
  subst a1; subst a2; subst a3
  congr 1
  omega
theorem cmpLays (blk off size : Nat) (w : World) : CmpLays Tryz.prog 39 #[] S_api_Piece.cs 5 cmpP blk off size w := fun m os dk hs x y => by
  refine ((piece_compare_ref (D := true) x y (fun r h' => r = cmpP x y ∧ Ext (sortWorldK S_api_Piece.cs 5 w blk off m dk os).heap.size (sortWorldK S_api_Piece.cs 5 w blk off m dk os).heap h') _ (Compare_ok fun h' X => ⟨rfl, X⟩)) _ rfl).mono ?_
  rintro e w' ⟨v, rfl, ww, r, rfl, rfl, X⟩
  exact ⟨rfl, world_grow ww X⟩
/-- what slices.SortFunc does: it is asked of pieces, by their order -/
def slices_SortFunc_api_Piece_api_Piece (s : Slc) (f : Value) (k : Unit → Heap → Prop) (h : Heap) : Prop :=
  f = .func (.func 39) #[] #[] ∧ ∃ (B : Nat) (xs : List S_api_Piece), Row B h 46 5 s (xs.flatMap S_api_Piece.cs) ∧ s.len = xs.length ∧ B ≤ h.size ∧ xs.length ≤ 1000000 ∧
    ∀ (zs : List S_api_Piece) h', zs.Perm xs → zs.Pairwise (fun a b => cmpP a b ≤ 0) → Row B h' 46 5 s (zs.flatMap S_api_Piece.cs) → Ext B h h' → k () h'
theorem slices_SortFunc_api_Piece_api_Piece_ok : CallOk Tryz.prog 66 := ⟨_, Tryz.func66, by kernel_rfl, by kernel_rfl⟩
theorem slices_SortFunc_api_Piece_api_Piece_ref (s : Slc) (f : Value) (k : Unit → Heap → Prop) (h : Heap) (H : slices_SortFunc_api_Piece_api_Piece s f k h) : CallsH Tryz.prog 66 #[Slc.v s, f] h (fun v h' => ∃ r : Unit, v = .tuple #[] ∧ k r h') := by
  obtain ⟨rfl, B, xs, R, hl, hB, hx, H⟩ := H
  intro w hw
  obtain ⟨a, len, cap⟩ := s
  obtain ⟨r1, r2, ⟨rfl, q2, q3⟩ | ⟨g, cur, rfl, r3, r4, r5, r6, r7⟩⟩ := R
  · simp only at q2 q3 hl
    subst q2
    obtain rfl : xs = [] := List.length_eq_zero_iff.1 hl.symm
    have hcon := AnyF.slices_SortFunc_none Tryz.sortP none cap (.func (.func 39) #[] #[]) w
    change Calls Tryz.prog 66 _ _ _ at hcon
    refine (show Calls Tryz.prog 66 #[Slc.v ⟨none, 0, cap⟩, _] w _ from hcon).mono ?_
    rintro e w' ⟨rfl, rfl⟩
    refine ⟨_, rfl, WW.self _, (), rfl, ?_⟩
    subst hw
    exact H [] _ (.refl _) .nil ⟨r1, r2, .inl ⟨rfl, rfl, q3⟩⟩ (Ext.refl _ _)
  simp only at hl r1 r2 r5 r6 r7
  subst hl
  subst hw
  obtain ⟨lo, hi, b1, b2⟩ := r4
  have hg : g < w.heap.size := (Array.getElem?_eq_some_iff.1 b1).1
  have hcl : cap * 5 ≤ cur.length := r6
  have fl : ∀ j, j < xs.length * 5 → cur[j]? = some ((flatK S_api_Piece.cs 5 xs.toArray)[j]!) := fun j hj => by
    have e : (cur.take (xs.length * 5))[j]? = cur[j]? := by rw [List.getElem?_take, if_pos hj]
    rw [← e, r7, ← flat_list, getElem!_pos _ j (by simpa using hj)]
    simp [hj]
  have hH : HoldsK S_api_Piece.cs 5 w g 0 xs.toArray := fun j hj => by
    simp at hj
    rw [Nat.zero_add]
    refine ⟨?_, ?_⟩
    · show cellH w.heap ⟨g, j, none⟩ = _
      rw [Blk.cell ⟨lo, hi, b1, b2⟩, fl j hj]; rfl
    · exact Blk.froz ⟨lo, hi, b1, b2⟩ (by omega)
  have eg : ∀ args w, (callFunc 39 args).run Tryz.prog w = .ok (.enter 39 args) w := enters_of Tryz.func39 (by kernel_rfl) rfl
  have hcon := AnyQ.slices_SortFunc Tryz.sortP 5 Tryz.isAgg46 Tryz.sizeOf46 S_api_Piece.cs pcs5 (fun x v hv => by simp [S_api_Piece.cs, S_api_Id.cs] at hv; rcases hv with rfl | rfl | rfl | rfl | rfl <;> rfl) cmpP good_P.swo 39 #[] g 0 cap xs.toArray w eg (cmpLays g 0 _ w) hH hg (by simp; omega)
  change Calls Tryz.prog 66 _ _ _ at hcon
  refine (show Calls Tryz.prog 66 #[Slc.v ⟨some ⟨g, 0, none⟩, xs.length, cap⟩, _] w _ from hcon).mono ?_
  rintro e w' ⟨rfl, d', n, os, ⟨p1, p2, p3⟩, hs, rfl⟩
  have hsz : d'.size = xs.length := by simpa using p1
  have hW := holdsK_sortWorldK S_api_Piece.cs 5 w g 0 n xs.toArray d' os hg hH p1
  have hlen : (flatK S_api_Piece.cs 5 d').size = xs.length * 5 := by simp [hsz]
  have hheap : (sortWorldK S_api_Piece.cs 5 w g 0 n d' os).heap = w.heap.modify g (onCells (putCells id 0 (flatK S_api_Piece.cs 5 d'))) ++ os := rfl
  have hb : (sortWorldK S_api_Piece.cs 5 w g 0 n d' os).heap[g]? = some (.cells (putCells id 0 (flatK S_api_Piece.cs 5 d') cur.toArray) 46 (lo, hi)) := by
    rw [hheap]
    rw [Array.getElem?_append_left (by simpa using hg)]
    simp [Array.getElem?_modify, b1, onCells]
  have ho : ∀ i, i < w.heap.size → i ≠ g → (sortWorldK S_api_Piece.cs 5 w g 0 n d' os).heap[i]? = w.heap[i]? := fun i hi hne => by
    rw [hheap]
    rw [Array.getElem?_append_left (by simpa using hi)]
    simp [Array.getElem?_modify, Ne.symm hne]
  have hh : w.heap.size ≤ (sortWorldK S_api_Piece.cs 5 w g 0 n d' os).heap.size := by
    rw [hheap]
    simp
  have hcur : (putCells id 0 (flatK S_api_Piece.cs 5 d') cur.toArray).toList.length = cur.length := by simp [putCells]
  refine ⟨_, rfl, ⟨rfl, rfl, rfl, rfl, fun k => by cases k⟩, (), rfl, H d'.toList _ ?_ ?_ ⟨?_, r2, .inr ⟨g, (putCells id 0 (flatK S_api_Piece.cs 5 d') cur.toArray).toList, rfl, r3, ⟨lo, hi, by simpa using hb, by rw [hcur]; exact b2⟩, r5, by rw [hcur]; exact r6, ?_⟩⟩ ⟨hh, fun i hi => ho i (by omega) (by omega)⟩⟩
  · have p4 := p3
    simp at p4
    rw [List.take_of_length_le (by simp [hsz])] at p4
    exact p4
  · rw [List.pairwise_iff_getElem]
    intro i j hi hj hij
    simp at hi hj
    have := hs i j (Nat.zero_le _) hij (by simp; omega)
    rw [getElem!_pos d' i hi, getElem!_pos d' j hj] at this
    have ha := good_P.anti d'[i] d'[j]
    simp [ltOf] at this
    show cmpP d'[i] d'[j] ≤ 0
    omega
  · rw [fm_len pcs5]; simp [hsz]
  · show List.take (xs.length * 5) _ = _
    rw [← flat_list]
    apply List.ext_getElem?
    intro t
    rw [List.getElem?_take]
    by_cases ht : t < xs.length * 5
    · rw [if_pos ht]
      simp [putCells, hsz, ht]
      have : t < cur.length := by omega
      simp [this, flatK, hsz, ht]
    · rw [if_neg ht, List.getElem?_eq_none (by simp [hsz]; omega)]
def slices_SortFunc_api_Piece_api_Piece__piece_compare (s : Slc) (k : Unit → Heap → Prop) (h : Heap) : Prop := slices_SortFunc_api_Piece_api_Piece s (.func (.func 39) #[] #[]) k h
theorem slices_SortFunc_api_Piece_api_Piece__piece_compare_ok : CallOk Tryz.prog 66 := slices_SortFunc_api_Piece_api_Piece_ok
theorem slices_SortFunc_api_Piece_api_Piece__piece_compare_ref (s : Slc) (k : Unit → Heap → Prop) (h : Heap) (H : slices_SortFunc_api_Piece_api_Piece__piece_compare s k h) : CallsH Tryz.prog 66 #[Slc.v s, .func (.func 39) #[] #[]] h (fun v h' => ∃ r : Unit, v = .tuple #[] ∧ k r h') :=
  slices_SortFunc_api_Piece_api_Piece_ref s _ k h H
end Go.Q.Yz
