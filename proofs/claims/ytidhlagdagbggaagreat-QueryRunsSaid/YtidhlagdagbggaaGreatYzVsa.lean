/- A part of the proof of statements of this seat: lemmas, no statement of their own. -/
import Derived.Test.YtidhlagdagbggaaGreatYzVs
import Derived.Test.YtidhlagdagbggaaGreatYzCma
import Derived.Test.YtidhlagdagbggaaGreatQMap
import Derived.Test.YtidhlagdagbggaaGreatQLs
set_option linter.unusedVariables false
/- slices.Collect of maps.Values of a map of pieces, over the layer's heap. -/
namespace Go.Q.Yz
open Go.Proofs Go.RowKit Go.MapKept
instance : Inhabited S_api_Piece := ⟨⟨⟨#[]⟩, 0, 0, ⟨0, 0⟩⟩⟩
def of5 (x : YwYz.PT) : S_api_Piece := ⟨x.1, x.2.1, x.2.2.1, ⟨x.2.2.2.1, x.2.2.2.2⟩⟩
def to5 (x : S_api_Piece) : YwYz.PT := (x.f_Series, x.f_T, x.f_V, x.f_Id.f_N, x.f_Id.f_Node)
def pval (x : S_api_Piece) : Value := .agg (S_api_Piece.cs x).toArray
theorem pval_inj {x y : S_api_Piece} (h : pval x = pval y) : x = y := by
  obtain ⟨a, b, c, d, e⟩ := x
  obtain ⟨a', b', c', d', e'⟩ := y
  simp [pval, S_api_Piece.cs, S_api_Id.cs] at h
  obtain ⟨rfl, rfl, rfl, rfl, rfl⟩ := h
  rfl
/-- a row that a slice owns, in the layer's words -/
theorem row_of_owns {W : World} {B E w n : Nat} {v : Value} {xs : List Value} (o : W.ownsRow B E w v n xs) : ∃ s : Slc, v = s.v ∧ Row B W.heap E w s xs ∧ s.len = n := by
  obtain ⟨hl, ⟨rfl, rfl⟩ | ⟨g, cap, cur, rfl, hB, hg, hc, hm, hs, ht⟩⟩ := o
  · exact ⟨⟨none, 0, 0⟩, rfl, ⟨by simpa using hl, by simp [maxLen], .inl ⟨rfl, rfl, rfl⟩⟩, rfl⟩
  · exact ⟨⟨some ⟨g, 0, none⟩, n, cap⟩, rfl, ⟨hl, hm, .inr ⟨g, cur.toList, rfl, hB, ⟨0, 0, by simpa using hg, .inl (Nat.le_refl _)⟩, hc, by simp [hs], ht⟩⟩, rfl⟩
theorem perm_of_map_inj {α β : Type} {f : α → β} (inj : ∀ a b, f a = f b → a = b) : ∀ {l m : List α}, (l.map f).Perm (m.map f) → l.Perm m := by
  intro l
  induction l with
  | nil => intro m h; have := h.length_eq; simp at this; cases m with
    | nil => exact .nil
    | cons a r => simp at this
  | cons a r ih =>
    intro m h
    have hm : f a ∈ m.map f := h.subset (by simp)
    obtain ⟨b, hb, e⟩ := List.mem_map.1 hm
    have : b = a := inj _ _ e
    subst this
    obtain ⟨s, t, rfl⟩ := List.append_of_mem hb
    have h2 : ((b :: r).map f).Perm ((b :: (s ++ t)).map f) := h.trans ((List.perm_middle).map f)
    exact ((ih ((List.perm_cons (f b)).1 h2)).cons b).trans List.perm_middle.symm
/-- what slices.Collect does: it is asked of maps.Values of a map of pieces -/
def slices_Collect_api_Piece (f : Value) (k : Slc → Heap → Prop) (h : Heap) : Prop :=
  ∃ (bx r ck : Nat) (es : Array MapEntry) (l : List S_api_Piece), f = .func (.func 67) #[] #[.pointer (some ⟨bx, 0, none⟩)] ∧ cellH h ⟨bx, 0, none⟩ = some (.map (some r)) ∧ h[r]? = some (.map es ck) ∧ Stamped es ck ∧
    es.toList.map (·.val) = l.map pval ∧ l.length ≤ 1000000 ∧ ∀ (s : Slc) (xs : List S_api_Piece) h', xs.Perm l → Row h.size h' 46 5 s (xs.flatMap S_api_Piece.cs) → s.len = xs.length → Ext h.size h h' → k s h'
theorem slices_Collect_api_Piece_ok : CallOk Tryz.prog 65 := ⟨_, Tryz.func65, by kernel_rfl, by kernel_rfl⟩
theorem slices_Collect_api_Piece_ref (f : Value) (k : Slc → Heap → Prop) (h : Heap) (H : slices_Collect_api_Piece f k h) : CallsH Tryz.prog 65 #[f] h (fun v h' => ∃ r : Slc, v = Slc.v r ∧ k r h') := by
  obtain ⟨bx, r, ck, es, l, rfl, hb, hm, st, hv, hl, H⟩ := H
  intro w hw
  obtain ⟨s1, s2, s3⟩ := (stamped_iff es ck).1 st
  have hbl : bx < w.heap.size := by rw [hw]; exact cellH_lt hb
  have hes : es.size = l.length := by have := congrArg List.length hv; simpa using this
  have hcs : ∀ x ∈ es.toList, ∃ q : YwYz.PT, x.val = YwYz.pv q := fun x hx => by
    have : x.val ∈ l.map pval := by rw [← hv]; exact List.mem_map.2 ⟨x, hx, rfl⟩
    obtain ⟨p, _, e⟩ := List.mem_map.1 this
    exact ⟨to5 p, by rw [← e]; rfl⟩
  refine (callsIn_wide.1 (YwYz.collect_in Fence.wide 5 trivial trivial trivial rfl (by omega) bx r ck es w hcs s1 s2 (by omega) hbl (by subst hw; exact hb) (by subst hw; exact hm))).mono ?_
  rintro e w' ⟨v, ys, rfl, hp, hrow, B⟩
  obtain ⟨s, rfl, R, hn⟩ := row_of_owns hrow
  subst hw
  refine ⟨_, rfl, ⟨B.os, B.tape, B.output, rfl, fun k => by cases k⟩, s, rfl, H s (ys.map of5) w'.heap ?_ ?_ (by simpa using hn) ⟨B.size, B.block⟩⟩
  · have h1 : ((ys.map of5).map pval).Perm (l.map pval) := by
      rw [List.map_map, ← hv]; exact hp
    exact perm_of_map_inj (fun _ _ => pval_inj) h1
  · rw [List.flatMap_map]; exact R
end Go.Q.Yz
