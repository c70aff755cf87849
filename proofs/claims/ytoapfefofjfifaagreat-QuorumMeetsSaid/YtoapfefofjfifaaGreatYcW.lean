/- A part of the proof of statements of this seat: lemmas, no statement of their own. -/
import Derived.RangeFuncBox
import Derived.RangeFuncLeaves
import Derived.Shelf.Abstract
import Derived.WalkKit
import Derived.OwnWalkIn
import Derived.TacticsInMore
import Derived.LoopNIn
import Derived.LoopIn
import Derived.Maps.AppendAt
import Derived.Test.YtoapfefofjfifaaGreatYcV
set_option linter.unusedVariables false
/- slices.Collect of maps.Values of a map that has nothing. -/
namespace Go.Proofs
open Go.RowKit Go.Shelf
attribute [local go_sem] Oper.semAt_some
namespace Yw
theorem values1 (yv : Value) (bx r ck : Nat) (W : World) (hb : W.cell? ⟨bx, 0, none⟩ = some (.map (some r))) (hm : W.heap[r]? = some (.map #[] ck)) :
    Calls Tryz.prog 47 #[yv, .pointer (some ⟨bx, 0, none⟩)] W fun e W' => (∃ v, e = .returned v) ∧ W.grownBy W' none := by
  have H : Go.Q.Yc.maps_Values_map_piece_place_api_Piece_piece_place_api_Piece_1 yv ⟨bx, 0, none⟩ (fun _ h' => h' = W.heap.push (.mapIter (some r) ck #[] ck)) W.heap := by
    unfold Go.Q.Yc.maps_Values_map_piece_place_api_Piece_piece_place_api_Piece_1
    refine ⟨some r, hb, r, #[], ck, _, _, rfl, hm, rfl, rfl, ?_⟩
    have lt : r < W.heap.size := (Array.getElem?_eq_some_iff.1 hm).1
    unfold Go.Q.Yc.maps_Values_map_piece_place_api_Piece_piece_place_api_Piece_1_l1
    refine ⟨fun _ h' => h' = W.heap.push (.mapIter (some r) ck #[] ck), fun _ _ => 0, rfl, ?_⟩
    rintro h' rfl
    unfold Go.Q.Yc.maps_Values_map_piece_place_api_Piece_piece_place_api_Piece_1_l1b
    refine ⟨W.heap.size, r, ck, ck, ck, #[], #[], rfl, by simp, ?_, by simp, Nat.le_refl _, fun _ => ?_, fun x hx => by simp at hx⟩
    · rw [(Go.Q.Ext.push W.heap (.mapIter (some r) ck #[] ck) (Nat.le_refl _)).block r lt]; exact hm
    · rw [if_neg (by simp)]
  refine (Go.Q.Yc.maps_Values_map_piece_place_api_Piece_piece_place_api_Piece_1_ref yv ⟨bx, 0, none⟩ _ W.heap H W rfl).mono ?_
  rintro e W' ⟨v, rfl, ww, _, _, eh⟩
  refine ⟨⟨v, rfl⟩, ww.os, ww.tape, ww.output, ?_, fun i hi _ => ?_⟩
  · rw [eh]; simp
  · rw [eh]; exact (Go.Q.Ext.push W.heap _ (Nat.le_refl _)).block i hi
theorem values_stops (n : Nat) (bx r ck : Nat) (w : World) (hbs : bx < w.heap.size) (hb : w.cell? ⟨bx, 0, none⟩ = some (.map (some r))) (hm : w.heap[r]? = some (.map #[] ck)) (n₀ : Nat) :
    SeqStopsK Fence.wide n Tryz.prog 47 #[.pointer (some ⟨bx, 0, none⟩)] (fun x : Empty => x.elim) (Below n₀) (fun ys => ys = []) (fun _ => True) 0 w := fun l J Jx W hW hJ _ hY h0 => by
  have hr : r < w.heap.size := (Array.getElem?_eq_some_iff.1 hm).1
  have h1 : W.cell? ⟨bx, 0, none⟩ = some (.map (some r)) := (hW.cell (p := ⟨bx, 0, none⟩) hbs).trans hb
  have h2 : W.heap[r]? = some (.map #[] ck) := (hW.block r hr).trans hm
  refine callsIn_wide.2 ((values1 _ bx r ck W h1 h2).mono ?_)
  rintro e W' ⟨he, hg⟩
  exact ⟨he, .inl ⟨[], rfl, hJ [] W W' none h0 hg (fun r e => by cases e)⟩⟩
set_option maxRecDepth 100000 in
set_option maxHeartbeats 2000000 in
/-- slices.AppendSeq of nil and of it -/
theorem appendSeq_in (n : Nat) (hn : 3 ≤ n) (bx r ck : Nat) (w : World) (hbs : bx < w.heap.size) (hb : w.cell? ⟨bx, 0, none⟩ = some (.map (some r))) (hm : w.heap[r]? = some (.map #[] ck)) :
    CallsIn Fence.wide n Tryz.prog 66 #[.slice none 0 0, .func (.func 47) #[] #[.pointer (some ⟨bx, 0, none⟩)]] w fun e W' => e = .returned (.slice none 0 0) ∧ Below w.heap.size w W' := by
  have h1 : 1 ≤ n := by omega
  have hro : Fence.wide.round = none := rfl
  have hr : r < w.heap.size := (Array.getElem?_eq_some_iff.1 hm).1
  refine callsIn_of_wp_marks Tryz.func66 rfl trivial ?_ hro
  simp only [Tryz.ntmps66, List.size_toArray, List.length_cons, List.length_nil, Nat.reduceAdd, Nat.reduceSub, Array.replicate_succ, Array.replicate_zero, List.push_toArray, List.append_toArray, List.nil_append, List.cons_append]
  gi_wp2
  have bO := Boxed.new w 30 (.slice none 0 0)
  have hB0 : Below w.heap.size w (w.alloc (.cells #[.slice none 0 0] 30)) := (Below.refl _ w).alloc (Nat.le_refl _) _
  refine wpIn_rangeFunc_ownG hro h1 (gf := 47) (lb := #[.pointer (some ⟨bx, 0, none⟩)]) rfl trivial (enters_of Tryz.func47 (by kernel_rfl) rfl)
    (values_stops (n - 1) bx r ck _ (by simp; omega) ((hB0.cell (p := ⟨bx, 0, none⟩) hbs).trans hb) ((hB0.block r hr).trans hm) w.heap.size) belowK_t (belowK_b (by simp)) (Below.refl _ _) (fun x => x.elim)
    (fun pre W => (∃ v, Boxed W w.heap.size 30 v ∧ W.ownsRow w.heap.size 75 5 v pre.length [] ∧ v = .slice none 0 0) ∧ Below w.heap.size w W)
    (fun _ _ _ => False)
    (OwnFrom.and (Own.from (holdsRow_own w.heap.size w.heap.size 30 75 5 (fun pre : List Empty => pre.length) (fun pre => []) (fun pre v => v = .slice none 0 0)) _) (ownFrom_below (Nat.le_refl _) (by simp)))
    (fun _ _ _ _ _ hs _ _ => hs)
    ⟨⟨_, bO, World.ownsRow_nil _ _ _ _, rfl⟩, hB0⟩
    (fun x => x.elim) ?assign ?body ?done ?stop
  case assign =>
    intro l x
    exact x.elim
  case body =>
    rintro l pre x
    exact x.elim
  case done =>
    rintro D ys W hD rfl ⟨⟨v, hv, hrow, rfl⟩, hB⟩ hK
    have hc := hv.cell
    gi_wp2
    refine ⟨by simp, .inl ⟨_, _, rfl, run_takeDeferred hK, ?_⟩⟩
    exact ⟨_, results_tmp rfl _ _ _, rfl, hB.trans (belowK_b (w := w) (Nat.le_refl _) W D _ _ (by simp at hD; omega) hK rfl rfl)⟩
  case stop =>
    rintro D c pre W _ _ h _
    exact h.elim
set_option maxHeartbeats 1000000 in
theorem collect_of (F : Fence) (n : Nat) (h8 : F.fn 45) (h3 : F.fn 66) (hro : F.round = none) (hn : 4 ≤ n) (f : Value) (w : World) {B : Nat} (hA : CallsIn F (n - 1) Tryz.prog 66 #[.slice none 0 0, f] w fun e W' => e = .returned (.slice none 0 0) ∧ Below B w W') :
    CallsIn F n Tryz.prog 45 #[f] w fun e W' => e = .returned (.slice none 0 0) ∧ Below B w W' := by
  have h1 : 1 ≤ n := by omega
  refine callsIn_of_wp Tryz.func45 rfl h8 ?_ hro
  simp only [Tryz.ntmps45, List.size_toArray, List.length_cons, List.length_nil, Nat.reduceAdd, Nat.reduceSub, Array.replicate_succ, Array.replicate_zero, List.push_toArray, List.append_toArray, List.nil_append, List.cons_append]
  gi_wp2_with (gi_at_call 66; refine hA.mono ?_; rintro e w' ⟨rfl, hb2⟩)
  go_ret
  exact ⟨rfl, hb2⟩
/-- slices.Collect of it -/
theorem collect_in (n : Nat) (hn : 4 ≤ n) (bx r ck : Nat) (w : World) (hbs : bx < w.heap.size) (hb : w.cell? ⟨bx, 0, none⟩ = some (.map (some r))) (hm : w.heap[r]? = some (.map #[] ck)) :
    CallsIn Fence.wide n Tryz.prog 45 #[.func (.func 47) #[] #[.pointer (some ⟨bx, 0, none⟩)]] w fun e W' => e = .returned (.slice none 0 0) ∧ Below w.heap.size w W' :=
  collect_of Fence.wide n trivial trivial rfl hn _ w (appendSeq_in (n - 1) (by omega) bx r ck w hbs hb hm)
end Yw
end Go.Proofs
namespace Go.Q.Yc
open Go.Proofs Go.RowKit
/-- what slices.Collect does: it is asked of maps.Values of a map that has nothing alone -/
def slices_Collect_api_Piece (f : Value) (k : Slc → Heap → Prop) (h : Heap) : Prop :=
  ∃ (bx r ck : Nat), f = .func (.func 47) #[] #[.pointer (some ⟨bx, 0, none⟩)] ∧ cellH h ⟨bx, 0, none⟩ = some (.map (some r)) ∧ h[r]? = some (.map #[] ck) ∧ ∀ h', Ext h.size h h' → k ⟨none, 0, 0⟩ h'
theorem slices_Collect_api_Piece_ok : CallOk Tryz.prog 45 := ⟨_, Tryz.func45, by kernel_rfl, by kernel_rfl⟩
theorem slices_Collect_api_Piece_ref (f : Value) (k : Slc → Heap → Prop) (h : Heap) (H : slices_Collect_api_Piece f k h) : CallsH Tryz.prog 45 #[f] h (fun v h' => ∃ r : Slc, v = Slc.v r ∧ k r h') := by
  obtain ⟨bx, r, ck, rfl, hb, hm, H⟩ := H
  intro w hw
  have hbl : bx < w.heap.size := by rw [hw]; exact cellH_lt hb
  refine (callsIn_wide.1 (Yw.collect_in 5 (by omega) bx r ck w hbl (by subst hw; exact hb) (by subst hw; exact hm))).mono ?_
  rintro e w' ⟨rfl, B⟩
  refine ⟨_, rfl, ⟨B.os, B.tape, B.output, rfl⟩, ⟨none, 0, 0⟩, rfl, H _ ?_⟩
  subst hw
  exact ⟨B.size, B.block⟩
end Go.Q.Yc
