/- A part of the proof of statements of this seat: lemmas, no statement of their own. -/
import Derived.Test.YtoapfefofjfifaaGreatYcTab
import Derived.Test.YtoapfefofjfifaaGreatYc0
import Derived.Test.YtoapfefofjfifaaGreatQRng
set_option linter.unusedVariables false
set_option maxRecDepth 100000
set_option maxHeartbeats 1000000
namespace Go.Q.Yc
/-- maps.Values map quaestor piece.place quaestor api.Piece quaestor piece.place quaestor api.Piece  1 -/
def maps_Values_map_piece_place_api_Piece_piece_place_api_Piece_1_l1b (t0_1 : Value) (t6_1 : Addr) (k : (Unit) → Heap → Prop) (nx1 : (Unit) → Heap → Prop) (h_1 : Heap) : Prop :=
  ∃ (bn7 rn7 ckn7 sincen7 lastn7 : Nat) (esn7 : Array MapEntry) (seenn7 : Array Nat), t6_1 = (⟨bn7, 0, none⟩ : Addr) ∧ h_1[bn7]? = some (.mapIter (some rn7) sincen7 seenn7 lastn7) ∧ h_1[rn7]? = some (.map esn7 ckn7) ∧ (∀ x ∈ esn7.toList, x.born < sincen7) ∧ sincen7 ≤ lastn7 ∧ ((∀ x ∈ esn7.toList, seenn7.contains x.born = true) → (if false then (False) else (k () h_1))) ∧ (∀ xn7 ∈ esn7.toList, seenn7.contains xn7.born = false → ∀ h8 : Heap, h8 = nxH h_1 bn7 rn7 sincen7 seenn7 xn7 ckn7 → (if true then (False) else (k () h8)))
def maps_Values_map_piece_place_api_Piece_piece_place_api_Piece_1_l1 (t0_1 : Value) (t6_1 : Addr) (k : (Unit) → Heap → Prop) (h : Heap) : Prop :=
  ∃ (I : Unit → Heap → Prop) (μ : Unit → Heap → Nat), I () h ∧ ∀ (h : Heap), I () h → maps_Values_map_piece_place_api_Piece_piece_place_api_Piece_1_l1b t0_1 t6_1 k (fun s h' => I s h' ∧ μ s h' < μ () h) h
def maps_Values_map_piece_place_api_Piece_piece_place_api_Piece_1 (p0 : Value) (p1 : Addr) (k : (Unit) → Heap → Prop) (h : Heap) : Prop :=
  ∃ v1 : Option Nat, cellH h p1 = some (.map v1) ∧ (∃ (r2 : Nat) (e3 : Array MapEntry) (c4 : Nat) (b5 : Nat) (h6 : Heap), v1 = some r2 ∧ h[r2]? = some (.map e3 c4) ∧ b5 = h.size ∧ h6 = h.push (.mapIter (some r2) c4 #[] c4) ∧ (maps_Values_map_piece_place_api_Piece_piece_place_api_Piece_1_l1 p0 (⟨b5, 0, none⟩ : Addr) k h6))

theorem maps_Values_map_piece_place_api_Piece_piece_place_api_Piece_1_ok : CallOk Go.Proofs.Tryz.prog 47 := ⟨_, Go.Proofs.Tryz.func47, by kernel_rfl, by kernel_rfl⟩
theorem maps_Values_map_piece_place_api_Piece_piece_place_api_Piece_1_ref (p0 : Value) (p1 : Addr) (k : (Unit) → Heap → Prop) (h : Heap) (H : maps_Values_map_piece_place_api_Piece_piece_place_api_Piece_1 p0 p1 k h) : CallsH Go.Proofs.Tryz.prog 47 #[p0, .pointer (some p1)] h (fun v h' => ∃ r : Unit, v = .tuple #[] ∧ k r h') := by
  refine f_enter (N := 15) Go.Proofs.Tryz.func47 rfl rfl rfl (fun w0 => ?_)
  unfold maps_Values_map_piece_place_api_Piece_piece_place_api_Piece_1 at H
  refine c_weak [(0, p0), (1, .pointer (some p1))] ⟨rfl, rfl, trivial⟩ ?_
  refine c_seq ?_
  refine c_region ?_
  obtain ⟨v1, hv1, H⟩ := H
  refine w_y (y_ld tok rfl rfl rfl rfl hv1) rfl rfl ?_
  obtain ⟨r2, e3, c4, b5, h6, er2, mr2, eb5, eh6, H⟩ := H
  refine w_h (h_rng (kt := 88) (et := 75) (m := v1) rfl rfl (by kernel_rfl) er2 mr2 eb5 eh6) rfl rfl ?_
  refine w_end ?_
  refine x_seq ?_
  refine c_block ?_
  obtain ⟨I1, μ1, H0, HI⟩ := H
  refine c_loop (σ := Unit) (fun (s : Unit) => [(0, p0), (6, .pointer (some (⟨b5, 0, none⟩ : Addr)))]) I1 μ1 () H0 ⟨rfl, rfl, trivial⟩ ?_
  rintro _ h_1 H
  replace H := HI  h_1 H
  unfold maps_Values_map_piece_place_api_Piece_piece_place_api_Piece_1_l1b at H
  refine c_weak [(0, p0), (6, .pointer (some (⟨b5, 0, none⟩ : Addr)))] ⟨rfl, rfl, trivial⟩ ?_
  refine c_seq ?_
  refine c_region ?_
  obtain ⟨bn7, rn7, ckn7, sincen7, lastn7, esn7, seenn7, han7, h1n7, h2n7, h3n7, h4n7, HAn7, HBn7⟩ := H
  refine w_a (a_nx rfl rfl han7 h1n7 h2n7 h3n7 h4n7) rfl rfl ?_
  rintro _ h8 (⟨rfl, rfl, hsn7⟩ | ⟨xn7, hxn7, hnn7, rfl, ehn7⟩)
  ·
    replace H := HAn7 hsn7
    refine w_p tok rfl rfl rfl ?_
    refine w_end ?_
    refine x_seq ?_
    refine c_seq ?_
    refine c_if H rfl (fun H => ?_) (fun H => ?_)
    ·
      refine c_skip ?_
      refine x_seq ?_
      refine c_block ?_
      refine c_seq ?_
      refine c_region ?_
      exact H.elim
    ·
      refine c_exit ?_
      refine x_te ?_
      refine x_te ?_
      refine x_bh ?_
      exact x_end _ rfl _ rfl ⟨(), rfl, H⟩
  ·
    replace H := HBn7 xn7 hxn7 hnn7 h8 ehn7
    refine w_p tok rfl rfl rfl ?_
    refine w_end ?_
    refine x_seq ?_
    refine c_seq ?_
    refine c_if H rfl (fun H => ?_) (fun H => ?_)
    ·
      refine c_skip ?_
      refine x_seq ?_
      refine c_block ?_
      refine c_seq ?_
      refine c_region ?_
      exact H.elim
    ·
      refine c_exit ?_
      refine x_te ?_
      refine x_te ?_
      refine x_bh ?_
      exact x_end _ rfl _ rfl ⟨(), rfl, H⟩
end Go.Q.Yc
