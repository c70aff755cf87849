/- A part of the proof of statements of this seat: lemmas, no statement of their own. -/
import Derived.Test.YtmhadeadjjkkcaaDoorYeFh
set_option linter.unusedVariables false
set_option linter.unusedSimpArgs false
set_option maxRecDepth 100000
/- Slot: the document's example, plainly: its states. -/
namespace Go.Q.Ye
theorem rdP {X : DK} {a : Int} {sec : List Int} (ha : 0 ≤ a ∧ a < 1024) (m : mget X.now a = some ⟨padB sec, false⟩) (l : sec.length ≤ 128) : readD X a = (padB sec, 0) := by
  unfold readD
  rw [if_neg (by omega), m]
  show (if false = true then _ else (secB ⟨padB sec, false⟩, (0 : Int))) = _
  rw [if_neg (by simp), secB_pad l]
theorem rdZ {X : DK} {a : Int} (ha : 0 ≤ a ∧ a < 1024) (m : mget X.now a = none) : readD X a = (nrm 128 [], 0) := by
  unfold readD
  rw [if_neg (by omega), m]
  rfl
theorem wr_ok {X : DK} {a : Int} {sec : List Int} (hd : X.dead = false) (hf : X.fuse = 0) (ha : 0 ≤ a ∧ a < 1024) (l : sec.length ≤ 128) :
    writeD X a sec = (0, { laidD X a sec with ops := IntKind.i64.wrap (X.ops + 1) }) := by
  unfold writeD
  rw [if_neg (by rw [hd]; simp), if_neg (by omega), if_neg (by omega)]
  unfold burnD
  rw [if_pos (show (laidD X a sec).fuse = 0 from hf)]
  rfl
theorem sy_ok {X : DK} (hd : X.dead = false) (hf : X.fuse = 0) : syncD X = (0, { X with ops := IntKind.i64.wrap (X.ops + 1), safe := [] }) := by
  unfold syncD
  rw [if_neg (by rw [hd]; simp)]
  unfold burnD
  rw [if_pos hf, if_neg (by simp)]
theorem lay1 {X : DK} {p : Int} {f : S_slot_head} {bs : List Int} (hd : X.dead = false) (hf : X.fuse = 0) (ha : 0 ≤ p ∧ p < 1024) (fp : f.f_parts = 1) :
    layD p f bs X 1 = ((f.f_n, 0), ⟨mput X.now p ⟨padB (laySec f bs 0), false⟩, [], 0, false, IntKind.i64.wrap (IntKind.i64.wrap (X.ops + 1) + 1)⟩) := by
  have e1 : layUp p f bs X 1 = (0, { laidD X p (laySec f bs 0) with ops := IntKind.i64.wrap (X.ops + 1) }) := by
    rw [layUp, layUp, if_neg (by simp), if_pos (by rw [fp]; decide)]
    show writeD X (p + ((0 : Nat) : Int)) (laySec f bs 0) = _
    rw [show p + ((0 : Nat) : Int) = p from by omega]
    exact wr_ok hd hf ha (sec_le _ _ _)
  unfold layD
  rw [e1, if_neg (by simp)]
  have e2 := sy_ok (X := { laidD X p (laySec f bs 0) with ops := IntKind.i64.wrap (X.ops + 1) }) hd hf
  show (if (syncD { laidD X p (laySec f bs 0) with ops := IntKind.i64.wrap (X.ops + 1) }).1 ≠ 0 then _ else ((f.f_n, (0 : Int)), (syncD { laidD X p (laySec f bs 0) with ops := IntKind.i64.wrap (X.ops + 1) }).2)) = _
  rw [e2, if_neg (by simp)]
  show ((f.f_n, (0 : Int)), (⟨(laidD X p (laySec f bs 0)).now, [], X.fuse, X.dead, _⟩ : DK)) = _
  rw [hf, hd]; rfl
abbrev X0 : DK := ⟨[], [], 0, false, 0⟩
def Y1 : DK := ⟨[(5, ⟨sA, false⟩)], [], 0, false, 2⟩
def Y2 : DK := ⟨[(5, ⟨sA, false⟩), (7, ⟨sB', false⟩)], [], 0, false, 4⟩
def Y3 : DK := ⟨[(5, ⟨sA, false⟩), (7, ⟨padB [], false⟩)], [(7, ⟨sB', false⟩)], 0, false, 5⟩
def Y4 : DK := ⟨[(5, ⟨sA, false⟩), (7, ⟨[], true⟩)], [], 0, false, 5⟩
theorem fn_zero : (hdD (nrm 128 [])).f_n = 0 := by decide
theorem gr_step {X : DK} {fr : Int} {n : Nat} {g : Int} (e : grD X fr n = g) (g0 : 0 ≤ g) (h : readD X (fr + n) = (nrm 128 [], 0)) : grD X fr (n + 1) = g := by
  rw [grD, h, if_pos rfl, e]
  unfold fst1
  rw [h, fn_zero, if_neg (by omega)]
theorem gr0 : grD X0 5 4 = 0 := by
  refine gr_step (gr_step (gr_step (gr_step rfl (by omega) ?_) (by omega) ?_) (by omega) ?_) (by omega) ?_ <;> exact rdZ (by decide) rfl
theorem r5 : readD Y1 5 = (sA, 0) := rdP (by decide) rfl (by rw [len_sec]; omega)
theorem fnA : (hdD sA).f_n = 1 := by
  have sb := sum_bd [97]
  have pp : prtD (([97] : List Int).length : Int) = 1 := by show prtD 1 = 1; decide
  rw [show hdD sA = _ from hd_sec (f := headD 0 [97]) (bs := [97]) (i := 0) ⟨by decide, by decide⟩ (by omega) (by rw [show (headD 0 [97]).f_parts = 1 from pp]; omega) (by show (0 : Int) ≤ 1 ∧ (1 : Int) < 4294967296; omega) sb]
  rfl
theorem gr1 : grD Y1 5 4 = 1 := by
  refine gr_step (gr_step (gr_step (g := 1) ?_ (by omega) ?_) (by omega) ?_) (by omega) ?_
  · rw [grD, show (5 : Int) + ((0 : Nat) : Int) = 5 from rfl, r5, if_pos rfl]
    unfold fst1
    rw [r5, fnA]; rfl
  all_goals exact rdZ (by decide) rfl
theorem bp_none {X : DK} {fr kk slot : Int} (b : BP X fr kk slot) (n0 : ¬ IsW X fr kk 0) (n1 : ¬ IsW X fr kk 1) : slot = -1 := by
  rcases b with ⟨e, _⟩ | ⟨_, w, _⟩ | ⟨_, w, _⟩
  · exact e
  · exact absurd w n0
  · exact absurd w n1
theorem bp_first {X : DK} {fr kk slot : Int} (b : BP X fr kk slot) (w0 : IsW X fr kk 0) (n1 : ¬ IsW X fr kk 1) : slot = 0 := by
  rcases b with ⟨_, n, _⟩ | ⟨e, _⟩ | ⟨_, w, _⟩
  · exact absurd w0 n
  · exact e
  · exact absurd w n1
theorem p1 : prtD (([97] : List Int).length : Int) = 1 := by show prtD 1 = 1; decide
theorem sv1 {r : Int × Int} {Y : DK} (h : LayR X0 5 2 [97] false r Y) : r = (1, 0) ∧ Y = Y1 := by
  have g4 : grD X0 5 (2 * 2 : Int).toNat = 0 := gr0
  rcases h with ⟨a, _⟩ | ⟨_, b, _⟩ | ⟨_, _, slot, t, bp, et, el⟩
  · rw [p1] at a; omega
  · rw [g4] at b; omega
  · have s := bp_none bp (not_whole (.inr (by rw [rdZ (by decide) rfl]))) (not_whole (.inr (by rw [rdZ (by decide) rfl])))
    rw [s, if_neg (by decide)] at et
    subst et
    rw [g4, show toN 2 [97] false = 1 from by unfold toN; rw [if_neg (by simp), p1]; rfl, lay1 rfl rfl (by decide) p1] at el
    exact ⟨congrArg (·.1) el, congrArg (·.2) el⟩
theorem w1 : IsW Y1 5 2 0 := (one_whole (gr := 0) (b := 97) (by omega) (by omega) r5).1
theorem sv2 {r : Int × Int} {Y : DK} (h : LayR Y1 5 2 [98] false r Y) : r = (2, 0) ∧ Y = Y2 := by
  have g4 : grD Y1 5 (2 * 2 : Int).toNat = 1 := gr1
  have p2 : prtD (([98] : List Int).length : Int) = 1 := p1
  rcases h with ⟨a, _⟩ | ⟨_, b, _⟩ | ⟨_, _, slot, t, bp, et, el⟩
  · rw [p2] at a; omega
  · rw [g4] at b; omega
  · have s := bp_first bp w1 (not_whole (.inr (by rw [rdZ (by decide) rfl])))
    rw [s, if_pos rfl] at et
    subst et
    rw [g4, show toN 2 [98] false = 1 from by unfold toN; rw [if_neg (by simp), p2]; rfl, lay1 rfl rfl (by decide) p2] at el
    exact ⟨congrArg (·.1) el, congrArg (·.2) el⟩
theorem wr3 : writeD Y2 7 [] = (0, Y3) := by
  rw [wr_ok rfl rfl (by decide) (by simp)]
  rfl
theorem bt4 : bootD Y3 [2] = Y4 := by
  unfold bootD keysD
  have : srtI (Y3.safe.map (·.1)) = [7] := by
    show srtI [7] = [7]
    unfold srtI
    simp
  rw [this]
  rfl
theorem r5' : readD Y4 5 = (sA, 0) := rdP (by decide) rfl (by rw [len_sec]; omega)
theorem r7' : (readD Y4 7).2 ≠ 0 := by
  have : readD Y4 7 = ([], 9) := by
    unfold readD
    rw [if_neg (by decide)]
    rfl
  rw [this]; decide
theorem end4 : IsW Y4 5 2 0 ∧ numW Y4 5 2 0 = 1 ∧ outW Y4 (5 + 0 * 2) = [97] := one_whole (gr := 0) (b := 97) (by omega) (by omega) r5'
theorem no4 : ¬ IsW Y4 5 2 1 := not_whole (.inl r7')
theorem bA : isB sA := pad_B (sec_B (fun b hb => by rw [List.mem_singleton] at hb; omega))
theorem bB : isB sB' := pad_B (sec_B (fun b hb => by rw [List.mem_singleton] at hb; omega))
theorem gX0 : GoodX X0 := ⟨fun a => zero_B, fun a => zero_B⟩
theorem sA_B : isB (secB ⟨sA, false⟩) := by rw [secB_pad (by rw [len_sec]; omega)]; exact bA
theorem sB_B : isB (secB ⟨sB', false⟩) := by rw [secB_pad (by rw [len_sec]; omega)]; exact bB
theorem gY1 : GoodX Y1 := ⟨good_put (m := []) (k := 5) (fun a => zero_B) sA_B, fun a => zero_B⟩
theorem gY2 : GoodX Y2 := ⟨good_put (m := [(5, ⟨sA, false⟩)]) (k := 7) gY1.1 sB_B, fun a => zero_B⟩
theorem gY4 : GoodX Y4 := ⟨good_put (m := [(5, ⟨sA, false⟩)]) (k := 7) (v := ⟨[], true⟩) gY1.1 zero_B, fun a => zero_B⟩
end Go.Q.Ye
