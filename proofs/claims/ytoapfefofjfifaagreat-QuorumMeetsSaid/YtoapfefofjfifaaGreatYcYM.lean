/- A part of the proof of statements of this seat: lemmas, no statement of their own. -/
import Derived.Test.YtoapfefofjfifaaGreatYcD
import Derived.Test.YtoapfefofjfifaaGreatYcM
import Derived.Test.YtoapfefofjfifaaGreatYcMA
set_option linter.unusedVariables false
set_option linter.unusedSimpArgs false
/- Quorum: a node says yes to a write. -/
namespace Go.Q.Yc
theorem YesNil_ok {n node : Int} {s : Slc} {k : Bool → Heap → Prop} {h : Heap} (H : k false h) : quorum_Desk_Yes none n node s k h := by
  unfold quorum_Desk_Yes
  refine openNil_ok ?_
  rw [if_pos (by simp)]
  unfold quorum_Desk_Yes_g1
  rw [if_pos (by simp)]; exact H
/-- what a yes leaves of the memory -/
structure YesK (h h' : Heap) (g : Nat) (y y' : Slc) : Prop where
  size : h.size ≤ h'.size
  keep : ∀ i, i < h.size → i ≠ g → y.blk ≠ some i → h'[i]? = h[i]?
  own : ∀ b, y'.blk = some b → y.blk = some b ∨ h.size ≤ b
theorem YesK.trans {a b c : Heap} {g : Nat} {x y z : Slc} (p : YesK a b g x y) (q : YesK b c g y z) : YesK a c g x z :=
  ⟨Nat.le_trans p.size q.size, fun i hi hg hx => by
    rw [q.keep i (Nat.lt_of_lt_of_le hi p.size) hg (fun e => (p.own i e).elim hx (fun h => by omega))]
    exact p.keep i hi hg hx, fun i hi => (q.own i hi).elim (fun e => p.own i e) (fun e => .inr (Nat.le_trans p.size e))⟩
theorem YesK.of_ext {h h' : Heap} {g : Nat} {y : Slc} (X : Ext h.size h h') : YesK h h' g y y := ⟨X.size, fun i hi _ _ => X.block i hi, fun b hb => .inl hb⟩
theorem App_yes {h : Heap} {g : Nat} {x : S_api_Op} {ns ys : List Int} {node : Int} {K : Slc → Heap → Prop} (O : OpAt h g x ns ys)
    (H : ∀ y h', Row 0 h' 3 1 y (ints (ys ++ [node])) → OpAt h' g x ns ys → YesK h h' g x.f_Yes y → (∀ b, y.blk = some b → x.f_Nodes.blk ≠ some b) → K y h') :
    App 3 1 8 [.int .i64 0] h x.f_Yes 1 [.int .i64 node] K := by
  have ln : x.f_Yes.len = ys.length := by have := O.Y.len; simpa using this
  have yl := O.y
  refine App.row2 O.Y (Nat.zero_le _) rfl (by simp) (fun v hv => by rw [List.mem_singleton] at hv; rw [hv]; rfl) (by omega) (by simp only [maxLen]; omega) fun y h' R rl sz kp bl oth => ?_
  have nb : x.f_Yes.blk ≠ some g := O.Y.ne_blk O.B (by omega)
  have kn : ∀ b, x.f_Nodes.blk = some b → h'[b]? = h[b]? := fun b hb => kp b (O.N.bd hb).2 (fun e => O.dis b e hb)
  refine H y h' (by simpa [ints] using R) ⟨O.B.old (kp g O.B.lt nb), O.N.keep kn, oth 0 _ _ O.Y (.inl (Nat.le_refl _)), O.dis, O.bare, O.n, O.y⟩ ⟨sz, fun i hi hg hy => kp i hi hy, fun b hb => ?_⟩ fun b hb hn => ?_
  · rcases bl with ⟨e, _⟩ | e
    · exact .inl (by rw [← e]; exact hb)
    · rw [e] at hb; exact .inr (by have := Option.some.inj hb; omega)
  · rcases bl with ⟨e, _⟩ | e
    · exact O.dis b (by rw [← e]; exact hb) hn
    · rw [e] at hb
      have h1 := Option.some.inj hb
      have := (O.N.bd hn).2
      omega
theorem OpAt.setB {h : Heap} {g i : Nat} {v : Value} {x x' : S_api_Op} {ns ys : List Int} (O : OpAt h g x ns ys) (e : (S_api_Op.cs x).set i v = S_api_Op.cs x') (eN : x'.f_Nodes = x.f_Nodes) (eY : x'.f_Yes = x.f_Yes) (b : Bare x') :
    OpAt (setH h ⟨g, i, none⟩ v) g x' ns ys ∧ YesK h (setH h ⟨g, i, none⟩ v) g x.f_Yes x'.f_Yes := by
  have o : ∀ j, j ≠ g → (setH h ⟨g, i, none⟩ v)[j]? = h[j]? := fun j hj => setH_other hj
  have nb : x.f_Yes.blk ≠ some g := O.Y.ne_blk O.B (by omega)
  have nn : x.f_Nodes.blk ≠ some g := O.N.ne_blk O.B (by omega)
  refine ⟨⟨?_, ?_, ?_, by rw [eN, eY]; exact O.dis, b, O.n, O.y⟩, ⟨by rw [setH_size]; exact Nat.le_refl _, fun j _ hj _ => o j hj, fun b hb => .inl (by rw [← eY]; exact hb)⟩⟩
  · rw [← e]; exact O.B.set
  · rw [eN]; exact O.N.keep fun b hb => o b (fun e => nn (by rw [← e]; exact hb))
  · rw [eY]; exact O.Y.keep fun b hb => o b (fun e => nb (by rw [← e]; exact hb))
/-- the new row of those that said yes is laid into the op -/
theorem OpAt.setY {h : Heap} {g : Nat} {y : Slc} {x : S_api_Op} {ns ys ys' : List Int} (O : OpAt h g x ns ys) (R : Row 0 h 3 1 y (ints ys')) (d : ∀ b, y.blk = some b → x.f_Nodes.blk ≠ some b) (hl : ys'.length ≤ 1000) :
    OpAt (setH h ⟨g, 28, none⟩ (Slc.v y)) g { x with f_Yes := y } ns ys' ∧ (setH h ⟨g, 28, none⟩ (Slc.v y)).size = h.size ∧ ∀ j, j ≠ g → (setH h ⟨g, 28, none⟩ (Slc.v y))[j]? = h[j]? := by
  have o : ∀ j, j ≠ g → (setH h ⟨g, 28, none⟩ (Slc.v y))[j]? = h[j]? := fun j hj => setH_other hj
  have nb : y.blk ≠ some g := R.ne_blk O.B (by omega)
  have nn : x.f_Nodes.blk ≠ some g := O.N.ne_blk O.B (by omega)
  refine ⟨⟨O.B.set, O.N.keep fun b hb => o b (fun e => nn (by rw [← e]; exact hb)), R.keep fun b hb => o b (fun e => nb (by rw [← e]; exact hb)), d, ⟨O.bare.p, O.bare.r, O.bare.w⟩, O.n, hl⟩, setH_size, o⟩
theorem YesJ_ok {h : Heap} {g : Nat} {x : S_api_Op} {ns ys : List Int} {k : Bool → Heap → Prop} (O : OpAt h g x ns ys) (k1 : x.f_Kind = 1)
    (H : ∀ h', OpAt h' g { x with f_Done := x.f_Done || decide (needs 1 ns.length ≤ ys.length) } ns ys → YesK h h' g x.f_Yes x.f_Yes → k true h') : quorum_Desk_Yes_j2 (some ⟨g, 0, none⟩) k h := by
  have ln : x.f_Yes.len = ys.length := by have := O.Y.len; simpa using this
  have nn : x.f_Nodes.len = ns.length := by have := O.N.len; simpa using this
  have n1 := O.n
  unfold quorum_Desk_Yes_j2
  refine ⟨⟨g, 0, none⟩, rfl, x.f_Yes, by rw [add_mk, O.B.cell]; rfl, x, CellsAt.of_blk O.B, Needs_ok (by rw [nn]; simp only [maxLen]; omega) fun h1 X1 => ?_⟩
  have O1 := O.ext X1
  have Y1 : YesK h h1 g x.f_Yes x.f_Yes := YesK.of_ext X1
  rw [k1, nn]
  refine ⟨by rw [add_mk, O1.B.cell]; rfl, ?_⟩
  rw [ln]
  by_cases c : needs 1 ns.length ≤ ys.length
  · rw [if_neg (by rw [decide_eq_true_eq]; omega)]
    refine ⟨_, by rw [add_mk]; exact O1.B.wr (by show _ < 33; omega), rfl, ?_⟩
    rw [add_mk]
    obtain ⟨O2, Y2⟩ := O1.setB (i := 0 + 30) (v := .bool true) (x' := { x with f_Done := true }) rfl rfl rfl ⟨O.bare.p, O.bare.r, O.bare.w⟩
    generalize setH h1 ⟨g, 0 + 30, none⟩ (.bool true) = h2 at *
    refine ⟨x.f_Kind, by rw [add_mk, O2.B.cell]; rfl, ?_⟩
    rw [if_neg (by rw [k1]; decide)]
    unfold quorum_Desk_Yes_j3
    rw [decide_eq_true c, Bool.or_true] at H
    exact H h2 O2 (Y1.trans Y2)
  · rw [if_pos (by rw [decide_eq_true_eq]; omega)]
    rw [decide_eq_false c, Bool.or_false] at H
    exact H h1 O1 Y1
theorem YesW_ok {n node : Int} {s : Slc} {k : Bool → Heap → Prop} {h : Heap} {r m : Nat} {L : List (Int × Nat)} {g : Nat} {x : S_api_Op} {ns ys : List Int} (D : DeskAt h r m L) (hg : mget L n = some g) (O : OpAt h g x ns ys) (k1 : x.f_Kind = 1) (y1 : ys.length < 1000)
    (H0 : ¬ (x.f_Done = false ∧ node ∈ ns ∧ node ∉ ys) → k false h)
    (H1 : x.f_Done = false → node ∈ ns → node ∉ ys → ∀ y h', OpAt h' g { x with f_Yes := y, f_Done := decide (needs 1 ns.length ≤ ys.length + 1) } ns (ys ++ [node]) → YesK h h' g x.f_Yes y → k true h') :
    quorum_Desk_Yes (some ⟨r, 0, none⟩) n node s k h := by
  have fo : ∀ (o : Option Addr), quorum_Desk_Yes_g1 node s o true k h = k false h := fun o => by unfold quorum_Desk_Yes_g1; rw [if_pos rfl]
  unfold quorum_Desk_Yes
  refine open_ok D hg O ?_
  by_cases c : x.f_Done = false ∧ node ∈ ns
  · rw [decide_eq_true c, if_neg (by simp)]
    refine ⟨⟨g, 0, none⟩, rfl, x.f_Yes, by rw [add_mk, O.B.cell]; rfl, Has_ok (Ints.row O.Y) (by omega) ?_⟩
    by_cases e : node ∈ ys
    · rw [decide_eq_true e]
      show quorum_Desk_Yes_g1 node s (some ⟨g, 0, none⟩) true k h
      rw [fo]; exact H0 fun q => q.2.2 e
    rw [decide_eq_false e]
    unfold quorum_Desk_Yes_g1
    rw [if_neg (by simp)]
    refine ⟨⟨g, 0, none⟩, rfl, x.f_Yes, by rw [add_mk, O.B.cell]; rfl, _, _, rfl, rfl, ?_⟩
    have X1 := Ext.push h (.cells ([.int .i64 node] : List Value).toArray 3) (Nat.le_refl _)
    generalize h.push (.cells ([.int .i64 node] : List Value).toArray 3) = h1 at *
    have O1 := O.ext X1
    have Y1 : YesK h h1 g x.f_Yes x.f_Yes := YesK.of_ext X1
    refine App_yes O1 fun y h2 R2 O2 Y2 d2 => ?_
    refine ⟨_, by rw [add_mk]; exact O2.B.wr (by show _ < 33; omega), rfl, ?_⟩
    rw [add_mk, Nat.zero_add]
    obtain ⟨O3, s3, o3⟩ := O2.setY R2 d2 (by rw [List.length_append]; simp only [List.length_singleton]; omega)
    generalize setH h2 ⟨g, 28, none⟩ (Slc.v y) = h3 at *
    have Y3 : YesK h2 h3 g y y := ⟨by omega, fun i _ hi _ => o3 i hi, fun b hb => .inl hb⟩
    refine ⟨x.f_Kind, by rw [add_mk, O3.B.cell]; rfl, ?_⟩
    rw [if_neg (by rw [k1]; decide)]
    refine YesJ_ok O3 k1 fun h4 O4 Y4 => ?_
    rw [show (ys ++ [node]).length = ys.length + 1 from by simp] at O4
    have dn : ({ x with f_Yes := y } : S_api_Op).f_Done = false := c.1
    simp only [c.1, Bool.false_or] at O4
    exact H1 c.1 c.2 e y h4 O4 (((Y1.trans Y2).trans Y3).trans Y4)
  · rw [decide_eq_false c, if_pos (by simp)]
    show quorum_Desk_Yes_g1 node s (some ⟨g, 0, none⟩) true k h
    rw [fo]; exact H0 fun q => c ⟨q.1, q.2.1⟩
end Go.Q.Yc
