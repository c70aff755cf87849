/- A part of the proof of statements of this seat: lemmas, no statement of their own. -/
import Derived.Test.YtoapfefofjfifaaGreatYcYM
set_option linter.unusedVariables false
set_option linter.unusedSimpArgs false
/- Quorum: the document's example. -/
namespace Go.Q.Yc
theorem MapU.ne_blk {h : Heap} {m b E : Nat} {l : List (Int × Option Addr)} {cs : List Value} (M : MapU h (some m) l) (B : Blk h b cs E) : b ≠ m := by
  rintro rfl
  obtain ⟨es, ck, h1, _⟩ := M
  obtain ⟨_, _, h2, _⟩ := B
  rw [h1] at h2; cases h2
theorem MapU.ne_row {h : Heap} {m B w E : Nat} {l : List (Int × Option Addr)} {s : Slc} {xs : List Value} (M : MapU h (some m) l) (R : Row B h E w s xs) : s.blk ≠ some m := by
  intro e
  rcases R.2.2 with ⟨a, _⟩ | ⟨g, cur, a, _, B, _⟩
  · simp [Slc.blk, a] at e
  · have : g = m := by simpa [Slc.blk, a] using e
    exact M.ne_blk B this
theorem DeskAt.yes {h h' : Heap} {r m g : Nat} {L : List (Int × Nat)} {x : S_api_Op} {ns ys : List Int} {y : Slc} (D : DeskAt h r m L) (O : OpAt h g x ns ys) (Y : YesK h h' g x.f_Yes y) : DeskAt h' r m L :=
  D.old (Y.keep r D.P.lt (fun e => by subst e; have := (D.P.inj O.B).2; omega) (O.Y.ne_blk D.P (by omega))) (Y.keep m D.M.lt (fun e => D.M.ne_blk O.B e.symm) (D.M.ne_row O.Y))
theorem YesK.ext {h h' : Heap} {B g : Nat} {y y' : Slc} (Y : YesK h h' g y y') (hB : B ≤ h.size) (hg : B ≤ g) (hy : ∀ b, y.blk = some b → B ≤ b) : Ext B h h' ∧ ∀ b, y'.blk = some b → B ≤ b :=
  ⟨⟨Y.size, fun i hi => Y.keep i (by omega) (by omega) (fun e => by have := hy i e; omega)⟩, fun b hb => (Y.own b hb).elim (fun e => hy b e) (fun e => by omega)⟩
abbrev op5 (b : Nat) : S_api_Op := ⟨5, 1, ByteArray.empty, nilS, ⟨ByteArray.empty, 0, 0, 0, 0⟩, ⟨0, ByteArray.empty, 0, ([] : List Int), nilS, 0⟩, 0, ⟨some ⟨b, 0, none⟩, 3, 3⟩, nilS, 0, false, 0, nilS⟩
/-- what a told op is, in new memory -/
def Told (B : Nat) (x : S_api_Op) (ns ys : List Int) (r : S_api_Op × Int) (h : Heap) : Prop := ∃ n y, r = (copyOf x n y, 0) ∧ Row B h 3 1 n (ints ns) ∧ Row B h 3 1 y (ints ys)
theorem Told_st {h0 : Heap} {x : S_api_Op} {ns ys : List Int} : ∀ r h' h'', Told (h0.size + 1) x ns ys r h' → h'.size ≤ h''.size → (∀ i, h0.size < i → i < h'.size → h''[i]? = h'[i]?) → Told (h0.size + 1) x ns ys r h'' := by
  rintro r h' h'' ⟨n, y, e, Rn, Ry⟩ _ o
  exact ⟨n, y, e, Rn.keep fun b hb => o b (by have := (Rn.bd hb).1; omega) (Rn.bd hb).2, Ry.keep fun b hb => o b (by have := (Ry.bd hb).1; omega) (Ry.bd hb).2⟩
/-- the end of an op -/
theorem Res_ok {n : Int} {k : S_api_Op × Int → Heap → Prop} {h : Heap} {r m : Nat} {L : List (Int × Nat)} {g : Nat} {x : S_api_Op} {ns ys : List Int} (D : DeskAt h r m L) (hg : mget L n = some g) (O : OpAt h g x ns ys)
    (H0 : x.f_Done = false → ∀ h', Ext h.size h h' → k (zOp, 14) h')
    (H1 : x.f_Done = true → ∀ n' y' h', Row h.size h' 3 1 n' (ints ns) → Row h.size h' 3 1 y' (ints ys) → Ext h.size h h' → k (copyOf x n' y', 0) h') : quorum_Desk_Result (some ⟨r, 0, none⟩) n k h := by
  refine Result_ok (Q := Told (h.size + 1) x ns ys) Told_st (fun h2 K X2 l2 HK => ?_) (fun q h' hq X => ?_)
  · refine Op_ok (D.ext X2) hg (O.ext X2) fun n' y' h' Rn Ry X' => HK _ h' X' ⟨n', y', rfl, Rn.mono (by omega), Ry.mono (by omega)⟩
  · obtain ⟨n', y', rfl, Rn, Ry⟩ := hq
    cases hd : x.f_Done with
    | false => rw [if_pos ⟨rfl, rfl⟩]; exact H0 hd h' X
    | true => rw [if_neg (fun c => by have := c.2; cases this)]; exact H1 hd n' y' h' (Rn.mono (by omega)) (Ry.mono (by omega)) X
theorem awake_ok {k : Bool → Heap → Prop} {h : Heap} (H : ∀ h', Ext h.size h h' → k true h') : law31_awake k h := by
  obtain ⟨B, eB⟩ : ∃ y, y = h.size := ⟨_, rfl⟩
  rw [← eB] at H
  unfold law31_awake
  refine New_ok fun r m h2 D2 rB mB X2 => ?_
  rw [← eB] at rB mB X2
  have z2 : B ≤ h2.size := by have := X2.size; omega
  refine ⟨_, _, rfl, rfl, ?_⟩
  have P := Blk.push h2 [.int .i64 2, .int .i64 0, .int .i64 4] 3
  have W4 := Ext.push h2 (.cells ([.int .i64 2, .int .i64 0, .int .i64 4] : List Value).toArray 3) (Nat.le_refl _)
  generalize h2.push (.cells ([.int .i64 2, .int .i64 0, .int .i64 4] : List Value).toArray 3) = h4 at *
  have z4 := W4.size
  have D4 := D2.ext W4
  have X4 : Ext B h h4 := X2.trans (W4.mono z2)
  refine Start_ok (v := op5 h2.size) (ns := [2, 0, 4]) D4 ⟨P.slc (o := 0) (n := 3) rfl, rfl, Nat.le_refl _⟩ rfl ⟨rfl, rfl, rfl⟩ (by simp) (by show needs 1 3 ≠ 0; decide) (by simp) (by decide) rfl fun g n h6 D6 O6 gB nB U6 => ?_
  have X6 : Ext B h h6 := X4.trans (U6.ext mB (by omega))
  have z6 := U6.size
  have g5 : mget ([] ++ [((op5 h2.size).f_N, g)]) 5 = some g := rfl
  refine YesW_ok D6 g5 O6 rfl (by simp) (fun c => absurd ⟨rfl, by decide, by simp⟩ c) fun _ _ _ y1 h8 O8 Y8 => ?_
  rw [show decide (needs 1 ([2, 0, 4] : List Int).length ≤ ([] : List Int).length + 1) = false from by decide] at O8
  obtain ⟨X68, yB8⟩ := Y8.ext (B := B) (by omega) (by omega) (fun b hb => by cases hb)
  have D8 := D6.yes O6 Y8
  have z8 := Y8.size
  have X8 : Ext B h h8 := X6.trans X68
  refine Res_ok D8 g5 O8 (fun _ h10 X10 => ?_) (fun hd => by cases hd)
  have z10 := X10.size
  have D10 := D8.ext X10
  have O10 := O8.ext X10
  refine ⟨_, _, rfl, rfl, ?_⟩
  have V := Blk.push h10 (S_api_Op.cs zOp) 40
  have W12 := Ext.push h10 (.cells (S_api_Op.cs zOp).toArray 40) (Nat.le_refl _)
  generalize h10.push (.cells (S_api_Op.cs zOp).toArray 40) = h12 at *
  have z12 := W12.size
  refine ⟨_, WrsAt.of_blk V (by show 33 ≤ 33; omega), rfl, ?_⟩
  have X13 : Ext h10.size h10 (setsH h12 ⟨h10.size, 0, none⟩ 0 (S_api_Op.cs zOp)) := W12.trans (Ext.sets _ _ _ (Nat.le_refl _))
  generalize setsH h12 ⟨h10.size, 0, none⟩ 0 (S_api_Op.cs zOp) = h13 at *
  have z13 := X13.size
  have D13 := D10.ext X13
  have O13 := O10.ext X13
  have X0 : Ext B h h13 := (X8.trans (X10.mono (by omega))).trans (X13.mono (by omega))
  refine YesW_ok D13 g5 O13 rfl (by simp) (fun c => absurd ⟨rfl, by decide, by decide⟩ c) fun _ _ _ y2 h15 O15 Y15 => ?_
  rw [show decide (needs 1 ([2, 0, 4] : List Int).length ≤ (([] ++ [0] : List Int)).length + 1) = true from by decide] at O15
  obtain ⟨X1315, yB15⟩ := Y15.ext (B := B) (by omega) (by omega) yB8
  have D15 := D13.yes O13 Y15
  have z15 := Y15.size
  refine Res_ok D15 g5 O15 (fun hd => by cases hd) fun _ n' y' h17 _ _ X17 => ?_
  have z17 := X17.size
  refine ⟨_, _, rfl, rfl, ?_⟩
  have V2 := Blk.push h17 (S_api_Op.cs zOp) 40
  have W19 := Ext.push h17 (.cells (S_api_Op.cs zOp).toArray 40) (Nat.le_refl _)
  generalize h17.push (.cells (S_api_Op.cs zOp).toArray 40) = h19 at *
  refine ⟨_, WrsAt.of_blk V2 (by show 33 ≤ 33; omega), rfl, ?_⟩
  have V3 := V2.sets_all (vs := S_api_Op.cs (copyOf { begun (op5 h2.size) n with f_Yes := y2, f_Done := true } n' y')) rfl
  have X20 : Ext h17.size h17 (setsH h19 ⟨h17.size, 0, none⟩ 0 (S_api_Op.cs (copyOf { begun (op5 h2.size) n with f_Yes := y2, f_Done := true } n' y'))) := W19.trans (Ext.sets _ _ _ (Nat.le_refl _))
  generalize setsH h19 ⟨h17.size, 0, none⟩ 0 (S_api_Op.cs (copyOf { begun (op5 h2.size) n with f_Yes := y2, f_Done := true } n' y')) = h20 at *
  rw [if_pos (by simp)]
  refine ⟨true, by rw [add_mk, V3.cell]; rfl, ?_⟩
  unfold law31_awake_g1
  rw [if_pos rfl]
  refine ⟨0, by rw [add_mk, V3.cell]; rfl, ?_⟩
  unfold law31_awake_g2
  exact H h20 (((X0.trans X1315).trans (X17.mono (by omega))).trans (X20.mono (by omega)))
end Go.Q.Yc
