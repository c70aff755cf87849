/- A part of the proof of statements of this seat: lemmas, no statement of their own. -/
import Derived.Test.YtcmbgfmbmbgbiaaYbDkP
import Derived.Test.YtcmbgfmbmbgbiaaYbDkN
import Derived.Test.YtcmbgfmbmbgbiaaYbOpenD
set_option linter.unusedVariables false
set_option linter.unusedSimpArgs false
namespace Go.Q.Yb
/-! ### an act -/
abbrev Act := S_quaestorlaw09_Act
def pick7 (v : Int) : Int := if Int.tmod v 7 < 0 then Int.tmod v 7 + 7 else Int.tmod v 7
theorem Pick7_ok {v : Int} {k : Int → Heap → Prop} {h : Heap} (H : k (pick7 v) h) : ref01_Pick v 7 k h := by
  unfold ref01_Pick
  unfold pick7 at H
  rw [if_neg (by decide)]
  refine ⟨by omega, _, rfl, ?_⟩
  by_cases hx : Int.tmod v 7 < 0
  · rw [if_pos hx] at H
    rw [if_pos (by simpa using hx)]
    have h1 : -7 < Int.tmod v 7 := Int.lt_tmod_of_pos v (by omega)
    refine ⟨_, rfl, ?_⟩
    unfold ref01_Pick_j1
    rw [wrapI64 (by omega) (by omega)]
    exact H
  · rw [if_neg hx] at H
    rw [if_neg (by simpa using hx)]
    unfold ref01_Pick_j1
    exact H
def doD (X : DK) (a : Act) (bs : List Int) : Int × DK :=
  if pick7 a.f_Kind = 4 then syncD X else if pick7 a.f_Kind = 5 then fuseD X a.f_At else if pick7 a.f_Kind = 6 then (0, bootD X bs) else writeD X a.f_At bs
def fuseA (Y : AR) (n : Int) : Int × AR := if Y.dead = true then (10, Y) else (0, { Y with fuse := if 0 > n then 0 else n })
def doA (Y : AR) (a : Act) (bs : List Int) : Int × AR :=
  if pick7 a.f_Kind = 4 then syncA Y else if pick7 a.f_Kind = 5 then fuseA Y a.f_At else if pick7 a.f_Kind = 6 then (0, bootA Y bs) else writeA Y a.f_At bs
theorem Rel.act {X : DK} {Y : AR} (R : Rel X Y) (a : Act) (bs : List Int) (ha : a.f_At ≤ 9223372036854775807) : (doD X a bs).1 = (doA Y a bs).1 ∧ Rel (doD X a bs).2 (doA Y a bs).2 := by
  unfold doD doA
  by_cases h4 : pick7 a.f_Kind = 4
  · rw [if_pos h4, if_pos h4]; exact R.sync
  rw [if_neg h4, if_neg h4]
  by_cases h5 : pick7 a.f_Kind = 5
  · rw [if_pos h5, if_pos h5]
    obtain ⟨f1, f2⟩ := R.fuseN a.f_At ha
    unfold fuseA
    by_cases hd : Y.dead = true
    · rw [if_pos hd] at f1 f2 ⊢; exact ⟨f1, f2⟩
    · rw [if_neg hd] at f1 f2 ⊢; exact ⟨f1, f2⟩
  rw [if_neg h5, if_neg h5]
  by_cases h6 : pick7 a.f_Kind = 6
  · rw [if_pos h6, if_pos h6]; exact ⟨rfl, R.boot bs⟩
  rw [if_neg h6, if_neg h6]
  exact R.write a.f_At bs
section
variable {B C c e : Nat} {h h' : Heap} {d rn rs r : Nat} {s : Slc} {X : DK} {Y : RD}
theorem row_map {B E w g : Nat} {s : Slc} {xs : List Value} {dd : TypeDesc} {l : List (Value × Value)} (R : Row B h E w s xs) (M : MapH dd h g l) : s.blk ≠ some g := fun e => by
  rcases R.2.2 with ⟨k, _⟩ | ⟨g', cur, a1, a2, a3, _⟩
  · simp [Slc.blk, k] at e
  · simp [Slc.blk, a1] at e
    subst e
    exact blk_map a3 M rfl
theorem RAt.df (A : RAt C e h r s Y) (D : DAt B c h d rn rs X) (F : DF d rn rs h h') : RAt C e h' r s Y := by
  have k : ∀ g cs E, Blk h g cs E → E ≠ 197 → h'[g]? = h[g]? := fun g cs E b hE => F.block g b.lt (fun e => Blk.unlike b D.P hE e) (blk_map b D.N) (blk_map b D.S)
  refine ⟨A.P.old (k _ _ _ A.P (by decide)), A.R.keep fun g hg => F.block g (A.R.bd hg).2 (fun e => Row.unlike A.R D.P (by decide) (e ▸ hg)) (fun e => row_map A.R D.N (e ▸ hg)) (fun e => row_map A.R D.S (e ▸ hg)), fun q hq => ?_, A.l, A.bd, A.c⟩
  obtain ⟨y1, y2⟩ := A.Y q hq
  exact ⟨y1.old fun g b => k _ _ _ b (by decide), y2.old fun g b => k _ _ _ b (by decide)⟩
theorem DAt.rf (D : DAt B c h d rn rs X) (A : RAt C e h r s Y) (F : RF r s h h') : DAt B c h' d rn rs X :=
  D.keep (F.block _ D.P.lt (fun e => Blk.unlike D.P A.P (by decide) e) (Row.unlike A.R D.P (by decide))) (F.block _ D.N.lt (fun e => blk_map A.P D.N e.symm) (row_map A.R D.N)) (F.block _ D.S.lt (fun e => blk_map A.P D.S e.symm) (row_map A.R D.S))
theorem DAt.nd (D : DAt B c h d rn rs X) : (X.safe.map (·.1)).Nodup := by
  obtain ⟨es, ck, _, hs, _, hl⟩ := D.S
  have h1 := hs.2.2
  have e : es.toList.map (·.key) = (X.safe.map (·.1)).map (Value.int .i64) := by
    have := congrArg (List.map (·.1)) hl
    rw [List.map_map, List.map_map] at this
    rw [List.map_map]; exact this
  rw [e] at h1
  have h2 := List.nodup_iff_pairwise_ne.1 h1
  rw [List.pairwise_map] at h2
  exact List.nodup_iff_pairwise_ne.2 (h2.imp fun h e => h (congrArg _ e))
/-- an act is done to both -/
theorem Do_ok {a : Act} {bs : List Int} {k : Bool → Heap → Prop} (D : DAt B c h d rn rs X) (A : RAt B c h r s Y) (hB : B ≤ h.size) (hc : c ≤ 900000) (sl : a.f_B.len = bs.length) (hb : ∀ h', Ext B h h' → SlcAt h' a.f_B (b8 bs)) (bl : bs.length ≤ 1000)
    (H : ∀ s' Y' h', DAt B (c + 1) h' d rn rs (doD X a bs).2 → RAt B (c + 1) h' r s' Y' → absR Y' = (doA (absR Y) a bs).2 → Ext B h h' → k ((doD X a bs).1 == (doA (absR Y) a bs).1) h') : law09_do (some ⟨d, 0, none⟩) (some ⟨r, 0, none⟩) a k h := by
  unfold law09_do
  refine ⟨_, _, rfl, rfl, ?_⟩
  have P := Blk.push h (S_quaestorlaw09_Act.cs a) 100
  have W := Ext.push h (.cells (S_quaestorlaw09_Act.cs a).toArray 100) (Nat.le_refl _)
  have pl := P.lt
  generalize h.push (.cells (S_quaestorlaw09_Act.cs a).toArray 100) = h2 at *
  have z2 := W.size
  have D2 := D.ext W
  have A2 := A.ext W
  have E2 : Ext B h h2 := W.mono hB
  have hB2 : B ≤ h2.size := by omega
  have dl := D.P.lt
  have nl := D.N.lt
  have sl' := D.S.lt
  -- the act's box behind what is done to the disk
  have box : ∀ {h'}, DF d rn rs h2 h' → Blk h' h.size (S_quaestorlaw09_Act.cs a) 100 := fun F => P.old (F.block _ pl (by omega) (by omega) (by omega))
  refine ⟨a.f_Kind, by rw [P.cell]; rfl, Pick7_ok ?_⟩
  unfold doD doA at H
  by_cases h4 : pick7 a.f_Kind = 4
  · rw [if_pos h4, if_pos h4] at H
    rw [if_pos (by simpa using h4)]
    refine DSync_ok D2 fun h3 D3 F3 => ?_
    have A3 := A2.df D2 F3
    refine RSync_ok A3 (by omega) fun Y' h4 A4 e4 F4 => ?_
    have D4 := D3.rf A3 F4
    exact H s Y' h4 (D4.more (Nat.le_succ c)) (A4.more (Nat.le_succ c)) e4 (E2.trans ((F3.ext D2 hB2).trans (F4.ext A3 (Nat.le_trans hB2 F3.size))))
  rw [if_neg h4, if_neg h4] at H
  rw [if_neg (by simpa using h4)]
  by_cases h5 : pick7 a.f_Kind = 5
  · rw [if_pos h5, if_pos h5] at H
    rw [if_pos (by simpa using h5)]
    refine ⟨a.f_At, by rw [add0, P.cell]; rfl, DFuse_ok D2 fun h3 D3 F3 => ?_⟩
    have A3 := A2.df D2 F3
    have P3 := box F3
    have E3 := E2.trans (F3.ext D2 hB2)
    refine ⟨_, rfl, Y.dead, by rw [A3.cell]; rfl, ?_⟩
    unfold fuseA at H
    have ed : (absR Y).dead = Y.dead := rfl
    by_cases hd : Y.dead = true
    · rw [if_pos (ed.trans hd)] at H
      rw [if_pos hd]
      exact H s Y h3 (D3.more (Nat.le_succ c)) (A3.more (Nat.le_succ c)) rfl E3
    · rw [if_neg (fun e => hd (ed.symm.trans e))] at H
      rw [if_neg hd]
      refine ⟨a.f_At, by rw [add0, P3.cell]; rfl, _, by rw [add0]; exact A3.P.wr (show 1 < 4 by omega), rfl, ?_⟩
      rw [add0]
      have A4 : RAt B c (setH h3 ⟨r, 1, none⟩ (.int .i64 (if 0 > a.f_At then 0 else a.f_At))) r s { Y with fuse := if 0 > a.f_At then 0 else a.f_At } := A3.set rfl rfl
      have F4 : RF r s h3 (setH h3 ⟨r, 1, none⟩ (.int .i64 (if 0 > a.f_At then 0 else a.f_At))) := RF.set
      exact H s _ _ ((D3.rf A3 F4).more (Nat.le_succ c)) (A4.more (Nat.le_succ c)) rfl (E3.trans (F4.ext A3 (Nat.le_trans hB2 F3.size)))
  rw [if_neg h5, if_neg h5] at H
  rw [if_neg (by simpa using h5)]
  by_cases h6 : pick7 a.f_Kind = 6
  · rw [if_pos h6, if_pos h6] at H
    rw [if_pos (by simpa using h6)]
    have c2 : cellH h2 ((⟨h.size, 0, none⟩ : Addr).add 2) = some (Slc.v a.f_B) := by rw [add0, P.cell]; rfl
    refine ⟨a.f_B, c2, DBoot_ok (fs := bs) D2 (hb h2 E2) sl (fun h' F => hb h' (E2.trans (F.ext D2 hB2))) (by omega) fun h3 D3 F3 => ?_⟩
    have A3 := A2.df D2 F3
    have P3 := box F3
    have E3 := E2.trans (F3.ext D2 hB2)
    have hB3 := Nat.le_trans hB2 F3.size
    refine ⟨a.f_B, by rw [add0, P3.cell]; rfl, RBoot_ok (fs := bs) A3 hB3 (by omega) (hb h3 E3) sl (fun h' X' => hb h' (E3.trans X')) fun Y' h4 A4 e4 F4 => ?_⟩
    exact H s Y' h4 ((D3.rf A3 F4).more (Nat.le_succ c)) (A4.more (Nat.le_succ c)) e4 (E3.trans (F4.ext A3 hB3))
  rw [if_neg h6, if_neg h6] at H
  rw [if_neg (by simpa using h6)]
  refine ⟨_, _, rfl, rfl, ?_⟩
  have W3 := Ext.push h2 (.cells ([] : List Value).toArray 5) (Nat.le_refl _)
  have Q3 := Blk.push h2 [] 5
  have z3 : (h2.push (.cells ([] : List Value).toArray 5)).size = h2.size + 1 := by simp
  generalize h2.push (.cells ([] : List Value).toArray 5) = h3 at *
  have E3 : Ext B h h3 := E2.trans (W3.mono hB2)
  have R3 : Row h2.size h3 5 1 ⟨some ⟨h2.size, 0, none⟩, 0, 0⟩ [] := ⟨rfl, Nat.zero_le _, .inr ⟨h2.size, [], rfl, Nat.le_refl _, Q3, Nat.le_refl _, Nat.le_refl _, rfl⟩⟩
  have P3 := P.ext W3 pl
  refine ⟨a.f_B, by rw [add0, P3.cell]; rfl, b8 bs, hb h3 E3, ?_⟩
  refine App.row R3 (by omega) rfl (by rw [List.length_map, sl, Nat.mul_one]) (b8_one bs) (by simp only; omega) (by simp only [maxLen]; omega) fun t h4 R4 l4 z4 F4 _ => ?_
  simp only [List.nil_append] at R4
  simp only [Nat.zero_add] at l4
  have E4' : Ext h2.size h2 h4 := ⟨by omega, fun g hg => by rw [F4 g (by omega) (fun e => by simp [Slc.blk] at e; omega), W3.block g hg]⟩
  have E4 : Ext B h h4 := E2.trans (E4'.mono hB2)
  have P4 := P.ext E4' pl
  have D4 := D2.ext E4'
  have A4 := A2.ext E4'
  have tl : t.len = bs.length := by rw [l4, sl]
  have hB4 : B ≤ h4.size := by omega
  refine ⟨a.f_At, by rw [add0, P4.cell]; rfl, DWrite_ok (bs := bs) D4 R4.slc tl fun h5 D5 F5 => ?_⟩
  have E5 := E4.trans (F5.ext D4 hB4)
  have R5 : Row h2.size h5 5 1 t (b8 bs) := R4.keep fun g hg => F5.block g (R4.bd hg).2 (by have := (R4.bd hg).1; omega) (by have := (R4.bd hg).1; omega) (by have := (R4.bd hg).1; omega)
  have P5 : Blk h5 h.size (S_quaestorlaw09_Act.cs a) 100 := P4.old (F5.block _ P4.lt (by omega) (by omega) (by omega))
  have A5 := A4.df D4 F5
  refine ⟨fun i h' => 0 ≤ i ∧ i ≤ bs.length ∧ (∃ l, Row h2.size h' 5 1 t (b8 l) ∧ l.length = bs.length) ∧ Ext h2.size h5 h', fun i _ => (bs.length - i).toNat, ⟨by omega, by omega, ⟨bs, R5, rfl⟩, Ext.refl _ _⟩, ?_⟩
  rintro i h6 ⟨i0, i1, ⟨l, R6, ll⟩, X6⟩
  unfold law09_do_l1b
  by_cases hi : i < bs.length
  · rw [if_pos (by rw [decide_eq_true_eq]; omega)]
    have hv : l[i.toNat]? = some (l[i.toNat]'(by omega)) := by simp
    generalize l[i.toNat]'(by omega) = v at *
    obtain ⟨g, zs, et, hg, _, _, eb⟩ := R6.opened (by omega)
    have ta : t.a = some ⟨g, 0, none⟩ := by rw [et]
    obtain ⟨w1, w2, _⟩ := Go.Q.Rw.row_setc (v := .int .u8 (bwXor .u8 v 255)) R6 ta (j := i.toNat) (by omega)
    have hcell : cellH h6 ((⟨g, 0, none⟩ : Addr).add (i.toNat * 1)) = some (.int .u8 v) := by
      rw [Nat.mul_one]
      exact R6.slc.2 _ ta _ _ (by rw [List.getElem?_map, hv]; rfl)
    refine ⟨_, ta, i0, by omega, v, hcell, _, ta, i0, by omega, _, by rw [Nat.mul_one, add0]; exact w1, rfl, _, rfl, ?_⟩
    rw [Nat.mul_one, add0, wrapI64 (by omega) (by omega)]
    refine ⟨⟨by omega, by omega, ⟨l.set i.toNat (bwXor .u8 v 255), by rw [b8, List.map_set]; exact w2, by rw [List.length_set]; exact ll⟩, X6.trans (Ext.set _ _ (by exact hg))⟩, by dsimp only; omega⟩
  · rw [if_neg (by rw [decide_eq_true_eq]; omega)]
    have P6 : Blk h6 h.size (S_quaestorlaw09_Act.cs a) 100 := P5.old (X6.block _ (by omega))
    have D6 : DAt B (c + 1) h6 d rn rs (writeD X a.f_At bs).2 := D5.keep (X6.block _ (by omega)) (X6.block _ (by omega)) (X6.block _ (by omega))
    have F6 : DF d rn rs h2 h6 := ⟨by have := F5.size; have := X6.size; omega, fun g hg a1 a2 a3 => by rw [X6.block g hg, F5.block g (by omega) a1 a2 a3, E4'.block g hg]⟩
    have A6 := A2.df D2 F6
    have E6 : Ext B h h6 := E5.trans (X6.mono hB2)
    have hB6 : B ≤ h6.size := Nat.le_trans hB2 F6.size
    refine ⟨a.f_At, by rw [add0, P6.cell]; rfl, a.f_B, by rw [add0, P6.cell]; rfl, RWrite_ok (bs := bs) A6 hB6 hc (hb h6 E6) sl (fun h' X' => hb h' (E6.trans X')) fun s' Y' h7 A7 e7 F7 => ?_⟩
    exact H s' Y' h7 (D6.rf A6 F7) A7 e7 (E6.trans (F7.ext A6 hB6))
/-- what is told is the same -/
theorem Same9_ok {a : Int} {k : Bool → Heap → Prop} (D : DAt B c h d rn rs X) (A : RAt C e h r s Y) (R : Rel X (absR Y)) (hc : e ≤ 1000000) (H : ∀ h', Ext h.size h h' → k true h') : law09_same (some ⟨d, 0, none⟩) (some ⟨r, 0, none⟩) a k h := by
  unfold law09_same
  refine DRead_ok D fun t h2 S2 tl tc _ W2 => ?_
  have A2 := A.ext W2
  have rl : (readD X a).1.length ≤ 1000 := by
    unfold readD
    split
    · simp
    · split
      · simp
      · rw [nrm_len]; omega
  refine RSameAt_ok A2 hc S2 tl rl fun h3 W3 => ?_
  have W23 := W2.trans (W3.mono W2.size)
  have D3 := D.ext W23
  have A3 := A.ext W23
  rw [R.read a, if_pos (by simp)]
  refine ⟨_, rfl, Y.dead, by rw [A3.cell]; rfl, DDead_ok D3 ⟨by rw [A3.cell]; rfl, ?_⟩⟩
  have e1 : X.dead = Y.dead := R.dead
  have e2 : X.ops = Y.ops := R.ops
  rw [if_pos (by rw [e1]; simp)]
  refine ⟨Y.ops, by rw [A3.cell]; rfl, DOps_ok D3 ⟨by rw [A3.cell]; rfl, ?_⟩⟩
  unfold law09_same_j1
  rw [e2, show (Y.ops == Y.ops) = true from by simp]
  exact H h3 W23
end
/-! ### scripts -/
def actB (W : Heap) (a : Act) (bs : List Int) : Prop := a.f_B.len = bs.length ∧ SlcAt W a.f_B (b8 bs) ∧ a.f_At ≤ 9223372036854775807
def Script (W : Heap) (s : Slc) (l : List (Act × List Int)) : Prop := LsAt S_quaestorlaw09_Act.cs 3 W s (l.map (·.1)) ∧ (∀ p ∈ l, actB W p.1 p.2) ∧ s.len ≤ maxLen
theorem Great9_ok {W h : Heap} {s : Slc} {l : List (Act × List Int)} {k : Bool → Heap → Prop} (S : Script W s l) (X : Ext W.size W h) (H : ∀ b, (b = false → ∀ (i : Nat) (p : Act × List Int), i < 50 → l[i]? = some p → p.2.length ≤ 300) → k b h) : law09_great s k h := by
  obtain ⟨L, hl, hm⟩ := S
  have sl : s.len = l.length := by have := L.l; simpa using this
  unfold law09_great
  refine ⟨fun i h' => 0 ≤ i ∧ i ≤ l.length ∧ i ≤ 50 ∧ (∀ (j : Nat) (p : Act × List Int), j < i.toNat → l[j]? = some p → p.2.length ≤ 300) ∧ h' = h, fun i _ => (l.length - i).toNat, ⟨by omega, by omega, by omega, fun j p hj => by simp at hj, rfl⟩, ?_⟩
  rintro i h' ⟨i0, i1, i5, ha, e⟩
  subst e
  unfold law09_great_l1b
  by_cases hi : i < l.length ∧ i < 50
  · rw [if_pos (by rw [Bool.and_eq_true, decide_eq_true_eq, decide_eq_true_eq]; omega)]
    have hx : l[i.toNat]? = some (l[i.toNat]'(by omega)) := by simp
    generalize l[i.toNat]'(by omega) = p at *
    obtain ⟨a, ha1, C⟩ := (L.ext X).at' i.toNat p.1 (by rw [List.getElem?_map, hx]; rfl)
    refine ⟨a, ha1, i0, by omega, p.1.f_B, C 2 _ rfl, ?_⟩
    have hp := (hl p (List.mem_of_getElem? hx)).1
    by_cases hb : p.2.length > 300
    · rw [if_pos (by rw [decide_eq_true_eq]; omega)]
      exact H true fun e => by cases e
    · rw [if_neg (by rw [decide_eq_true_eq]; omega)]
      refine ⟨_, rfl, ?_⟩
      rw [wrapI64 (by omega) (by omega)]
      refine ⟨⟨by omega, by omega, by omega, fun j q hj hq => ?_, rfl⟩, by dsimp only; omega⟩
      rcases Nat.lt_or_ge j i.toNat with h1 | h1
      · exact ha j q h1 hq
      · have : j = i.toNat := by omega
        subst this
        rw [hx] at hq; cases hq; omega
  · rw [if_neg (by rw [Bool.and_eq_true, decide_eq_true_eq, decide_eq_true_eq]; omega)]
    refine H false fun _ j p hj hp => ?_
    have := (List.getElem?_eq_some_iff.1 hp).1
    exact ha j p (by omega) hp
theorem Script.of {W : Heap} {s : Slc} {ys : List Act} (L : LsAt S_quaestorlaw09_Act.cs 3 W s ys) (hm : s.len ≤ maxLen) (o : ∀ y ∈ ys, Ok_S_quaestorlaw09_Act W y) : ∃ l, Script W s l := by
  have : ∀ ys : List Act, (∀ y ∈ ys, Ok_S_quaestorlaw09_Act W y) → ∃ l : List (Act × List Int), l.map (·.1) = ys ∧ ∀ p ∈ l, actB W p.1 p.2 := fun ys => by
    induction ys with
    | nil => exact fun _ => ⟨[], rfl, fun p hp => by simp at hp⟩
    | cons y r ih =>
      intro o
      obtain ⟨l, h1, h2⟩ := ih fun z hz => o z (List.mem_cons_of_mem _ hz)
      obtain ⟨_, wa, _, _, bs, q1, q2, _⟩ := o y (by simp)
      refine ⟨(y, bs) :: l, by simp [h1], fun p hp => ?_⟩
      rcases List.mem_cons.1 hp with rfl | hp
      · refine ⟨q1, q2, ?_⟩
        simp [Lit.wf, IntKind.min, IntKind.max, IntKind.signed, IntKind.bits] at wa
        dsimp only; omega
      · exact h2 p hp
  obtain ⟨l, h1, h2⟩ := this ys o
  exact ⟨l, by rw [h1]; exact L, h2, hm⟩
end Go.Q.Yb
