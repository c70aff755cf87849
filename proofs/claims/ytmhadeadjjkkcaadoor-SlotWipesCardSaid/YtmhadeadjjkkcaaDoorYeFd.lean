/- A part of the proof of statements of this seat: lemmas, no statement of their own. -/
import Derived.Test.YtmhadeadjjkkcaaDoorYeFc
set_option linter.unusedVariables false
set_option linter.unusedSimpArgs false
/- Slot: the greatest number, the better slot, what is loaded. -/
namespace Go.Q.Ye
variable {B c : Nat} {h h' : Heap} {d rn rs pr : Nat} {X : DK}
def grD (X : DK) (fr : Int) : Nat → Int
  | 0 => 0
  | i + 1 => if (readD X (fr + i)).2 = 0 then (if (fst1 X (fr + i)).f_n > grD X fr i then (fst1 X (fr + i)).f_n else grD X fr i) else grD X fr i
theorem Greatest_ok {fr kk : Int} {k : Int → Heap → Prop} (D : DAt B c h d rn rs X) (P : PairAt h pr d fr kk) (g : GoodX X) (f0 : 0 ≤ fr ∧ fr ≤ 2000) (k0 : 1 ≤ kk ∧ kk ≤ 512) (H : ∀ h', Ext h.size h h' → k (grD X fr (2 * kk).toNat) h') :
    slot_Pair_greatest (some ⟨pr, 0, none⟩) k h := by
  unfold slot_Pair_greatest
  refine ⟨_, rfl, kk, by rw [add_mk, P.cell]; rfl, ?_⟩
  rw [wrapI64 (x := 2 * kk) (by omega) (by omega)]
  unfold slot_Pair_greatest_l1
  refine ⟨fun q h' => 0 ≤ q.2 ∧ q.2 ≤ 2 * kk ∧ q.1 = grD X fr q.2.toNat ∧ Ext h.size h h', fun q _ => (2 * kk - q.2).toNat, ⟨by omega, by dsimp only; omega, rfl, Ext.refl _ _⟩, ?_⟩
  rintro n i h1 ⟨i0, i1, en, X1⟩
  dsimp only at i0 i1 en
  unfold slot_Pair_greatest_l1b
  by_cases ci : i < 2 * kk
  · rw [if_pos (by rw [decide_eq_true_eq]; exact ci)]
    have D1 := D.ext X1
    have P1 : PairAt h1 pr d fr kk := Blk.ext P X1 P.lt
    refine ⟨_, rfl, some ⟨d, 0, none⟩, by rw [P1.cell]; rfl, fr, by rw [add_mk, P1.cell]; rfl, ?_⟩
    rw [wrapI64 (x := fr + i) (by omega) (by omega)]
    refine DRead_ok D1 fun t h2 St lt ct ft X2 => ?_
    have X02 := X1.trans (X2.mono X1.size)
    have nx : ∀ m h3, m = grD X fr (i.toNat + 1) → Ext h.size h h3 → slot_Pair_greatest_j2 (some ⟨pr, 0, none⟩) (2 * kk) i m k (fun s' h' => (0 ≤ s'.2 ∧ s'.2 ≤ 2 * kk ∧ s'.1 = grD X fr s'.2.toNat ∧ Ext h.size h h') ∧ (2 * kk - s'.2).toNat < (2 * kk - i).toNat) h3 := fun m h3 hm X3 => by
      unfold slot_Pair_greatest_j2
      rw [wrapI64 (by omega) (by omega)]
      exact ⟨⟨by dsimp only; omega, by dsimp only; omega, by dsimp only; rw [hm, show (i + 1).toNat = i.toNat + 1 from by omega], X3⟩, by dsimp only; omega⟩
    have eg : grD X fr (i.toNat + 1) = if (readD X (fr + i)).2 = 0 then (if (fst1 X (fr + i)).f_n > n then (fst1 X (fr + i)).f_n else n) else n := by
      rw [grD, ← en, show ((i.toNat : Nat) : Int) = i from by omega]
    by_cases er : (readD X (fr + i)).2 = 0
    · rw [if_pos (by simpa using er)]
      refine headOf_ok St lt (read_len er) (by dsimp only; omega) (read_B g _) fun h3 X3 => ⟨_, rfl, ?_⟩
      rw [if_pos er] at eg
      exact nx _ h3 eg.symm (X02.trans (X3.mono X02.size))
    · rw [if_neg (by simpa using er)]
      rw [if_neg er] at eg
      exact nx _ h2 eg.symm X02
  · rw [if_neg (by rw [decide_eq_true_eq]; exact ci)]
    rw [en, show i.toNat = (2 * kk).toNat from by omega]
    exact H h1 X1
/-- a slot is whole -/
def IsW (X : DK) (fr kk slot : Int) : Prop := (readD X (fr + slot * kk)).2 = 0 ∧ WholeC X (fr + slot * kk) kk
def numW (X : DK) (fr kk slot : Int) : Int := (fst1 X (fr + slot * kk)).f_n
/-- what is told of a whole slot -/
structure ToldW (h0 h : Heap) (X : DK) (fr kk slot : Int) (s : Slc) (n : Int) : Prop where
  w : IsW X fr kk slot
  n : n = numW X fr kk slot
  S : SlcAt h s (b8 (outW X (fr + slot * kk)))
  l : s.len = (outW X (fr + slot * kk)).length
  c : s.len ≤ s.cap
  f : ∀ a, s.a = some a → h0.size ≤ a.block
theorem ToldW.ext {h0 : Heap} {fr kk slot n : Int} {s : Slc} (t : ToldW h0 h X fr kk slot s n) (E : Ext h.size h h') : ToldW h0 h' X fr kk slot s n := { t with S := t.S.ext E }
/-- the better slot -/
def BestS (h0 h : Heap) (X : DK) (fr kk slot : Int) (s : Slc) (n : Int) : Prop :=
  (slot = -1 ∧ s = ⟨none, 0, 0⟩ ∧ n = 0 ∧ ¬ IsW X fr kk 0 ∧ ¬ IsW X fr kk 1) ∨ (slot = 0 ∧ ToldW h0 h X fr kk 0 s n ∧ (IsW X fr kk 1 → numW X fr kk 1 ≤ numW X fr kk 0)) ∨ (slot = 1 ∧ ToldW h0 h X fr kk 1 s n ∧ (IsW X fr kk 0 → numW X fr kk 1 > numW X fr kk 0))
theorem Whole2_ok {fr kk slot : Int} {k : Slc × Int × Bool → Heap → Prop} (D : DAt B c h d rn rs X) (P : PairAt h pr d fr kk) (r : R0 h) (g : GoodX X) (f0 : 0 ≤ fr ∧ fr ≤ 2000) (k0 : 1 ≤ kk ∧ kk ≤ 512) (s0 : 0 ≤ slot ∧ slot ≤ 1)
    (H0 : ¬ IsW X fr kk slot → ∀ h', Ext h.size h h' → k (⟨none, 0, 0⟩, 0, false) h') (H1 : ∀ s n h', ToldW h h' X fr kk slot s n → Ext h.size h h' → k (s, n, true) h') : slot_Pair_whole (some ⟨pr, 0, none⟩) slot k h :=
  Whole_ok D P r g f0 k0 s0 H0 fun wc er s h' S l c f E => H1 s _ h' ⟨⟨er, wc⟩, rfl, S, l, c, f⟩ E
theorem ToldW.mono {h0 h1 : Heap} {fr kk slot n : Int} {s : Slc} (t : ToldW h1 h X fr kk slot s n) (E : h0.size ≤ h1.size) : ToldW h0 h X fr kk slot s n := { t with f := fun a ha => Nat.le_trans E (t.f a ha) }
theorem Best_ok {fr kk : Int} {k : Int × Slc × Int → Heap → Prop} (D : DAt B c h d rn rs X) (P : PairAt h pr d fr kk) (r : R0 h) (g : GoodX X) (f0 : 0 ≤ fr ∧ fr ≤ 2000) (k0 : 1 ≤ kk ∧ kk ≤ 512)
    (H : ∀ slot s n h', BestS h h' X fr kk slot s n → Ext h.size h h' → k (slot, s, n) h') : slot_Pair_best (some ⟨pr, 0, none⟩) k h := by
  have r0 := r.pos
  unfold slot_Pair_best
  refine ⟨_, rfl, ?_⟩
  unfold slot_Pair_best_l1
  refine ⟨fun q h' => Ext h.size h h' ∧ ((q = (-1, ⟨none, 0, 0⟩, 0, 0)) ∨ (q.2.2.2 = 1 ∧ ((q = (-1, ⟨none, 0, 0⟩, 0, 1) ∧ ¬ IsW X fr kk 0) ∨ (q.1 = 0 ∧ ToldW h h' X fr kk 0 q.2.1 q.2.2.1))) ∨ (q.2.2.2 = 2 ∧ BestS h h' X fr kk q.1 q.2.1 q.2.2.1)), fun q _ => (2 - q.2.2.2).toNat, ⟨Ext.refl _ _, .inl rfl⟩, ?_⟩
  rintro sl s n i h1 ⟨X1, St⟩
  have D1 := D.ext X1
  have P1 : PairAt h1 pr d fr kk := Blk.ext P X1 P.lt
  have r1 := r.ext X1 r0
  have tr : ∀ {h'}, Ext h1.size h1 h' → Ext h.size h h' := fun E => X1.trans (E.mono X1.size)
  unfold slot_Pair_best_l1b
  rcases St with e | ⟨e1, St⟩ | ⟨e2, St⟩
  · cases e
    rw [if_pos (by decide)]
    refine Whole2_ok D1 P1 r1 g f0 k0 (by omega) (fun no h2 E => ?_) (fun s' n' h2 T E => ?_)
    · rw [if_neg (by simp)]
      unfold slot_Pair_best_j2
      exact ⟨⟨tr E, .inr (.inl ⟨rfl, .inl ⟨rfl, no⟩⟩)⟩, by dsimp only; decide⟩
    · rw [if_pos (by simp)]
      unfold slot_Pair_best_j2
      exact ⟨⟨tr E, .inr (.inl ⟨rfl, .inr ⟨rfl, T.mono X1.size⟩⟩)⟩, by dsimp only; decide⟩
  · dsimp only at e1
    subst e1
    rw [if_pos (by decide)]
    rcases St with ⟨e, no0⟩ | ⟨e, T0⟩
    · cases e
      refine Whole2_ok D1 P1 r1 g f0 k0 (by omega) (fun no h2 E => ?_) (fun s' n' h2 T E => ?_)
      · rw [if_neg (by simp)]
        unfold slot_Pair_best_j2
        exact ⟨⟨tr E, .inr (.inr ⟨rfl, .inl ⟨rfl, rfl, rfl, no0, no⟩⟩)⟩, by dsimp only; decide⟩
      · rw [if_pos (by simp)]
        unfold slot_Pair_best_j2
        exact ⟨⟨tr E, .inr (.inr ⟨rfl, .inr (.inr ⟨rfl, T.mono X1.size, fun w0 => absurd w0 no0⟩)⟩)⟩, by dsimp only; decide⟩
    · dsimp only at e T0
      subst e
      refine Whole2_ok D1 P1 r1 g f0 k0 (by omega) (fun no h2 E => ?_) (fun s' n' h2 T E => ?_)
      · rw [if_neg (by simp)]
        unfold slot_Pair_best_j2
        exact ⟨⟨tr E, .inr (.inr ⟨rfl, .inr (.inl ⟨rfl, T0.ext E, fun w1 => absurd w1 no⟩)⟩)⟩, by dsimp only; decide⟩
      · have en := T0.n
        have en' := T.n
        by_cases gt : n' > n
        · rw [if_pos (by simp [gt])]
          unfold slot_Pair_best_j2
          exact ⟨⟨tr E, .inr (.inr ⟨rfl, .inr (.inr ⟨rfl, T.mono X1.size, fun _ => by rw [← en, ← en']; exact gt⟩)⟩)⟩, by dsimp only; decide⟩
        · rw [if_neg (by simp [gt])]
          unfold slot_Pair_best_j2
          exact ⟨⟨tr E, .inr (.inr ⟨rfl, .inr (.inl ⟨rfl, T0.ext E, fun _ => by rw [← en, ← en']; omega⟩)⟩)⟩, by dsimp only; decide⟩
  · dsimp only at e2 St
    subst e2
    rw [if_neg (by decide)]
    exact H sl s n h1 St X1
theorem Load_ok {fr kk : Int} {k : Slc × Int × Int → Heap → Prop} (D : DAt B c h d rn rs X) (P : PairAt h pr d fr kk) (r : R0 h) (g : GoodX X) (f0 : 0 ≤ fr ∧ fr ≤ 2000) (k0 : 1 ≤ kk ∧ kk ≤ 512)
    (H : ∀ slot s n h', BestS h h' X fr kk slot s n → Ext h.size h h' → k (if slot < 0 then (⟨none, 0, 0⟩, 0, 6) else (s, n, 0)) h') : slot_Pair_Load (some ⟨pr, 0, none⟩) k h := by
  unfold slot_Pair_Load
  rw [if_neg (by simp)]
  refine Best_ok D P r g f0 k0 fun slot s n h' b E => ?_
  have := H slot s n h' b E
  by_cases c : slot < 0
  · rw [if_pos c] at this; rw [if_pos (by rw [decide_eq_true_eq]; exact c)]; exact this
  · rw [if_neg c] at this; rw [if_neg (by rw [decide_eq_true_eq]; exact c)]; exact this
end Go.Q.Ye
