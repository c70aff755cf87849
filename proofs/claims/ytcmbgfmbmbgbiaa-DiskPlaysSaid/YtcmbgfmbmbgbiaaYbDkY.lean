/- A part of the proof of statements of this seat: lemmas, no statement of their own. -/
import Derived.Test.YtcmbgfmbmbgbiaaYbDkX
set_option linter.unusedVariables false
set_option linter.unusedSimpArgs false
namespace Go.Q.Yb
open Go.Q.Rw (fm_set fm_len ls_of_slc row_setc row_setS fm_take)
theorem SlcAt.extB {B : Nat} {h h' : Heap} {s : Slc} {vs : List Value} (hs : SlcAt h s vs) (X : Ext B h h') (hb : ∀ a, s.a = some a → a.block < B) : SlcAt h' s vs :=
  ⟨hs.1, fun a ha j w hj => by rw [X.cell (by rw [add_block]; exact hb a ha)]; exact hs.2 a ha j w hj⟩
theorem DSame_ok {p0 p1 : Slc} {l m : List Int} {k : Bool → Heap → Prop} {h : Heap} (h0 : SlcAt h p0 (b8 l)) (l0 : p0.len = l.length) (h1 : SlcAt h p1 (b8 m)) (l1 : p1.len = m.length) (hb : l.length ≤ 4611686018427387904) (H : k (decide (l = m)) h) : ref01_Same p0 p1 k h := by
  unfold ref01_Same
  by_cases hlm : l.length = m.length
  · rw [if_neg (by simp [l0, l1, hlm])]
    refine ⟨fun i h' => 0 ≤ i ∧ i ≤ l.length ∧ l.take i.toNat = m.take i.toNat ∧ h' = h, fun i _ => (l.length - i).toNat, ⟨by omega, by omega, by simp, rfl⟩, ?_⟩
    rintro i h' ⟨i0, i1, he, rfl⟩
    unfold ref01_Same_l1b
    by_cases hi : i < l.length
    · rw [if_pos (by simp [l0]; omega)]
      have n0 : p0.a ≠ none := fun hn => by have := h0.1 hn; simp at this; simp [this] at hi; omega
      have n1 : p1.a ≠ none := fun hn => by have := h1.1 hn; simp at this; simp [this] at hlm; simp [hlm] at hi; omega
      obtain ⟨a, ha⟩ := Option.ne_none_iff_exists'.1 n0
      obtain ⟨b, hb'⟩ := Option.ne_none_iff_exists'.1 n1
      have hla : i.toNat < l.length := by omega
      have hma : i.toNat < m.length := by omega
      refine ⟨a, ha, i0, by omega, l[i.toNat], ?_, b, hb', i0, by omega, m[i.toNat], ?_, ?_⟩
      · rw [Nat.mul_one]; exact h0.2 a ha i.toNat _ (by simp [hla])
      · rw [Nat.mul_one]; exact h1.2 b hb' i.toNat _ (by simp [hma])
      · by_cases hv : l[i.toNat] = m[i.toNat]
        · rw [if_neg (by simp [hv]), wrapI64 (by omega) (by omega)]
          refine ⟨_, rfl, ⟨by omega, by omega, ?_, rfl⟩, by dsimp only; omega⟩
          rw [show (i + 1).toNat = i.toNat + 1 from by omega, List.take_succ_eq_append_getElem hla, List.take_succ_eq_append_getElem hma, he, hv]
        · rw [if_pos (by simpa using hv)]
          have : decide (l = m) = false := by
            rw [decide_eq_false_iff_not]
            rintro rfl
            exact hv rfl
          rw [← this]; exact H
    · rw [if_neg (by simp [l0]; omega)]
      have : l = m := by
        have e1 : l.take i.toNat = l := List.take_of_length_le (by omega)
        have e2 : m.take i.toNat = m := List.take_of_length_le (by omega)
        rw [e1, e2] at he; exact he
      simpa [this] using H
  · rw [if_pos (by simp [l0, l1]; omega)]
    have : decide (l = m) = false := by rw [decide_eq_false_iff_not]; rintro rfl; exact hlm rfl
    rw [← this]; exact H
/-! ### a list, its first places turned -/
def uptoI {α : Type} (F : Nat → α → α) (L : List α) (i : Nat) : List α := (L.take i).mapIdx F ++ L.drop i
section
variable {α : Type} {F : Nat → α → α} {L : List α} {i : Nat} {x : α}
theorem map_const {β : Type} {f : α → β} : ∀ L : List α, L.mapIdx (fun _ => f) = L.map f
  | [] => rfl
  | x :: r => by rw [List.mapIdx_cons, List.map_cons, map_const r]
theorem uptoI_zero : uptoI F L 0 = L := by unfold uptoI; simp
theorem uptoI_all (h : L.length ≤ i) : uptoI F L i = L.mapIdx F := by unfold uptoI; rw [List.take_of_length_le h, List.drop_of_length_le h, List.append_nil]
theorem uptoI_len : (uptoI F L i).length = L.length := by unfold uptoI; rw [List.length_append, List.length_mapIdx, List.length_take, List.length_drop]; omega
theorem uptoI_at (hx : L[i]? = some x) : (uptoI F L i)[i]? = some x := by
  have hi := (List.getElem?_eq_some_iff.1 hx).1
  unfold uptoI
  rw [List.getElem?_append_right (by rw [List.length_mapIdx, List.length_take]; omega), List.length_mapIdx, List.length_take, Nat.min_eq_left (by omega), Nat.sub_self, List.getElem?_drop]
  simpa using hx
theorem uptoI_set (hx : L[i]? = some x) : (uptoI F L i).set i (F i x) = uptoI F L (i + 1) := by
  have hi := (List.getElem?_eq_some_iff.1 hx).1
  have hl : ((L.take i).mapIdx F).length = i := by rw [List.length_mapIdx, List.length_take]; omega
  have hd : L.drop i = x :: L.drop (i + 1) := by
    rw [List.drop_eq_getElem_cons hi]
    congr 1
    have := (List.getElem?_eq_some_iff.1 hx).2; exact this
  unfold uptoI
  rw [List.set_append_right _ _ (by omega), hl, Nat.sub_self, hd, List.set_cons_zero, List.take_add_one, hx, Option.toList_some, List.mapIdx_append]
  simp only [List.mapIdx_cons, List.mapIdx_nil, List.length_take, List.append_assoc, List.cons_append, List.nil_append, Nat.min_eq_left (Nat.le_of_lt hi), Nat.zero_add]
end
/-! ### what is done, plainly -/
def closeA (x : AP) : AP := { x with opn := false }
def syncA (X : AR) : Int × AR :=
  if X.dead = true then (10, X) else if (burnA X).1 = true then (10, (burnA X).2) else (0, { (burnA X).2 with L := (burnA X).2.L.map closeA })
def readA (X : AR) (a : Int) : List Int × Int := if a < 0 ∨ a ≥ 1024 then ([], 1) else match lookA X.L a with
  | none => (zB, 0)
  | some x => if x.torn = true then ([], 9) else (x.now, 0)
def boot1 (f : Int) (x : AP) : AP := { x with opn := false, now := if f = 0 then x.was else x.now, torn := if f = 0 then x.old else if f = 2 then true else x.torn }
def cntA (L : List AP) (i : Nat) : Nat := ((L.take i).filter fun x => x.opn).length
def stepA (fs : List Int) (L : List AP) (i : Nat) (x : AP) : AP := if x.opn = true then boot1 (fateD fs (cntA L i)) x else x
def bootA (X : AR) (fs : List Int) : AR := ⟨X.L.mapIdx (stepA fs X.L), 0, false, X.ops⟩
/-! ### the walks -/
section
variable {B c : Nat} {h0 h : Heap} {r : Nat} {s : Slc} {X : RD}
def closeP (q : PL) : PL := ({ q.1 with f_Open := false }, q.2)
theorem RSync_ok {k : Int → Heap → Prop} (A : RAt B c h r s X) (hc : c ≤ 1000000) (H : ∀ X' h', RAt B c h' r s X' → absR X' = (syncA (absR X)).2 → RF r s h h' → k (syncA (absR X)).1 h') : ref09_Disk_Sync (some ⟨r, 0, none⟩) k h := by
  unfold ref09_Disk_Sync
  refine ⟨_, rfl, X.dead, by rw [A.cell]; rfl, ?_⟩
  unfold syncA at H
  by_cases hd : X.dead = true
  · rw [if_pos (show (absR X).dead = true from hd)] at H
    rw [if_pos hd]
    exact H X h A rfl (RF.of_ext (Ext.refl _ _))
  rw [if_neg (show ¬ (absR X).dead = true from hd)] at H
  rw [if_neg hd]
  refine RBurn_ok A fun X1 h1 A1 e1 F1 => ?_
  cases hb : (burnA (absR X)).1 with
  | true =>
    rw [hb, if_pos rfl] at H
    rw [if_pos rfl]
    exact H X1 h1 A1 e1 F1
  | false =>
    rw [hb, if_neg (by simp)] at H
    rw [if_neg (by simp)]
    have hl := A1.l
    have hcl := A1.c
    have A1' : RAt B c h1 r s { X1 with L := uptoI (fun _ => closeP) X1.L 0 } := by rw [uptoI_zero]; exact A1
    refine ⟨fun i h' => 0 ≤ i ∧ i ≤ X1.L.length ∧ RAt B c h' r s { X1 with L := uptoI (fun _ => closeP) X1.L i.toNat } ∧ RF r s h1 h', fun i _ => (X1.L.length - i).toNat, ⟨by omega, by omega, A1', RF.of_ext (Ext.refl _ _)⟩, ?_⟩
    rintro i h2 ⟨i0, i1, A2, F2⟩
    unfold ref09_Disk_Sync_l1b
    refine ⟨_, rfl, s, A2.cell0, ?_⟩
    by_cases hi : i < X1.L.length
    · rw [if_pos (by rw [decide_eq_true_eq]; omega)]
      have hx : X1.L[i.toNat]? = some (X1.L[i.toNat]'(by omega)) := by simp
      generalize X1.L[i.toNat]'(by omega) = q at *
      have hx2 : ({ X1 with L := uptoI (fun _ => closeP) X1.L i.toNat } : RD).L[i.toNat]? = some q := uptoI_at hx
      obtain ⟨a, ha, w, A3, F3⟩ := A2.setf (j := 5) (q' := closeP q) (v := .bool false) hx2 (by omega) rfl (A2.Y q (List.mem_of_getElem? hx2))
      refine ⟨s, A2.cell0, a, ha, i0, by omega, _, w, rfl, _, rfl, ?_⟩
      rw [wrapI64 (by omega) (by omega)]
      refine ⟨⟨by omega, by omega, ?_, F2.trans F3⟩, by dsimp only; omega⟩
      rw [show (i + 1).toNat = i.toNat + 1 from by omega, ← uptoI_set hx]
      exact A3
    · rw [if_neg (by rw [decide_eq_true_eq]; omega)]
      rw [uptoI_all (by omega)] at A2
      refine H _ h2 A2 ?_ (F1.trans F2)
      rw [← e1]
      unfold absR
      simp only [map_const, List.map_map]
      rfl
theorem RRead_ok {a : Int} {k : Slc × Int → Heap → Prop} (A : RAt B c h r s X) (hc : c ≤ 1000000) (H : ∀ t h', SlcAt h' t (b8 (readA (absR X) a).1) → t.len = (readA (absR X) a).1.length → Ext h.size h h' → k (t, (readA (absR X) a).2) h') : ref09_Disk_Read (some ⟨r, 0, none⟩) a k h := by
  have nil : ∀ h' : Heap, SlcAt h' ⟨none, 0, 0⟩ (b8 []) := fun h' => ⟨fun _ => rfl, fun a ha => by cases ha⟩
  unfold ref09_Disk_Read
  unfold readA at H
  by_cases ha : a < 0 ∨ a ≥ 1024
  · rw [if_pos ha] at H
    rw [if_pos (by simpa using ha)]
    exact H _ h (nil h) rfl (Ext.refl _ _)
  rw [if_neg ha] at H
  rw [if_neg (by simpa using ha)]
  have hl := A.l
  refine RFind_ok A hc (fun i q hq he hp => ?_) fun hn => ?_
  · rw [if_neg (by rw [decide_eq_true_eq]; omega)]
    have hi := (List.getElem?_eq_some_iff.1 hq).1
    have lk : lookA (absR X).L a = some (absP q) := lookA_at (i := i) (by show (X.L.map absP)[i]? = _; rw [List.getElem?_map, hq]; rfl) he fun j x' hj hx' => by
      have hx2 : (X.L.map absP)[j]? = some x' := hx'
      rw [List.getElem?_map] at hx2
      obtain ⟨q', h1, rfl⟩ := Option.map_eq_some_iff.1 hx2
      exact hp j q' hj h1
    rw [lk] at H
    obtain ⟨ad, had, C⟩ := A.place hq
    refine ⟨_, rfl, s, A.cell0, ad, had, by omega, by omega, q.1.f_Torn, C 3 _ rfl, ?_⟩
    have et : (absP q).torn = q.1.f_Torn := rfl
    dsimp only at H
    rw [et] at H
    cases ht : q.1.f_Torn with
    | true =>
      rw [ht, if_pos rfl] at H
      rw [if_pos rfl]
      exact H _ h (nil h) rfl (Ext.refl _ _)
    | false =>
      rw [ht, if_neg (by simp)] at H
      rw [if_neg (by simp)]
      refine ⟨s, A.cell0, ad, had, by omega, by omega, q.1.f_Now, C 1 _ rfl, ?_⟩
      obtain ⟨g, e, b, n⟩ := (A.Y q (List.mem_of_getElem? hq)).1
      refine H _ h ?_ (by rw [e]; exact n.symm) (Ext.refl _ _)
      rw [e]
      exact b.slc (n := 128) (o := 0) (by rw [List.drop_zero, List.take_of_length_le (by rw [List.length_map]; omega)]; rfl)
  · rw [if_pos (by decide)]
    have lk : lookA (absR X).L a = none := lookA_none fun x hx => by
      obtain ⟨q, hq, rfl⟩ := List.mem_map.1 (show x ∈ X.L.map absP from hx)
      exact hn q hq
    rw [lk] at H
    refine RZero_ok fun g h2 e2 eg => ?_
    have Z : Blk h2 g (b8 zB) 5 := by rw [e2, eg]; exact Blk.push _ _ _
    have W : Ext h.size h h2 := by rw [e2]; exact Ext.push _ _ (Nat.le_refl _)
    exact H _ h2 (Z.slc (n := 128) (o := 0) (by rw [List.drop_zero, List.take_of_length_le (by simp [zB])])) (by simp [zB]) W
theorem RSameAt_ok {p : Slc} {l : List Int} {e a : Int} {k : Bool → Heap → Prop} (A : RAt B c h r s X) (hc : c ≤ 1000000) (hp : SlcAt h p (b8 l)) (pl : p.len = l.length) (lb : l.length ≤ 1000) (H : ∀ h', Ext h.size h h' → k (decide (l = (readA (absR X) a).1) && (e == (readA (absR X) a).2)) h') : ref09_SameAt p e (some ⟨r, 0, none⟩) a k h := by
  unfold ref09_SameAt
  refine RRead_ok A hc fun t h' ht tl X' => ?_
  exact DSame_ok (hp.ext X') pl ht tl (by omega) (H h' X')
theorem RCopy_ok {k : Option Addr → Heap → Prop} (A : RAt B c h r s X) (hc : c ≤ 1000000) (H : ∀ r' s' X' h', RAt h.size c h' r' s' X' → absR X' = absR X → Ext h.size h h' → k (some ⟨r', 0, none⟩) h') : ref09_Disk_Copy (some ⟨r, 0, none⟩) k h := by
  have hl := A.l
  have hcl := A.c
  unfold ref09_Disk_Copy
  refine ⟨_, rfl, s, A.cell0, X.fuse, by rw [A.cell]; rfl, X.dead, by rw [A.cell]; rfl, X.ops, by rw [A.cell]; rfl, _, _, rfl, rfl, ?_⟩
  have W := Ext.push h (.cells ([] : List Value).toArray 115) (Nat.le_refl _)
  have Q := Blk.push h [] 115
  have z1 : (h.push (.cells ([] : List Value).toArray 115)).size = h.size + 1 := by simp
  generalize h.push (.cells ([] : List Value).toArray 115) = h1 at *
  have A1 := A.ext W
  have R1 : Row h.size h1 115 6 ⟨some ⟨h.size, 0, none⟩, 0, 0⟩ [] := ⟨rfl, Nat.zero_le _, .inr ⟨h.size, [], rfl, Nat.le_refl _, Q, Nat.le_refl _, Nat.le_refl _, rfl⟩⟩
  refine ⟨by rw [A1.cell]; rfl, by rw [A1.cell]; rfl, by rw [A1.cell]; rfl, A1.cell0, X.L.flatMap plcs, A1.R.slc, ?_⟩
  refine App.row R1 (by omega) rfl (by rw [hl]; exact fm_len plcs_len _) (fun v hv => by
    obtain ⟨q, _, hq⟩ := List.mem_flatMap.1 hv
    exact oneC (l := plcs q) (by kernel_rfl) v hq) (by simp only; omega) (by simp only [maxLen]; omega) fun t h2 R2 l2 z2 F2 _ => ?_
  have W2 : Ext h.size h h2 := ⟨by omega, fun g hg => by rw [F2 g (by omega) (fun e => by simp [Slc.blk] at e; omega), W.block g hg]⟩
  have A2 := A.ext W2
  refine ⟨by rw [A2.cell]; rfl, by rw [A2.cell]; rfl, by rw [A2.cell]; rfl, _, _, rfl, rfl, ?_⟩
  have W3 := Ext.push h2 (.cells (S_quaestorref09_Disk.cs ⟨t, X.fuse, X.dead, X.ops⟩).toArray 105) (Nat.le_refl _)
  have R2' : Row h.size h2 115 6 t (X.L.flatMap plcs) := by simpa using R2
  have A3 := A2.ext W3
  refine H h2.size t X _ ⟨Blk.push _ _ _, R2'.ext W3 fun g hg => (R2'.bd hg).2, A3.Y, by rw [l2]; simp only; omega, by omega, A.c⟩ rfl (W2.trans (W3.mono (by omega)))
end
end Go.Q.Yb
