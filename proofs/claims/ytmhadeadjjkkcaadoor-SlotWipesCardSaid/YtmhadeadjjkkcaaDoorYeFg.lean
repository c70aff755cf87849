/- A part of the proof of statements of this seat: lemmas, no statement of their own. -/
import Derived.Test.YtmhadeadjjkkcaaDoorYeFf
set_option linter.unusedVariables false
set_option linter.unusedSimpArgs false
set_option maxRecDepth 100000
/- Slot: what is saved. -/
namespace Go.Q.Ye
variable {B c : Nat} {h h' : Heap} {d rn rs pr : Nat} {X : DK}
theorem gr_nn (g : GoodX X) (fr : Int) : ∀ n, 0 ≤ grD X fr n
  | 0 => by rw [grD]; omega
  | n + 1 => by
    have ih := gr_nn g fr n
    have := (fld_bd (read_B g (fr + n)) 0 8).1
    rw [grD]
    split
    · split
      · exact this
      · exact ih
    · exact ih
def BP (X : DK) (fr kk slot : Int) : Prop :=
  (slot = -1 ∧ ¬ IsW X fr kk 0 ∧ ¬ IsW X fr kk 1) ∨ (slot = 0 ∧ IsW X fr kk 0 ∧ (IsW X fr kk 1 → numW X fr kk 1 ≤ numW X fr kk 0)) ∨ (slot = 1 ∧ IsW X fr kk 1 ∧ (IsW X fr kk 0 → numW X fr kk 1 > numW X fr kk 0))
theorem BestS.bp {h0 : Heap} {fr kk slot n : Int} {s : Slc} (b : BestS h0 h X fr kk slot s n) : BP X fr kk slot := by
  rcases b with ⟨a, _, _, b, c⟩ | ⟨a, t, b⟩ | ⟨a, t, b⟩
  · exact .inl ⟨a, b, c⟩
  · exact .inr (.inl ⟨a, t.w, b⟩)
  · exact .inr (.inr ⟨a, t.w, b⟩)
def sumD (bs : List Int) : Int := numL ((shaD bs).take 8)
theorem sum_bd (bs : List Int) : 0 ≤ sumD bs ∧ sumD bs < 18446744073709551616 := by
  have b := numL_bd (l := (shaD bs).take 8) (isB_take (shaD_B bs) 8)
  have l : ((shaD bs).take 8).length = 8 := by rw [List.length_take, shaD_len]; rfl
  rw [l, show (256 : Int) ^ 8 = 18446744073709551616 from by decide] at b
  exact b
def headD (gr : Int) (bs : List Int) : S_slot_head := ⟨gr + 1, 0, prtD bs.length, bs.length, sumD bs⟩
def toN (kk : Int) (bs : List Int) (wiped : Bool) : Nat := if wiped = true then kk.toNat else (prtD bs.length).toNat
def LayR (X : DK) (fr kk : Int) (bs : List Int) (wiped : Bool) (r : Int × Int) (Y : DK) : Prop :=
  (prtD bs.length > kk ∧ r = (0, 3) ∧ Y = X) ∨ (prtD bs.length ≤ kk ∧ grD X fr (2 * kk).toNat ≥ 4611686018427387904 ∧ r = (0, 12) ∧ Y = X) ∨
  (prtD bs.length ≤ kk ∧ grD X fr (2 * kk).toNat < 4611686018427387904 ∧ ∃ slot t, BP X fr kk slot ∧ t = (if slot = 0 then 1 else 0) ∧ (r, Y) = layD (fr + t * kk) (headD (grD X fr (2 * kk).toNat) bs) bs X (toN kk bs wiped))
theorem LayJ1_ok {fr kk t : Int} {s : Slc} {bs : List Int} {wiped : Bool} {k : Int × Int → Heap → Prop} (D : DAt B c h d rn rs X) (P : PairAt h pr d fr kk) (r : R0 h) (g : GoodX X) (f0 : 0 ≤ fr ∧ fr ≤ 2000) (k0 : 1 ≤ kk ∧ kk ≤ 512) (t0 : 0 ≤ t ∧ t ≤ 1)
    (hs : ∀ h', DF d rn rs h h' → SlcAt h' s (b8 bs)) (sl : s.len = bs.length) (sc : s.len ≤ s.cap) (bl : bs.length ≤ 60000) (pk : prtD bs.length ≤ kk) (gl : grD X fr (2 * kk).toNat < 4611686018427387904)
    (H : ∀ c' h', c' ≤ c + 600 → DAt B c' h' d rn rs (layD (fr + t * kk) (headD (grD X fr (2 * kk).toNat) bs) bs X (toN kk bs wiped)).2 → DF d rn rs h h' → k (layD (fr + t * kk) (headD (grD X fr (2 * kk).toNat) bs) bs X (toN kk bs wiped)).1 h') :
    slot_Pair_lay_j1 (some ⟨pr, 0, none⟩) s wiped (prtD bs.length) t k h := by
  have r0 := r.pos
  have p1 : 1 ≤ prtD bs.length := by unfold prtD; split <;> omega
  unfold slot_Pair_lay_j1
  refine Greatest_ok D P g f0 k0 fun h1 X1 => ?_
  have z1 := X1.size
  have gn := gr_nn g fr (2 * kk).toNat
  generalize grD X fr (2 * kk).toNat = gr at *
  refine ⟨_, _, rfl, rfl, ?_⟩
  have V := Blk.push h1 [Slc.v s] 23
  have W2 := Ext.push h1 (.cells ([Slc.v s] : List Value).toArray 23) (Nat.le_refl _)
  generalize h1.push (.cells ([Slc.v s] : List Value).toArray 23) = h2 at *
  have X2 : Ext h.size h h2 := X1.trans (W2.mono z1)
  refine Of_ok (bs := bs) (r.ext X2 r0) (V.slc (o := 0) (n := 1) rfl) rfl (hs h2 (DF.of_ext X2)) sl bl fun h3 X3 => ?_
  have X03 := X2.trans (X3.mono X2.size)
  refine Short_ok (shaD_len _) (shaD_B _) fun h4 X4 => ?_
  have X04 := X03.trans (X4.mono X03.size)
  refine ⟨_, _, rfl, rfl, ?_⟩
  have U := Blk.push h4 (S_slot_head.cs zHd) 73
  have W5 := Ext.push h4 (.cells (S_slot_head.cs zHd).toArray 73) (Nat.le_refl _)
  generalize h4.push (.cells (S_slot_head.cs zHd).toArray 73) = h5 at *
  refine ⟨_, WrsAt.of_blk U (by show 5 ≤ 5; omega), rfl, ?_⟩
  rw [wrapU64 (x := gr + 1) (by omega) (by omega), sl]
  have eh : (⟨gr + 1, 0, prtD bs.length, ((bs.length : Nat) : Int), numL ((shaD bs).take 8)⟩ : S_slot_head) = headD gr bs := rfl
  rw [eh]
  have U6 := U.sets_all (vs := S_slot_head.cs (headD gr bs)) rfl
  have X6 : Ext h4.size h4 (setsH h5 ⟨h4.size, 0, none⟩ 0 (S_slot_head.cs (headD gr bs))) := W5.trans (Ext.sets _ _ _ (Nat.le_refl _))
  generalize setsH h5 ⟨h4.size, 0, none⟩ 0 (S_slot_head.cs (headD gr bs)) = h6 at *
  have X06 := X04.trans (X6.mono X04.size)
  have P6 : PairAt h6 pr d fr kk := Blk.ext P X06 P.lt
  have D6 := D.ext X06
  refine ⟨_, rfl, kk, by rw [add_mk, P6.cell]; rfl, ?_⟩
  have sb := sum_bd bs
  exact LayL3_ok (hb := h4) (f := headD gr bs) (N := toN kk bs wiped) (c := c) (fun h' F' => hs h' ((DF.of_ext X04).trans F')) sl sc bl ⟨by show 0 ≤ gr + 1; omega, ⟨Int.le_refl _, by show (0 : Int) < 65536; decide⟩, ⟨by show 0 ≤ prtD bs.length; omega, by show prtD bs.length < 65536; omega⟩, ⟨by show (0 : Int) ≤ ((bs.length : Nat) : Int); omega, by show ((bs.length : Nat) : Int) < 4294967296; omega⟩, sb.1⟩ rfl pk f0 k0 t0 rfl (DF.of_ext X6) U6 D6 P6
    fun c' h' hc D' F' => H c' h' hc D' ((DF.of_ext X04).trans F')
theorem Lay_ok {fr kk : Int} {s : Slc} {bs : List Int} {wiped : Bool} {k : Int × Int → Heap → Prop} (D : DAt B c h d rn rs X) (P : PairAt h pr d fr kk) (r : R0 h) (g : GoodX X) (f0 : 0 ≤ fr ∧ fr ≤ 2000) (k0 : 1 ≤ kk ∧ kk ≤ 512)
    (hs : ∀ h', DF d rn rs h h' → SlcAt h' s (b8 bs)) (sl : s.len = bs.length) (sc : s.len ≤ s.cap) (bl : bs.length ≤ 60000)
    (H : ∀ rr Y c' h', LayR X fr kk bs wiped rr Y → c' ≤ c + 600 → DAt B c' h' d rn rs Y → DF d rn rs h h' → k rr h') : slot_Pair_lay (some ⟨pr, 0, none⟩) s wiped k h := by
  have r0 := r.pos
  unfold slot_Pair_lay
  rw [sl]
  refine Parts_ok (by omega) (by omega) ⟨_, rfl, kk, by rw [add_mk, P.cell]; rfl, ?_⟩
  by_cases q1 : prtD bs.length > kk
  · rw [if_pos (by rw [decide_eq_true_eq]; exact q1)]
    exact H _ X c h (.inl ⟨q1, rfl, rfl⟩) (by omega) D (DF.of_ext (Ext.refl _ _))
  rw [if_neg (by rw [decide_eq_true_eq]; exact q1)]
  refine Greatest_ok D P g f0 k0 fun h1 X1 => ?_
  by_cases q2 : grD X fr (2 * kk).toNat ≥ 4611686018427387904
  · rw [if_pos (by rw [decide_eq_true_eq]; exact q2)]
    exact H _ X c h1 (.inr (.inl ⟨by omega, q2, rfl, rfl⟩)) (by omega) (D.ext X1) (DF.of_ext X1)
  rw [if_neg (by rw [decide_eq_true_eq]; exact q2)]
  refine Best_ok (D.ext X1) (Blk.ext P X1 P.lt) (r.ext X1 r0) g f0 k0 fun slot s2 n2 h2 b X2 => ?_
  have X02 := X1.trans (X2.mono X1.size)
  have fin : ∀ t : Int, t = (if slot = 0 then 1 else 0) → slot_Pair_lay_j1 (some ⟨pr, 0, none⟩) s wiped (prtD bs.length) t k h2 := fun t ht => by
    refine LayJ1_ok (D.ext X02) (Blk.ext P X02 P.lt) (r.ext X02 r0) g f0 k0 (by rw [ht]; split <;> omega) (fun h' F' => hs h' ((DF.of_ext X02).trans F')) sl sc bl (by omega) (by omega) fun c' h' hc D' F' => ?_
    exact H _ _ c' h' (.inr (.inr ⟨by omega, by omega, slot, t, b.bp, ht, rfl⟩)) hc D' ((DF.of_ext X02).trans F')
  by_cases q3 : slot = 0
  · rw [if_pos (by simpa using q3)]
    exact fin 1 (by rw [if_pos q3])
  · rw [if_neg (by simpa using q3)]
    exact fin 0 (by rw [if_neg q3])
theorem Save_ok {fr kk : Int} {s : Slc} {bs : List Int} {k : Int × Int → Heap → Prop} (D : DAt B c h d rn rs X) (P : PairAt h pr d fr kk) (r : R0 h) (g : GoodX X) (f0 : 0 ≤ fr ∧ fr ≤ 2000) (k0 : 1 ≤ kk ∧ kk ≤ 512)
    (hs : ∀ h', DF d rn rs h h' → SlcAt h' s (b8 bs)) (sl : s.len = bs.length) (sc : s.len ≤ s.cap) (bl : bs.length ≤ 60000)
    (H : ∀ rr Y c' h', LayR X fr kk bs false rr Y → c' ≤ c + 600 → DAt B c' h' d rn rs Y → DF d rn rs h h' → k rr h') : slot_Pair_Save (some ⟨pr, 0, none⟩) s k h := by
  unfold slot_Pair_Save
  rw [if_neg (by simp)]
  exact Lay_ok D P r g f0 k0 hs sl sc bl H
theorem SaveNil_ok {s : Slc} {k : Int × Int → Heap → Prop} (H : k (0, 10) h) : slot_Pair_Save none s k h := by
  unfold slot_Pair_Save; rw [if_pos (by simp)]; exact H
theorem WipeNil_ok {s : Slc} {k : Int × Int → Heap → Prop} (H : k (0, 10) h) : slot_Pair_Wipe none s k h := by
  unfold slot_Pair_Wipe; rw [if_pos (by simp)]; exact H
theorem LoadNil_ok {k : Slc × Int × Int → Heap → Prop} (H : k (⟨none, 0, 0⟩, 0, 6) h) : slot_Pair_Load none k h := by
  unfold slot_Pair_Load; rw [if_pos (by simp)]; exact H
def roomD (fr kk : Int) : Bool := decide (1 ≤ kk ∧ kk ≤ 512 ∧ 0 ≤ fr ∧ fr ≤ 1024 - 2 * kk)
theorem OpenNil_ok {fr kk : Int} {k : Option Addr × Int → Heap → Prop} (H : k (none, 1) h) : slot_Open none fr kk k h := by
  unfold slot_Open; rw [if_pos (by simp)]; exact H
theorem Open_ok {fr kk : Int} {k : Option Addr × Int → Heap → Prop} (f1 : -9223372036854775808 ≤ fr ∧ fr < 9223372036854775808) (k1 : -9223372036854775808 ≤ kk ∧ kk < 9223372036854775808)
    (H0 : roomD fr kk = false → k (none, 1) h) (H1 : roomD fr kk = true → ∀ pr h', PairAt h' pr d fr kk → Ext h.size h h' → h.size ≤ pr → k (some ⟨pr, 0, none⟩, 0) h') : slot_Open (some ⟨d, 0, none⟩) fr kk k h := by
  unfold slot_Open
  by_cases q : 1 ≤ kk ∧ kk ≤ 512 ∧ 0 ≤ fr ∧ fr ≤ 1024 - 2 * kk
  · rw [wrapI64 (x := 2 * kk) (by omega) (by omega), wrapI64 (x := 1024 - 2 * kk) (by omega) (by omega)]
    rw [if_neg (by simp only [Bool.or_eq_true, decide_eq_true_eq, Option.isNone_some]; simp; omega)]
    exact ⟨_, _, rfl, rfl, H1 (by unfold roomD; rw [decide_eq_true_eq]; exact q) _ _ (Blk.push _ _ _) (Ext.push _ _ (Nat.le_refl _)) (Nat.le_refl _)⟩
  · rw [if_pos ?_]
    · exact H0 (by unfold roomD; rw [decide_eq_false_iff_not]; exact q)
    · simp only [Bool.or_eq_true, decide_eq_true_eq]
      by_cases a : kk < 1
      · exact .inl (.inl (.inl (.inr a)))
      by_cases b : kk > 1024
      · exact .inl (.inl (.inr b))
      by_cases c' : fr < 0
      · exact .inl (.inr c')
      rw [wrapI64 (x := 2 * kk) (by omega) (by omega), wrapI64 (x := 1024 - 2 * kk) (by omega) (by omega)]
      exact .inr (by omega)
end Go.Q.Ye
