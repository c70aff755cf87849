/- A part of the proof of statements of this seat: lemmas, no statement of their own. -/
import Derived.Test.YtcmbgfmbmbgbiaaYbDkL
set_option linter.unusedVariables false
set_option linter.unusedSimpArgs false
namespace Go.Q.Yb
section
variable {B C c e : Nat} {h h' : Heap} {d rn rs r : Nat} {s : Slc} {X : DK} {Y : RD}
theorem RAt.mono (A : RAt B c h r s Y) {B' : Nat} (hB : B' ≤ B) : RAt B' c h r s Y := ⟨A.P, A.R.mono hB, A.Y, A.l, Nat.le_trans hB A.bd, A.c⟩
theorem RNew_at (hB : B ≤ h.size) : RAt B 0 (h.push (.cells (S_quaestorref09_Disk.cs ⟨⟨none, 0, 0⟩, 0, false, 0⟩).toArray 105)) h.size ⟨none, 0, 0⟩ ⟨[], 0, false, 0⟩ :=
  ⟨Blk.push _ _ _, Row.nil _ _ _ _, fun q hq => by simp at hq, rfl, hB, Nat.le_refl _⟩
end
theorem absR_zero : absR ⟨[], 0, false, 0⟩ = ⟨[], 0, false, 0⟩ := rfl
theorem Script.at {W h : Heap} {s : Slc} {l : List (Act × List Int)} (S : Script W s l) (X : Ext W.size W h) {i : Nat} {p : Act × List Int} (hx : l[i]? = some p) : ∃ a, s.a = some a ∧ CellsAt h (a.add (i * 3)) (S_quaestorlaw09_Act.cs p.1) ∧ actB W p.1 p.2 := by
  obtain ⟨a, ha, C⟩ := (S.1.ext X).at' i p.1 (by rw [List.getElem?_map, hx]; rfl)
  exact ⟨a, ha, C, S.2.1 p (List.mem_of_getElem? hx)⟩
theorem Script.len {W : Heap} {s : Slc} {l : List (Act × List Int)} (S : Script W s l) : s.len = l.length := by have := S.1.l; simpa using this
theorem DCopyL_ok {W : Heap} {s1 s2 : Slc} {l1 l2 : List (Act × List Int)} {at' : Int} {k : Bool → Heap → Prop} (S1 : Script W s1 l1) (S2 : Script W s2 l2) (H : ∀ h', Ext W.size W h' → k true h') : law09_DiskCopy s1 s2 at' k W := by
  have n1 := S1.len
  have n2 := S2.len
  have m1 : s1.len ≤ 9223372036854775807 := S1.2.2
  have m2 : s2.len ≤ 9223372036854775807 := S2.2.2
  unfold law09_DiskCopy
  have aw : ∀ {h}, Ext W.size W h → law09_awake (fun (r3 : Bool) h4 => k r3 h4) h := fun E => awake9_ok fun h' X => H h' (E.trans (X.mono E.size))
  have g1t : law09_DiskCopy_g1 s1 s2 at' true k W := by
    unfold law09_DiskCopy_g1
    rw [if_pos rfl]; exact aw (Ext.refl _ _)
  refine Great9_ok S1 (Ext.refl _ _) fun b1 hb1 => ?_
  cases b1 with
  | true => rw [if_pos rfl]; exact g1t
  | false =>
  rw [if_neg (by simp)]
  refine Great9_ok S2 (Ext.refl _ _) fun b2 hb2 => ?_
  cases b2 with
  | true => exact g1t
  | false =>
  have q1 := hb1 rfl
  have q2 := hb2 rfl
  unfold law09_DiskCopy_g1
  rw [if_neg (by simp)]
  refine DNew_ok (B := W.size) (Nat.le_refl _) fun d rn rs h1 D1 X1 => ⟨_, _, rfl, rfl, ?_⟩
  have A2 := RNew_at (B := W.size) (h := h1) X1.size
  have W2 := Ext.push h1 (.cells (S_quaestorref09_Disk.cs ⟨⟨none, 0, 0⟩, 0, false, 0⟩).toArray 105) (Nat.le_refl _)
  have r1 : h1.size = h1.size := rfl
  generalize h1.push (.cells (S_quaestorref09_Disk.cs ⟨⟨none, 0, 0⟩, 0, false, 0⟩).toArray 105) = h2 at *
  have E2 := X1.trans (W2.mono X1.size)
  have D2 := D1.ext W2
  generalize h1.size = r at *
  refine ⟨fun i h' => 0 ≤ i ∧ i ≤ l1.length ∧ i ≤ 50 ∧ (∃ s X Y, DAt W.size i.toNat h' d rn rs X ∧ RAt W.size i.toNat h' r s Y ∧ Rel X (absR Y)) ∧ Ext W.size W h', fun i _ => (l1.length - i).toNat, ⟨by omega, by omega, by omega, ⟨_, _, _, D2, A2, Rel.zero⟩, E2⟩, ?_⟩
  rintro i h3 ⟨i0, i1, i5, ⟨s, X, Y, D3, A3, R3⟩, E3⟩
  unfold law09_DiskCopy_l2b
  by_cases hi : i < l1.length ∧ i < 50
  · rw [if_pos (by rw [Bool.and_eq_true, decide_eq_true_eq, decide_eq_true_eq]; omega)]
    have hx : l1[i.toNat]? = some (l1[i.toNat]'(by omega)) := by simp
    generalize l1[i.toNat]'(by omega) = p at *
    obtain ⟨a, ha, Cc, bl, bs, bw⟩ := S1.at E3 hx
    have ps := q1 i.toNat p (by omega) hx
    refine ⟨a, ha, i0, by omega, p.1, Cc, Do_ok D3 A3 E3.size (by omega) bl (fun h' X' => bs.ext (E3.trans X')) (by omega) fun s' Y' h4 D4 A4 e4 E4 => ⟨_, rfl, ?_⟩⟩
    rw [wrapI64 (by omega) (by omega)]
    obtain ⟨_, R4⟩ := R3.act p.1 p.2 bw
    refine ⟨⟨by omega, by omega, by omega, ⟨s', _, Y', by rw [show (i + 1).toNat = i.toNat + 1 from by omega]; exact D4, by rw [show (i + 1).toNat = i.toNat + 1 from by omega]; exact A4, by rw [e4]; exact R4⟩, E3.trans E4⟩, by dsimp only; omega⟩
  · rw [if_neg (by rw [Bool.and_eq_true, decide_eq_true_eq, decide_eq_true_eq]; omega)]
    refine DCopy_ok D3 fun d' rn' rs' h4 D4 X4 => ?_
    have A4 := A3.ext X4
    refine RCopy_ok A4 (by omega) fun r' s' Y' h5 A5 e5 X5 => ?_
    have X35 : Ext h3.size h3 h5 := X4.trans (X5.mono X4.size)
    have D5 := D4.ext X5
    have A5' := A5.mono X4.size
    refine ⟨fun j h' => 0 ≤ j ∧ j ≤ l2.length ∧ j ≤ 50 ∧ (∃ s X Y, DAt h3.size (50 + j.toNat) h' d' rn' rs' X ∧ RAt h3.size (50 + j.toNat) h' r' s Y ∧ Rel X (absR Y)) ∧ Ext h3.size h3 h', fun j _ => (l2.length - j).toNat, ⟨by omega, by omega, by omega, ⟨_, _, _, D5.more (by omega), A5'.more (by omega), by rw [e5]; exact R3⟩, X35⟩, ?_⟩
    rintro j h6 ⟨j0, j1, j5, ⟨s6, X6, Y6, D6, A6, R6⟩, E6⟩
    have EW6 : Ext W.size W h6 := E3.trans (E6.mono E3.size)
    unfold law09_DiskCopy_l3b
    by_cases hj : j < l2.length ∧ j < 50
    · rw [if_pos (by rw [Bool.and_eq_true, decide_eq_true_eq, decide_eq_true_eq]; omega)]
      have hx : l2[j.toNat]? = some (l2[j.toNat]'(by omega)) := by simp
      generalize l2[j.toNat]'(by omega) = p at *
      obtain ⟨a, ha, Cc, bl, bs, bw⟩ := S2.at EW6 hx
      have ps := q2 j.toNat p (by omega) hx
      refine ⟨a, ha, j0, by omega, p.1, Cc, Do_ok D6 A6 E6.size (by omega) bl (fun h' X' => bs.ext (E3.trans ((E6.trans X').mono E3.size))) (by omega) fun s7 Y7 h7 D7 A7 e7 E7 => ?_⟩
      obtain ⟨r7, R7⟩ := R6.act p.1 p.2 bw
      rw [r7, if_neg (by simp)]
      have R7' : Rel (doD X6 p.1 p.2).2 (absR Y7) := by rw [e7]; exact R7
      have E37 := E6.trans E7
      obtain ⟨a7, ha7, C7, _⟩ := S2.at (E3.trans (E37.mono E3.size)) hx
      refine ⟨a7, ha7, j0, by omega, p.1.f_At, C7 1 _ rfl, Same9_ok D7 A7 R7' (by omega) fun h8 W8 => ?_⟩
      have E38 := E37.trans (W8.mono E37.size)
      unfold law09_DiskCopy_g4
      rw [if_neg (by simp)]
      obtain ⟨a8, ha8, C8, _⟩ := S2.at (E3.trans (E38.mono E3.size)) hx
      refine ⟨a8, ha8, j0, by omega, p.1.f_At, C8 1 _ rfl, Same9_ok (D3.ext E38) (A3.ext E38) R3 (by omega) fun h9 W9 => ?_⟩
      have E39 := E38.trans (W9.mono E38.size)
      unfold law09_DiskCopy_g5
      rw [if_neg (by simp)]
      refine ⟨_, rfl, ?_⟩
      rw [wrapI64 (by omega) (by omega)]
      have W79 := W8.trans (W9.mono W8.size)
      refine ⟨⟨by omega, by omega, by omega, ⟨s7, _, Y7, by rw [show 50 + (j + 1).toNat = 50 + j.toNat + 1 from by omega]; exact D7.ext W79, by rw [show 50 + (j + 1).toNat = 50 + j.toNat + 1 from by omega]; exact A7.ext W79, R7'⟩, E39⟩, by dsimp only; omega⟩
    · rw [if_neg (by rw [Bool.and_eq_true, decide_eq_true_eq, decide_eq_true_eq]; omega)]
      refine Same9_ok (D3.ext E6) (A3.ext E6) R3 (by omega) fun h7 W7 => ?_
      rw [if_pos rfl]
      refine Same9_ok (D6.ext W7) (A6.ext W7) R6 (by omega) fun h8 W8 => ?_
      unfold law09_DiskCopy_g6
      rw [if_pos rfl]
      have W68 := W7.trans (W8.mono W7.size)
      exact aw (EW6.trans (W68.mono EW6.size))
/-! ### what was synced stays -/
def Inv7 (X : DK) (bs : List Int) : Prop := mget X.safe 7 = none ∧ ∃ x, mget X.now 7 = some x ∧ secB x = padB bs ∧ x.f_torn = false
theorem Inv7.burn {X : DK} {bs : List Int} (I : Inv7 X bs) : Inv7 (burnD X).2 bs := by
  unfold burnD
  split <;> exact I
theorem Inv7.act {X : DK} {bs fs : List Int} {a : Act} (I : Inv7 X bs) (ha : a.f_At ≠ 7) (nd : (X.safe.map (·.1)).Nodup) : Inv7 (doD X a fs).2 bs := by
  unfold doD
  split
  · unfold syncD
    split
    · exact I
    · split
      · exact I.burn
      · exact ⟨rfl, I.burn.2⟩
  · split
    · unfold fuseD
      split <;> exact I
    · split
      · refine ⟨rfl, ?_⟩
        have ndk : (keysD X).Nodup := by
          unfold keysD srtI
          exact (List.mergeSort_perm _ _).nodup_iff.2 nd
        obtain ⟨_, g2⟩ := bootGo_get (fs := fs) (safe := X.safe) (now := X.now) ndk 7 X.safe.length (by rw [keysD_len]; exact Nat.le_refl _)
        have : mget (bootGo fs X.safe (keysD X) X.safe.length X.now) 7 = mget X.now 7 := g2 fun j hj hja => by
          have h1 : (7 : Int) ∈ keysD X := List.mem_of_getElem? hja
          unfold keysD srtI at h1
          have h2 := (List.mergeSort_perm _ _).mem_iff.1 h1
          rw [mget_mem, I.1] at h2; cases h2
        show ∃ x, mget (bootGo fs X.safe (keysD X) X.safe.length X.now) 7 = some x ∧ _
        rw [this]; exact I.2
      · unfold writeD
        split
        · exact I
        · split
          · exact I
          · split
            · exact I
            · refine Inv7.burn ⟨?_, ?_⟩
              · show mget (if (mget X.safe a.f_At).isSome = true then X.safe else mput X.safe a.f_At ((mget X.now a.f_At).getD zSec)) 7 = none
                split
                · exact I.1
                · rw [mget_put, if_neg (fun e => ha e.symm)]; exact I.1
              · show ∃ x, mget (mput X.now a.f_At ⟨padB fs, false⟩) 7 = some x ∧ _
                rw [mget_put, if_neg (fun e => ha e.symm)]; exact I.2
/-- written at 7, with no fuse -/
theorem write7 {X : DK} {bs : List Int} (hd : X.dead = false) (hf : X.fuse = 0) (hl : bs.length ≤ 128) : (writeD X 7 bs).1 = 0 ∧ (writeD X 7 bs).2 = { laidD X 7 bs with ops := IntKind.i64.wrap (X.ops + 1) } := by
  have b : burnD (laidD X 7 bs) = (false, { laidD X 7 bs with ops := IntKind.i64.wrap (X.ops + 1) }) := by
    unfold burnD
    rw [if_pos (show (laidD X 7 bs).fuse = 0 from hf)]; rfl
  unfold writeD
  rw [if_neg (by simp [hd]), if_neg (by omega), if_neg (by omega), b]
  exact ⟨rfl, rfl⟩
theorem boot7 {X : DK} {fs : List Int} {x : Sec} (h : X.safe = [(7, x)]) : mget (bootD X fs).now 7 = if fateD fs 0 = 0 then some x else if fateD fs 0 = 2 then some ⟨[], true⟩ else mget X.now 7 := by
  have k : keysD X = [7] := by unfold keysD srtI; rw [h]; exact List.mergeSort_singleton _
  show mget (bootGo fs X.safe (keysD X) X.safe.length X.now) 7 = _
  rw [k, h]
  show mget (bootOne fs [(7, x)] 0 7 X.now) 7 = _
  unfold bootOne
  have m : mget [((7 : Int), x)] 7 = some x := rfl
  rw [m]
  split
  · rw [mget_put, if_pos rfl]; rfl
  · split
    · rw [mget_put, if_pos rfl]
    · rfl
theorem read7 {X : DK} : readD X 7 = if ((mget X.now 7).getD zSec).f_torn = true then ([], 9) else (secB ((mget X.now 7).getD zSec), 0) := by
  unfold readD; rw [if_neg (by omega)]
theorem pad_take {bs : List Int} : (padB bs).take bs.length = bs := by unfold padB; rw [List.take_append_of_le_length (Nat.le_refl _), List.take_length]
theorem cut_slc {h : Heap} {t : Slc} {vs : List Int} {n : Nat} (S : SlcAt h t (b8 vs)) (hl : t.len = vs.length) (hc : t.len ≤ t.cap) (hn : n ≤ vs.length) : SlcAt h (subS t 1 0 n t.cap) (b8 (vs.take n)) ∧ (subS t 1 0 n t.cap).len = (vs.take n).length := by
  have := SlcAt.sub (w := 1) (l := 0) (u := n) (m := t.cap) S (by omega) (by omega)
  refine ⟨?_, by rw [List.length_take]; show n - 0 = _; omega⟩
  rw [Nat.zero_mul, List.drop_zero, Nat.sub_zero, Nat.mul_one, ← List.map_take] at this
  exact this
theorem DSafeL_ok {W : Heap} {s1 sa sb sf : Slc} {l1 : List (Act × List Int)} {ba bb bf : List Int} {k : Bool → Heap → Prop} (S1 : Script W s1 l1) (la : sa.len = ba.length) (Ha : SlcAt W sa (b8 ba)) (lb : sb.len = bb.length) (Hb : SlcAt W sb (b8 bb)) (lf : sf.len = bf.length) (Hf : SlcAt W sf (b8 bf))
    (H : ∀ h', Ext W.size W h' → k true h') : law09_DiskSafe s1 sa sb sf k W := by
  have n1 := S1.len
  have m1 : s1.len ≤ 9223372036854775807 := S1.2.2
  unfold law09_DiskSafe
  have aw : ∀ {h} {k' : Bool → Heap → Prop}, Ext W.size W h → (∀ h', Ext W.size W h' → k' true h') → law09_awake k' h := fun E H' => awake9_ok fun h' X => H' h' (E.trans (X.mono E.size))
  refine Great9_ok S1 (Ext.refl _ _) fun b1 hb1 => ?_
  by_cases hg : b1 = true ∨ sa.len > 128 ∨ sb.len > 128 ∨ sf.len > 300
  · rw [if_pos (by
      simp only [Bool.or_eq_true, decide_eq_true_eq]
      rcases hg with h | h | h | h
      · exact .inl (.inl (.inl h))
      · exact .inl (.inl (.inr (by omega)))
      · exact .inl (.inr (by omega))
      · exact .inr (by omega))]
    exact aw (Ext.refl _ _) H
  have hb0 : b1 = false := by cases b1 with
    | false => rfl
    | true => exact absurd (.inl rfl) hg
  have q1 := hb1 hb0
  have g1 : ¬ sa.len > 128 := fun h => hg (.inr (.inl h))
  have g2 : ¬ sb.len > 128 := fun h => hg (.inr (.inr (.inl h)))
  have g3 : ¬ sf.len > 300 := fun h => hg (.inr (.inr (.inr h)))
  subst hb0
  rw [if_neg (by simp only [Bool.or_eq_true, decide_eq_true_eq, Bool.false_eq_true, false_or]; omega)]
  refine DNew_ok (B := W.size) (Nat.le_refl _) fun d rn rs h1 D1 X1 => ?_
  have z1 := X1.size
  refine DWrite_ok D1 (Ha.ext X1) la fun h2 D2 F2 => ?_
  have E2 : Ext W.size W h2 := X1.trans (F2.ext D1 z1)
  obtain ⟨w1, w2⟩ := write7 (X := ⟨[], [], 0, false, 0⟩) (bs := ba) rfl rfl (by omega)
  rw [w1, if_neg (by simp)]
  refine DSync_ok D2 fun h3 D3 F3 => ?_
  have E3 : Ext W.size W h3 := E2.trans (F3.ext D2 E2.size)
  rw [w2] at D3 ⊢
  have sy : syncD { laidD ⟨[], [], 0, false, 0⟩ 7 ba with ops := IntKind.i64.wrap (0 + 1) } = (0, ⟨[(7, ⟨padB ba, false⟩)], [], 0, false, IntKind.i64.wrap (IntKind.i64.wrap (0 + 1) + 1)⟩) := rfl
  rw [sy] at D3 ⊢
  unfold law09_DiskSafe_g1
  rw [if_neg (by simp)]
  have I0 : Inv7 ⟨[(7, ⟨padB ba, false⟩)], [], 0, false, IntKind.i64.wrap (IntKind.i64.wrap (0 + 1) + 1)⟩ ba := ⟨rfl, _, rfl, nrm_id (pad_len (by omega)), rfl⟩
  refine ⟨fun i h' => 0 ≤ i ∧ i ≤ l1.length ∧ i ≤ 50 ∧ (∃ X, DAt W.size (1 + i.toNat) h' d rn rs X ∧ Inv7 X ba) ∧ Ext W.size W h', fun i _ => (l1.length - i).toNat, ⟨by omega, by omega, by omega, ⟨_, D3.more (by omega), I0⟩, E3⟩, ?_⟩
  rintro i h4 ⟨i0, i1, i5, ⟨X, D4, I4⟩, E4⟩
  unfold law09_DiskSafe_l2b
  by_cases hi : i < l1.length ∧ i < 50
  · rw [if_pos (by rw [Bool.and_eq_true, decide_eq_true_eq, decide_eq_true_eq]; omega)]
    have hx : l1[i.toNat]? = some (l1[i.toNat]'(by omega)) := by simp
    generalize l1[i.toNat]'(by omega) = p at *
    obtain ⟨a, ha, Cc, bl, bs, bw⟩ := S1.at E4 hx
    have ps := q1 i.toNat p (by omega) hx
    refine ⟨a, ha, i0, by omega, p.1.f_At, Cc 1 _ rfl, ?_⟩
    by_cases h7 : p.1.f_At = 7
    · rw [if_neg (by simp [h7])]
      unfold law09_DiskSafe_j3
      refine ⟨_, rfl, ?_⟩
      rw [wrapI64 (by omega) (by omega)]
      exact ⟨⟨by omega, by omega, by omega, ⟨X, D4.more (by omega), I4⟩, E4⟩, by dsimp only; omega⟩
    · rw [if_pos (by simpa using h7)]
      refine ⟨_, _, rfl, rfl, ?_⟩
      have A5 := RNew_at (B := W.size) (h := h4) E4.size
      have W5 := Ext.push h4 (.cells (S_quaestorref09_Disk.cs ⟨⟨none, 0, 0⟩, 0, false, 0⟩).toArray 105) (Nat.le_refl _)
      generalize h4.push (.cells (S_quaestorref09_Disk.cs ⟨⟨none, 0, 0⟩, 0, false, 0⟩).toArray 105) = h5 at *
      have E5 := E4.trans (W5.mono E4.size)
      have D5 := D4.ext W5
      obtain ⟨a5, ha5, C5, _⟩ := S1.at E5 hx
      refine ⟨a5, ha5, i0, by omega, p.1, C5, Do_ok D5 (A5.more (Nat.zero_le _)) E5.size (by omega) bl (fun h' X' => bs.ext (E5.trans X')) (by omega) fun s' Y' h6 D6 A6 e6 E6 => ?_⟩
      unfold law09_DiskSafe_j3
      refine ⟨_, rfl, ?_⟩
      rw [wrapI64 (by omega) (by omega)]
      exact ⟨⟨by omega, by omega, by omega, ⟨_, D6.more (by omega), I4.act h7 D4.nd⟩, E5.trans E6⟩, by dsimp only; omega⟩
  · rw [if_neg (by rw [Bool.and_eq_true, decide_eq_true_eq, decide_eq_true_eq]; omega)]
    refine DBoot_ok (fs := bf) D4 (Hf.ext E4) lf (fun h' F => Hf.ext (E4.trans (F.ext D4 E4.size))) (by omega) fun h5 D5 F5 => ?_
    have E5 := E4.trans (F5.ext D4 E4.size)
    -- what stands at 7 behind it
    have now7 : mget (bootD X bf).now 7 = mget X.now 7 := by
      have ndk : (keysD X).Nodup := by
        unfold keysD srtI
        exact (List.mergeSort_perm _ _).nodup_iff.2 D4.nd
      obtain ⟨_, gg⟩ := bootGo_get (fs := bf) (safe := X.safe) (now := X.now) ndk 7 X.safe.length (by rw [keysD_len]; exact Nat.le_refl _)
      exact gg fun j hj hja => by
        have h1 : (7 : Int) ∈ keysD X := List.mem_of_getElem? hja
        unfold keysD srtI at h1
        have h2 := (List.mergeSort_perm _ _).mem_iff.1 h1
        rw [mget_mem, I4.1] at h2; cases h2
    obtain ⟨x0, hx0, b0, t0⟩ := I4.2
    rw [hx0] at now7
    generalize hX1 : bootD X bf = X1 at *
    have s1' : X1.safe = [] := by rw [← hX1]; rfl
    have f1' : X1.fuse = 0 := by rw [← hX1]; rfl
    have d1' : X1.dead = false := by rw [← hX1]; rfl
    have rd : readD X1 7 = (padB ba, 0) := by
      rw [read7, now7]
      show (if x0.f_torn = true then _ else _) = _
      rw [t0, if_neg (by simp), ← b0]; rfl
    refine DRead_ok D5 fun tx h6 Sx lx cx bx W6 => ?_
    rw [rd] at Sx lx ⊢
    dsimp only at Sx lx ⊢
    have E6 := E5.trans (W6.mono E5.size)
    have D6 := D5.ext W6
    have pl : (padB ba).length = 128 := pad_len (by omega)
    have lx' : tx.len = 128 := lx.trans pl
    rw [if_neg (by rw [lx']; simp)]
    have cut := cut_slc (n := ba.length) Sx lx (by omega) (by omega)
    rw [pad_take] at cut
    refine ⟨_, by omega, by omega, by rw [la]; omega, by omega, rfl, ?_⟩
    rw [show (0 : Int).toNat = 0 from rfl, show ((sa.len : Int)).toNat = sa.len from rfl, show ((tx.cap : Int)).toNat = tx.cap from rfl, la]
    refine DSame_ok cut.1 cut.2 (Ha.ext E6) la (by omega) ?_
    unfold law09_DiskSafe_g4
    rw [show decide (ba = ba) = true from by simp, if_neg (by simp)]
    refine DWrite_ok D6 (Hb.ext E6) lb fun h7 D7 F7 => ?_
    have E7 := E6.trans (F7.ext D6 E6.size)
    obtain ⟨v1, v2⟩ := write7 (X := X1) (bs := bb) d1' f1' (by omega)
    rw [v1]
    rw [v2] at D7
    unfold law09_DiskSafe_g5
    rw [if_neg (by simp)]
    have sf2 : (laidD X1 7 bb).safe = [(7, x0)] := by
      show (if (mget X1.safe 7).isSome = true then X1.safe else mput X1.safe 7 ((mget X1.now 7).getD zSec)) = _
      rw [s1', now7]; rfl
    have nw2 : mget (laidD X1 7 bb).now 7 = some ⟨padB bb, false⟩ := by
      show mget (mput X1.now 7 ⟨padB bb, false⟩) 7 = _
      rw [mget_put, if_pos rfl]
    generalize hX2 : ({ laidD X1 7 bb with ops := IntKind.i64.wrap (X1.ops + 1) } : DK) = X2 at *
    have s2' : X2.safe = [(7, x0)] := by rw [← hX2]; exact sf2
    have n2' : mget X2.now 7 = some ⟨padB bb, false⟩ := by rw [← hX2]; exact nw2
    have Sx7 : SlcAt h7 tx (b8 (padB ba)) := SlcAt.df Sx D6 F7 fun a ha => by have := bx a ha; have := D5.P.lt; omega
    refine DBoot_ok (fs := bf) D7 (Hf.ext E7) lf (fun h' F => Hf.ext (E7.trans (F.ext D7 E7.size))) (by omega) fun h8 D8 F8 => ?_
    have E8 := E7.trans (F8.ext D7 E7.size)
    have Sx8 : SlcAt h8 tx (b8 (padB ba)) := SlcAt.df Sx7 D7 F8 fun a ha => by have := bx a ha; have := D5.P.lt; omega
    refine DRead_ok D8 fun ty h9 Sy ly cy _ W9 => ?_
    have E9 := E8.trans (W9.mono E8.size)
    have fin : ∀ {h}, Ext W.size W h → ∀ nx, law09_DiskSafe_g6 true k nx h := fun E nx => by
      unfold law09_DiskSafe_g6
      rw [if_pos rfl]
      exact aw E fun h' E' => by unfold law09_DiskSafe_g7; exact H h' E'
    have b7 := boot7 (fs := bf) s2'
    have rd2 : readD (bootD X2 bf) 7 = ([], 9) ∨ readD (bootD X2 bf) 7 = (padB ba, 0) ∨ readD (bootD X2 bf) 7 = (padB bb, 0) := by
      rw [read7, b7]
      by_cases f0 : fateD bf 0 = 0
      · right; left
        rw [if_pos f0]
        show (if x0.f_torn = true then _ else _) = _
        rw [t0, if_neg (by simp), ← b0]; rfl
      · rw [if_neg f0]
        by_cases f2 : fateD bf 0 = 2
        · left; rw [if_pos f2]; rfl
        · right; right
          rw [if_neg f2, n2']
          have e1 : secB ⟨padB bb, false⟩ = padB bb := nrm_id (pad_len (by omega))
          show (secB ⟨padB bb, false⟩, (0 : Int)) = _
          rw [e1]
    have Sx9 := Sx8.ext W9
    rcases rd2 with e | e | e
    · rw [e, if_pos (by simp)]
      exact fin E9 _
    · rw [e] at Sy ly ⊢
      dsimp only at Sy ly ⊢
      have ly' : ty.len = 128 := ly.trans pl
      rw [if_neg (by simp), if_pos (by rw [ly']; simp)]
      refine DSame_ok Sy ly Sx9 lx (by omega) ?_
      rw [if_pos (by simp)]
      unfold law09_DiskSafe_g9 law09_DiskSafe_g8
      exact fin E9 _
    · rw [e] at Sy ly ⊢
      dsimp only at Sy ly ⊢
      have pb : (padB bb).length = 128 := pad_len (by omega)
      have ly' : ty.len = 128 := ly.trans pb
      rw [if_neg (by simp), if_pos (by rw [ly']; simp)]
      refine DSame_ok Sy ly Sx9 lx (by omega) ?_
      by_cases hs : padB bb = padB ba
      · rw [if_pos (by simpa using hs)]
        unfold law09_DiskSafe_g9 law09_DiskSafe_g8
        exact fin E9 _
      · rw [if_neg (by simpa using hs)]
        have cut2 := cut_slc (n := bb.length) Sy ly (by omega) (by omega)
        rw [pad_take] at cut2
        refine ⟨_, by omega, by omega, by rw [lb]; omega, by omega, rfl, ?_⟩
        rw [show (0 : Int).toNat = 0 from rfl, show ((sb.len : Int)).toNat = sb.len from rfl, show ((ty.cap : Int)).toNat = ty.cap from rfl, lb]
        refine DSame_ok cut2.1 cut2.2 (Hb.ext E9) lb (by omega) ?_
        rw [show decide (bb = bb) = true from by simp]
        unfold law09_DiskSafe_g9 law09_DiskSafe_g8
        exact fin E9 _
end Go.Q.Yb
