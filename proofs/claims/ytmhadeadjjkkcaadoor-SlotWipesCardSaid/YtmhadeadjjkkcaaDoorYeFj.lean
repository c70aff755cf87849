/- A part of the proof of statements of this seat: lemmas, no statement of their own. -/
import Derived.Test.YtmhadeadjjkkcaaDoorYeFi
set_option linter.unusedVariables false
set_option linter.unusedSimpArgs false
set_option maxRecDepth 100000
/- Slot: the document's example, walked; where a pair is opened. -/
namespace Go.Q.Ye
theorem awake10_ok {k : Bool → Heap → Prop} {h : Heap} (r : R0 h) (H : ∀ h', Ext h.size h h' → k true h') : law10_awake k h := by
  have r0 := r.pos
  unfold law10_awake
  refine DNew_ok (B := h.size) (Nat.le_refl _) fun d rn rs h2 D2 X2 => ?_
  have z2 := X2.size
  refine Open_ok (by omega) (by omega) (fun e => absurd e (show ¬ roomD 5 2 = false from by decide)) fun _ pr h4 P4 X4 pB => ?_
  have z4 := X4.size
  have D4 := D2.ext X4
  have X04 := X2.trans (X4.mono z2)
  refine ⟨_, _, rfl, rfl, _, rfl, ?_⟩
  have A := Blk.pushM h4 [.int .u8 97] 5 (lo := 1) (hi := 2) (by simp)
  have W7 := Ext.push h4 (.cells ([.int .u8 97] : List Value).toArray 5 (1, 2)) (Nat.le_refl _)
  generalize h4.push (.cells ([.int .u8 97] : List Value).toArray 5 (1, 2)) = h7 at *
  have z7 := W7.size
  have D7 := D4.ext W7
  have P7 : PairAt h7 pr d 5 2 := Blk.ext P4 W7 P4.lt
  have X07 := X04.trans (W7.mono X04.size)
  have dl := D4.P.lt
  have nl := D4.N.lt
  have sl := D4.S.lt
  refine Save_ok (bs := [97]) D7 P7 (r.ext X07 r0) gX0 (by omega) (by omega) (fun h' F' => (A.old (F'.block _ A.lt (by omega) (by omega) (by omega))).slc (o := 0) (n := 1) rfl) rfl (Nat.le_refl _) (by simp) fun rr Y c1 h9 L c1l D9 F9 => ?_
  obtain ⟨rfl, rfl⟩ := sv1 L
  have P9 := P7.df D7 F9
  have X09 := X07.trans (F9.ext D7 X07.size)
  have z9 := F9.size
  refine ⟨_, _, rfl, rfl, _, rfl, ?_⟩
  have A2 := Blk.pushM h9 [.int .u8 98] 5 (lo := 1) (hi := 2) (by simp)
  have W12 := Ext.push h9 (.cells ([.int .u8 98] : List Value).toArray 5 (1, 2)) (Nat.le_refl _)
  generalize h9.push (.cells ([.int .u8 98] : List Value).toArray 5 (1, 2)) = h12 at *
  have D12 := D9.ext W12
  have P12 : PairAt h12 pr d 5 2 := Blk.ext P9 W12 P9.lt
  have X012 := X09.trans (W12.mono X09.size)
  refine Save_ok (bs := [98]) D12 P12 (r.ext X012 r0) gY1 (by omega) (by omega) (fun h' F' => (A2.old (F'.block _ A2.lt (by omega) (by omega) (by omega))).slc (o := 0) (n := 1) rfl) rfl (Nat.le_refl _) (by simp) fun rr Y c2 h14 L2 c2l D14 F14 => ?_
  obtain ⟨rfl, rfl⟩ := sv2 L2
  have P14 := P12.df D12 F14
  have X014 := X012.trans (F14.ext D12 X012.size)
  refine DWrite_ok (bs := []) D14 ⟨fun _ => rfl, fun a ha => by cases ha⟩ rfl fun h16 D16 F16 => ?_
  rw [wr3] at D16
  have P16 := P14.df D14 F16
  have X016 := X014.trans (F16.ext D14 X014.size)
  refine ⟨_, _, rfl, rfl, ?_⟩
  have A3 := Blk.push h16 [.int .u8 2] 5
  have W18 := Ext.push h16 (.cells ([.int .u8 2] : List Value).toArray 5) (Nat.le_refl _)
  have dl16 := D16.P.lt
  have nl16 := D16.N.lt
  have sl16 := D16.S.lt
  generalize h16.push (.cells ([.int .u8 2] : List Value).toArray 5) = h18 at *
  have D18 := D16.ext W18
  have P18 : PairAt h18 pr d 5 2 := Blk.ext P16 W18 P16.lt
  have X018 := X016.trans (W18.mono X016.size)
  refine DBoot_ok (fs := [2]) D18 (A3.slc (o := 0) (n := 1) rfl) rfl (fun h' F' => (A3.old (F'.block _ A3.lt (by omega) (by omega) (by omega))).slc (o := 0) (n := 1) rfl) (by omega) fun h20 D20 F20 => ?_
  change DAt _ _ h20 d rn rs (bootD Y3 [2]) at D20
  rw [bt4] at D20
  have P20 := P18.df D18 F20
  have X020 := X018.trans (F20.ext D18 X018.size)
  refine Load_ok D20 P20 (r.ext X020 r0) gY4 (by omega) (by omega) fun slot s n h22 b X22 => ?_
  have X022 := X020.trans (X22.mono X020.size)
  rcases b with ⟨_, _, _, nw, _⟩ | ⟨e, T, _⟩ | ⟨_, T, _⟩
  · exact absurd end4.1 nw
  · subst e
    have en := T.n
    rw [end4.2.1] at en
    subst en
    have St := T.S
    have lt := T.l
    rw [end4.2.2] at St lt
    rw [show (if (0 : Int) < 0 then ((⟨none, 0, 0⟩ : Slc), (0 : Int), (6 : Int)) else (s, 1, 0)) = (s, 1, 0) from if_neg (by decide), if_pos (by simp)]
    refine ⟨[97], lt.symm, St, ?_⟩
    unfold law10_awake_g1
    rw [show ((bsOf [97]).toList == (⟨#[97]⟩ : ByteArray).toList && ((1 : Int) == 1)) = true from by
      have : bsOf [97] = (⟨#[97]⟩ : ByteArray) := by decide
      rw [this]; simp]
    exact H h22 X022
  · exact absurd T.w no4
theorem Opens_ok {fr kk : Int} {k : Bool → Heap → Prop} {h : Heap} (r : R0 h) (f1 : -9223372036854775808 ≤ fr ∧ fr < 9223372036854775808) (k1 : -9223372036854775808 ≤ kk ∧ kk < 9223372036854775808) (H : ∀ h', Ext h.size h h' → k true h') : law10_SlotOpens fr kk k h := by
  have r0 := r.pos
  unfold law10_SlotOpens
  refine DNew_ok (B := h.size) (Nat.le_refl _) fun d rn rs h2 D2 X2 => ?_
  have z2 := X2.size
  have fin : ∀ (q : Option Addr × Int) (h4 : Heap), Ext h.size h h4 → ((roomD fr kk = true ∧ q.2 = 0 ∧ q.1.isNone = false) ∨ (roomD fr kk = false ∧ q = (none, 1))) → slot_Open none fr kk (fun r5 h6 => slot_Pair_Load none (fun r7 h8 => slot_Pair_Save none ⟨none, 0, 0⟩ (fun r9 h10 => slot_Pair_Wipe none ⟨none, 0, 0⟩ (fun r11 h12 =>
      if (((((((((q.2 == 0) == ((((decide (kk ≥ 1)) && (decide (kk ≤ 512))) && (decide (fr ≥ 0))) && (decide (fr ≤ (IntKind.i64.wrap (1024 - (IntKind.i64.wrap (2 * kk))))))))) && (((!q.1.isNone) == ((((decide (kk ≥ 1)) && (decide (kk ≤ 512))) && (decide (fr ≥ 0))) && (decide (fr ≤ (IntKind.i64.wrap (1024 - (IntKind.i64.wrap (2 * kk)))))))))) && (((((decide (kk ≥ 1)) && (decide (kk ≤ 512))) && (decide (fr ≥ 0))) && (decide (fr ≤ (IntKind.i64.wrap (1024 - (IntKind.i64.wrap (2 * kk))))))) || (q.2 == 1))) && (r5.2 == 1)) && (r7.2.2 == 6)) && (r9.2 == 10)) && (r11.2 == 10)) then (law10_awake (fun (r13 : Bool) h14 => law10_SlotOpens_g1 r13 k h14) h12) else (law10_SlotOpens_g1 false k h12)) h10) h8) h6) h4 := fun q h4 X4 hq => by
    have eroom : ((((decide (kk ≥ 1)) && (decide (kk ≤ 512))) && (decide (fr ≥ 0))) && (decide (fr ≤ (IntKind.i64.wrap (1024 - (IntKind.i64.wrap (2 * kk))))))) = roomD fr kk := by
      by_cases a : kk ≥ 1 ∧ kk ≤ 512
      · rw [wrapI64 (x := 2 * kk) (by omega) (by omega), wrapI64 (x := 1024 - 2 * kk) (by omega) (by omega)]
        unfold roomD
        rw [Bool.eq_iff_iff]
        simp only [Bool.and_eq_true, decide_eq_true_eq]
        omega
      · have e1 : roomD fr kk = false := by unfold roomD; rw [decide_eq_false_iff_not]; omega
        rw [e1]
        cases e : ((((decide (kk ≥ 1)) && (decide (kk ≤ 512))) && (decide (fr ≥ 0))) && (decide (fr ≤ (IntKind.i64.wrap (1024 - (IntKind.i64.wrap (2 * kk))))))) with
        | false => rfl
        | true =>
          simp only [Bool.and_eq_true, decide_eq_true_eq] at e
          exact absurd ⟨e.1.1.1, e.1.1.2⟩ a
    refine OpenNil_ok (LoadNil_ok (SaveNil_ok (WipeNil_ok ?_)))
    rw [eroom]
    rw [if_pos ?_]
    · refine awake10_ok (r.ext X4 r0) fun h14 X14 => ?_
      unfold law10_SlotOpens_g1
      exact H h14 (X4.trans (X14.mono X4.size))
    · rcases hq with ⟨a, b, c⟩ | ⟨a, b⟩
      · rw [a, b, c]; decide
      · rw [a, b]; decide
  refine Open_ok f1 k1 (fun e => ?_) (fun e pr h4 P4 X4 pB => ?_)
  · exact fin (none, 1) h2 X2 (.inr ⟨e, rfl⟩)
  · exact fin (some ⟨pr, 0, none⟩, 0) h4 (X2.trans (X4.mono z2)) (.inl ⟨e, rfl, rfl⟩)
end Go.Q.Ye
