/- A part of the proof of statements of this seat: lemmas, no statement of their own. -/
import Derived.Test.YthjafnfadiijgaaYhVtA
import Derived.Test.YthjafnfadiijgaaYhVt0
import Derived.Test.YthjafnfadiijgaaQZa
import Derived.Sort.AssemblyPlain
set_option linter.unusedVariables false
set_option linter.unusedSimpArgs false
namespace Go.Q
open Go.RowKit Go.Maps Go.Shelf Go.Proofs
theorem row_of_ownsV {w : World} {B E wd n : Nat} {v : Value} {xs : List Value} (h : w.ownsRow B E wd v n xs) : ∃ s : Slc, v = Slc.v s ∧ s.len = n ∧ Row B w.heap E wd s xs := by
  obtain ⟨hl, hc⟩ := h
  rcases hc with ⟨rfl, rfl⟩ | ⟨g, cap, cur, rfl, hB, hg, hn, hm, hs, ht⟩
  · exact ⟨⟨none, 0, 0⟩, rfl, rfl, by simpa using hl, by simp [maxLen], .inl ⟨rfl, rfl, rfl⟩⟩
  · exact ⟨⟨some ⟨g, 0, none⟩, n, cap⟩, rfl, rfl, hl, hm, .inr ⟨g, cur.toList, rfl, hB, ⟨0, 0, by simpa using hg, .inl (Nat.le_refl _)⟩, hn, by simp [hs], ht⟩⟩
theorem CallsH.of_callsV {P : Program} {f : FuncId} {args : Array Value} {h : Heap} {Φ : Value → Heap → Prop} (H : ∀ w, w.heap = h → Calls P f args w fun e w' => ∃ v, e = .returned v ∧ Go.RowKit.Below w.heap.size w w' ∧ Φ v w'.heap) : CallsH P f args h Φ :=
  fun w hw => (H w hw).mono fun r w' ⟨v, e, B, p⟩ => ⟨v, e, ⟨B.os, B.tape, B.output, rfl⟩, p⟩
end Go.Q
namespace Go.Q.Yh
open Go.RowKit Go.Maps Go.Shelf Go.Proofs Go.Sort
def u8s (l : List Int) : List Value := l.map (Value.int .u64)
/-- slices.Values -/
def slices_Values_uint64_uint64 (s : Slc) (k : Value → Heap → Prop) (h : Heap) : Prop :=
  k (.func (.func 93) #[] #[.pointer (some ⟨h.size, 0, none⟩)]) (h.push (.cells #[Slc.v s] 81))
theorem slices_Values_uint64_uint64_ok : CallOk Try.prog 89 := ⟨_, Try.func89, by kernel_rfl, by kernel_rfl⟩
theorem slices_Values_uint64_uint64_ref (s : Slc) (k : Value → Heap → Prop) (h : Heap) (H : slices_Values_uint64_uint64 s k h) : CallsH Try.prog 89 #[Slc.v s] h (fun v h' => ∃ r : Value, v = r ∧ k r h') := by
  refine CallsH.of_callsV fun w hw => ?_
  refine (callsIn_wide.1 (Yv.values_in Fence.wide 5 trivial rfl s.a s.len s.cap w)).mono ?_
  rintro e w' ⟨rfl, rfl⟩
  refine ⟨_, rfl, (Below.refl _ w).alloc (Nat.le_refl _) _, _, rfl, ?_⟩
  subst hw
  exact H
/-- slices.Collect of what slices.Values hands back -/
def slices_Collect_uint64 (f : Value) (k : Slc → Heap → Prop) (h : Heap) : Prop :=
  ∃ (bx : Nat) (s : Slc) (zs : List Int), f = .func (.func 93) #[] #[.pointer (some ⟨bx, 0, none⟩)] ∧ cellH h ⟨bx, 0, none⟩ = some (Slc.v s) ∧ s.len = zs.length ∧ SlcAt h s (u8s zs) ∧ 0 < zs.length ∧ zs.length ≤ 1000000 ∧
    ∀ s' h', Row h.size h' 22 1 s' (u8s zs) → s'.len = zs.length → Ext h.size h h' → k s' h'
theorem slices_Collect_uint64_ok : CallOk Try.prog 91 := ⟨_, Try.func91, by kernel_rfl, by kernel_rfl⟩
theorem slices_Collect_uint64_ref (f : Value) (k : Slc → Heap → Prop) (h : Heap) (H : slices_Collect_uint64 f k h) : CallsH Try.prog 91 #[f] h (fun v h' => ∃ r : Slc, v = Slc.v r ∧ k r h') := by
  obtain ⟨bx, s, zs, rfl, hb, sl, S, z0, z1, H⟩ := H
  refine CallsH.of_callsV fun w hw => ?_
  subst hw
  have hc : w.cell? ⟨bx, 0, none⟩ = some (Slc.v s) := hb
  have hI : Yv.Nums w.heap.size w (Slc.v s) zs := by
    obtain ⟨a, len, cap⟩ := s
    cases a with
    | none =>
      have e : zs = [] := List.map_eq_nil_iff.1 (S.1 rfl)
      rw [e] at z0; simp at z0
    | some a =>
      have g : ∀ j, j < zs.length → cellH w.heap (a.add j) = some (.int .u64 (zs[j]?.getD 0)) := fun j hj => by
        refine S.2 a rfl j _ ?_
        unfold u8s
        rw [List.getElem?_map, List.getElem?_eq_getElem hj]; rfl
      have h0 := g 0 z0
      have a0 : a.add 0 = a := by simp [Addr.add]
      rw [a0] at h0
      have sp : a.spot = none := by
        unfold cellH at h0
        split at h0
        · cases hs : a.spot with
          | none => rfl
          | some x => rw [hs] at h0; simp at h0
        · cases h0
      have lt := cellH_lt h0
      obtain ⟨b, o, spot⟩ := a
      simp only at sp lt
      subst sp
      refine .inr ⟨b, o, cap, by rw [show len = zs.length from sl], lt, fun j hj => ?_⟩
      have := g j hj
      rw [add_mk] at this; exact this
  have c := Yv.collect_in Fence.wide 6 trivial trivial trivial rfl (by omega) bx (Slc.v s) zs (by simp only [maxLen]; omega) (by omega) w (cellH_lt hb) hc hI
  refine (callsIn_wide.1 c).mono ?_
  rintro e w' ⟨v, rfl, hrow, hB⟩
  obtain ⟨s', rfl, sl', R⟩ := row_of_ownsV hrow
  exact ⟨_, rfl, hB, _, rfl, H s' _ R sl' ⟨hB.size, hB.block⟩⟩
/-! ### a row of numbers of one's own -/
/-- all blocks but that of s stay -/
structure Onl (s : Slc) (h h' : Heap) : Prop where
  size : h.size ≤ h'.size
  block : ∀ g, g < h.size → s.blk ≠ some g → h'[g]? = h[g]?
theorem Onl.refl (s : Slc) (h : Heap) : Onl s h h := ⟨Nat.le_refl _, fun _ _ _ => rfl⟩
theorem Onl.trans {s : Slc} {a b c : Heap} (p : Onl s a b) (q : Onl s b c) : Onl s a c := ⟨Nat.le_trans p.size q.size, fun g hg hs => (q.block g (Nat.lt_of_lt_of_le hg p.size) hs).trans (p.block g hg hs)⟩
theorem Onl.of_ext {s : Slc} {h h' : Heap} (X : Ext h.size h h') : Onl s h h' := ⟨X.size, fun g hg _ => X.block g hg⟩
def U64 (B : Nat) (h : Heap) (s : Slc) (d : Array Int) : Prop := Row B h 22 1 s (u8s d.toList)
section
variable {B : Nat} {h h' : Heap} {s : Slc} {d : Array Int}
theorem U64.len (R : U64 B h s d) : s.len = d.size := by
  have := Row.len R
  unfold u8s at this
  simpa using this
theorem Onl.ext (O : Onl s h h') (R : U64 B h s d) (hB : B ≤ h.size) : Ext B h h' := ⟨O.size, fun g hg => O.block g (by omega) fun e => by have := (R.bd e).1; omega⟩
theorem U64.ld (R : U64 B h s d) {i : Nat} (hi : i < d.size) : ∃ g, s.a = some ⟨g, 0, none⟩ ∧ cellH h ⟨g, i, none⟩ = some (.int .u64 d[i]!) := by
  have sl := R.len
  rcases R.2.2 with ⟨a0, a1, _⟩ | ⟨g, cur, a1, a2, a3, a4, a5, a6⟩
  · omega
  · refine ⟨g, a1, ?_⟩
    obtain ⟨a, h1, h2⟩ := R.at (j := i) (by omega)
    rw [a1] at h1; cases h1
    rw [add_mk, Nat.zero_add] at h2
    rw [h2]
    unfold u8s
    rw [List.getElem?_map, Array.getElem?_toList, Array.getElem?_eq_getElem hi, getElem!_pos d i hi]; rfl
theorem U64.st (R : U64 B h s d) {i : Nat} (hi : i < d.size) {g : Nat} (ha : s.a = some ⟨g, 0, none⟩) (v : Int) : WrH h ⟨g, i, none⟩ ∧ U64 B (setH h ⟨g, i, none⟩ (.int .u64 v)) s (d.setIfInBounds i v) ∧ Onl s h (setH h ⟨g, i, none⟩ (.int .u64 v)) := by
  have sl := R.len
  rcases R.2.2 with ⟨a0, a1, _⟩ | ⟨g', cur, a1, a2, a3, a4, a5, a6⟩
  · omega
  · rw [ha] at a1; cases a1
    refine ⟨a3.wr (by omega), ⟨by unfold u8s; simp; omega, R.2.1, .inr ⟨g, _, ha, a2, a3.set (v := .int .u64 v), a4, by rw [List.length_set]; exact a5, ?_⟩⟩, by rw [setH_size]; exact Nat.le_refl _, fun j _ hs => setH_other fun e => hs (by dsimp only at e; rw [e]; simp [Slc.blk, ha])⟩
    unfold u8s at a6 ⊢
    rw [List.take_set, a6, ← List.map_set]
    simp
theorem Lss_ok {I J : Int} {k : Bool → Heap → Prop} (R : U64 B h s d) (hI : 0 ≤ I ∧ I < d.size) (hJ : 0 ≤ J ∧ J < d.size) (H : k (ltInt d[I.toNat]! d[J.toNat]!) h) :
    ∃ a1 : Addr, s.a = some a1 ∧ (0 : Int) ≤ I ∧ I < (s.len : Int) ∧ (∃ v2 : Int, cellH h (a1.add (I.toNat * 1)) = some (.int .u64 v2) ∧ (∃ a3 : Addr, s.a = some a3 ∧ (0 : Int) ≤ J ∧ J < (s.len : Int) ∧ (∃ v4 : Int, cellH h (a3.add (J.toNat * 1)) = some (.int .u64 v4) ∧ (cmp_Less_uint64 v2 v4 (fun r h2 => k r h2) h)))) := by
  have sl := R.len
  obtain ⟨g, ha, c1⟩ := R.ld (i := I.toNat) (by omega)
  obtain ⟨g2, ha2, c2⟩ := R.ld (i := J.toNat) (by omega)
  rw [ha] at ha2; cases ha2
  refine ⟨_, ha, hI.1, by omega, _, by rw [add_mk, Nat.zero_add, Nat.mul_one]; exact c1, _, ha, hJ.1, by omega, _, by rw [add_mk, Nat.zero_add, Nat.mul_one]; exact c2, ?_⟩
  unfold cmp_Less_uint64 cmp_isNaN_uint64
  show (if (d[I.toNat]! != d[I.toNat]!) = true then _ else _)
  rw [if_neg (by simp)]
  unfold cmp_Less_uint64_g1
  rw [Bool.false_or]
  exact H
theorem swp_size' {d : Array Int} {i j : Nat} : (swp d i j).size = d.size := by unfold swp; simp
theorem Swp_ok {I J : Int} {k : Heap → Prop} (R : U64 B h s d) (hI : 0 ≤ I ∧ I < d.size) (hJ : 0 ≤ J ∧ J < d.size) (H : ∀ h', U64 B h' s (swp d J.toNat I.toNat) → Onl s h h' → k h') :
    ∃ a2 : Addr, s.a = some a2 ∧ (0 : Int) ≤ I ∧ I < (s.len : Int) ∧ (∃ v3 : Int, cellH h (a2.add (I.toNat * 1)) = some (.int .u64 v3) ∧ (∃ a4 : Addr, s.a = some a4 ∧ (0 : Int) ≤ J ∧ J < (s.len : Int) ∧ (∃ v5 : Int, cellH h (a4.add (J.toNat * 1)) = some (.int .u64 v5) ∧ (∃ a6 : Addr, s.a = some a6 ∧ (0 : Int) ≤ J ∧ J < (s.len : Int) ∧ (∃ h7 : Heap, WrH h (a6.add (J.toNat * 1)) ∧ h7 = setH h (a6.add (J.toNat * 1)) (.int .u64 v3) ∧ (∃ a8 : Addr, s.a = some a8 ∧ (0 : Int) ≤ I ∧ I < (s.len : Int) ∧ (∃ h9 : Heap, WrH h7 (a8.add (I.toNat * 1)) ∧ h9 = setH h7 (a8.add (I.toNat * 1)) (.int .u64 v5) ∧ k h9))))))) := by
  have sl := R.len
  obtain ⟨g, ha, c1⟩ := R.ld (i := I.toNat) (by omega)
  obtain ⟨g2, ha2, c2⟩ := R.ld (i := J.toNat) (by omega)
  rw [ha] at ha2; cases ha2
  have e : ∀ n, (⟨g, 0, none⟩ : Addr).add (n * 1) = ⟨g, n, none⟩ := fun n => by rw [add_mk, Nat.zero_add, Nat.mul_one]
  obtain ⟨w1, R1, O1⟩ := R.st (i := J.toNat) (by omega) ha d[I.toNat]!
  obtain ⟨w2, R2, O2⟩ := R1.st (i := I.toNat) (by rw [Array.size_setIfInBounds]; omega) ha d[J.toNat]!
  refine ⟨_, ha, hI.1, by omega, _, by rw [e]; exact c1, _, ha, hJ.1, by omega, _, by rw [e]; exact c2, _, ha, hJ.1, by omega, _, by rw [e]; exact w1, rfl, _, ha, hI.1, by omega, _, by rw [e, e]; exact w2, rfl, ?_⟩
  rw [e, e]
  exact H _ R2 (O1.trans O2)
/-! ### the sort by insertion -/
theorem insInner_stop {lt : Int → Int → Bool} {a : Nat} : ∀ {j : Nat} {d : Array Int}, j ≤ a → insInner lt a j d = d
  | 0, d, _ => rfl
  | j + 1, d, h => by
    unfold insInner
    rw [if_neg (by simp; omega)]
theorem Ins_ok {a b : Nat} {k : Unit → Heap → Prop} (R : U64 B h s d) (ab : a ≤ b) (hb : b ≤ d.size) (hz : d.size ≤ 1000000) (H : ∀ h', U64 B h' s (insertionSort ltInt d a b) → Onl s h h' → k () h') : slices_insertionSortOrdered_uint64 s a b k h := by
  unfold slices_insertionSortOrdered_uint64
  rw [wrapI64 (by omega) (by omega)]
  refine ⟨_, rfl, ?_⟩
  unfold slices_insertionSortOrdered_uint64_l1
  refine ⟨fun i h' => ∃ d', U64 B h' s d' ∧ (a : Int) + 1 ≤ i ∧ i ≤ d.size + 1 ∧ insOuter ltInt a b i.toNat d' = insertionSort ltInt d a b ∧ d'.size = d.size ∧ Onl s h h', fun i _ => (b - i).toNat, ⟨d, R, by omega, by omega, by rw [show ((a : Int) + 1).toNat = a + 1 from by omega]; rfl, rfl, Onl.refl _ _⟩, ?_⟩
  rintro i h1 ⟨d1, R1, i0, i1, e1, z1, O1⟩
  unfold slices_insertionSortOrdered_uint64_l1b
  by_cases hi : i < b
  · rw [if_pos (decide_eq_true hi)]
    rw [insOuter, if_pos (by omega)] at e1
    unfold slices_insertionSortOrdered_uint64_l2
    refine ⟨fun j h' => ∃ d', U64 B h' s d' ∧ (a : Int) ≤ j ∧ j ≤ i ∧ insOuter ltInt a b (i.toNat + 1) (insInner ltInt a j.toNat d') = insertionSort ltInt d a b ∧ d'.size = d.size ∧ Onl s h h', fun j _ => (j - a).toNat, ⟨d1, R1, by omega, by omega, e1, z1, O1⟩, ?_⟩
    rintro j h2 ⟨d2, R2, j0, j1, e2, z2, O2⟩
    have out : insInner ltInt a j.toNat d2 = d2 → slices_insertionSortOrdered_uint64_j3 s a b i j false k (fun i' h' => (∃ d', U64 B h' s d' ∧ (a : Int) + 1 ≤ i' ∧ i' ≤ d.size + 1 ∧ insOuter ltInt a b i'.toNat d' = insertionSort ltInt d a b ∧ d'.size = d.size ∧ Onl s h h') ∧ (b - i').toNat < (b - i).toNat) (fun j' h' => (∃ d', U64 B h' s d' ∧ (a : Int) ≤ j' ∧ j' ≤ i ∧ insOuter ltInt a b (i.toNat + 1) (insInner ltInt a j'.toNat d') = insertionSort ltInt d a b ∧ d'.size = d.size ∧ Onl s h h') ∧ (j' - a).toNat < (j - a).toNat) h2 := fun e => by
      unfold slices_insertionSortOrdered_uint64_j3
      rw [if_neg (by simp), wrapI64 (by omega) (by omega)]
      rw [e] at e2
      exact ⟨_, rfl, ⟨d2, R2, by omega, by omega, by rw [show (i + 1).toNat = i.toNat + 1 from by omega]; exact e2, z2, O2⟩, by omega⟩
    unfold slices_insertionSortOrdered_uint64_l2b
    by_cases hj : j > a
    · rw [if_pos (decide_eq_true hj), wrapI64 (by omega) (by omega)]
      refine Lss_ok R2 ⟨by omega, by omega⟩ ⟨by omega, by omega⟩ ?_
      have ej : j.toNat = (j - 1).toNat + 1 := by omega
      have eI : insInner ltInt a j.toNat d2 = if ltInt d2[j.toNat]! d2[(j - 1).toNat]! = true then insInner ltInt a (j - 1).toNat (swp d2 j.toNat (j - 1).toNat) else d2 := by
        rw [ej, insInner]
        simp only [Bool.and_eq_true, decide_eq_true_eq]
        by_cases hl : ltInt d2[(j - 1).toNat + 1]! d2[(j - 1).toNat]! = true
        · rw [if_pos ⟨by omega, hl⟩, if_pos hl]
        · rw [if_neg (fun e => hl e.2), if_neg hl]
      cases hl : ltInt d2[j.toNat]! d2[(j - 1).toNat]! with
      | false => exact out (by rw [eI, hl, if_neg (by simp)])
      | true =>
        rw [hl, if_pos rfl] at eI
        unfold slices_insertionSortOrdered_uint64_j3
        rw [if_pos rfl, wrapI64 (by omega) (by omega)]
        refine Swp_ok R2 ⟨by omega, by omega⟩ ⟨by omega, by omega⟩ fun h3 R3 O3 => ?_
        refine ⟨_, rfl, ⟨_, R3, by omega, by omega, by rw [← eI]; exact e2, by rw [swp_size']; exact z2, O2.trans O3⟩, by dsimp only; omega⟩
    · rw [if_neg (by rw [decide_eq_true_eq]; exact hj)]
      exact out (insInner_stop (by omega))
  · rw [if_neg (by rw [decide_eq_true_eq]; exact hi)]
    rw [insOuter, if_neg (by omega)] at e1
    rw [e1] at R1
    exact H h1 R1 O1
end
end Go.Q.Yh
