/- A part of the proof of statements of this seat: lemmas, no statement of their own. -/
import Derived.Test.YtmhadeadjjkkcaaDoorYeSlot
import Derived.Test.YtmhadeadjjkkcaaDoorYeSe
import Derived.Test.YtmhadeadjjkkcaaDoorYeDkB
set_option linter.unusedVariables false
set_option linter.unusedSimpArgs false
set_option maxRecDepth 100000
/- Slot: heads of sectors. -/
namespace Go.Q.Ye
theorem bwOr64 {a b : Nat} (ha : a < 18446744073709551616) (hb : b < 18446744073709551616) : bwOr .u64 a b = ((a ||| b : Nat) : Int) := by
  show IntKind.u64.wrap ((BitVec.ofInt 64 (a : Int) ||| BitVec.ofInt 64 (b : Int)).toNat : Int) = _
  rw [or_nat 64 a b (by omega) (by omega), wU64]
  have := Nat.or_lt_two_pow (n := 64) (x := a) (y := b) (by omega) (by omega)
  omega
theorem slc_get {h : Heap} {s : Slc} {vs : List Value} (S : SlcAt h s vs) {i : Nat} {v : Value} (hv : vs[i]? = some v) : ∃ a, s.a = some a ∧ cellH h (a.add i) = some v := by
  cases ha : s.a with
  | none => have := S.1 ha; subst this; simp at hv
  | some a => exact ⟨a, rfl, S.2 a ha i v hv⟩
theorem or8 {n b : Int} (n0 : 0 ≤ n) (n1 : n < 72057594037927936) (hb : 0 ≤ b ∧ b < 256) : bwOr .u64 (shl .u64 n (8 : Int).toNat) (IntKind.u64.wrap b) = n * 256 + b := by
  have es : shl .u64 n (8 : Int).toNat = n * 256 := by
    unfold shl
    rw [show (2 : Int) ^ (min (8 : Int).toNat IntKind.u64.bits) = 256 from rfl, wU64]; omega
  rw [es, wrapU64 (by omega) (by omega)]
  obtain ⟨a, rfl⟩ : ∃ a : Nat, n = a := ⟨n.toNat, by omega⟩
  obtain ⟨d, rfl⟩ : ∃ d : Nat, b = d := ⟨b.toNat, by omega⟩
  have := or_add (a := a) (b := d) (i := 8) (by omega)
  rw [show ((a : Int) * 256) = ((a * 2 ^ 8 : Nat) : Int) from by simp, bwOr64 (by omega) (by omega), this]
  simp
theorem numL_drop {l : List Int} {i : Nat} {b : Int} (h : l[i]? = some b) : numL (l.drop i) = b + 256 * numL (l.drop (i + 1)) := by
  have hi := (List.getElem?_eq_some_iff.1 h).1
  rw [List.drop_eq_getElem_cons hi]
  have : l[i] = b := (List.getElem?_eq_some_iff.1 h).2
  rw [this]; rfl
theorem shr64_8 (n : Int) : shr .u64 n (8 : Int).toNat = n / 256 := by
  unfold shr
  rw [show (2 : Int) ^ (min (8 : Int).toNat IntKind.u64.bits) = 256 from rfl, Int.fdiv_eq_ediv_of_nonneg _ (by omega)]
theorem AppB {B : Nat} {h : Heap} {s : Slc} {l m : List Int} {n : Nat} {k : Slc → Heap → Prop} (R : Row B h 5 1 s (b8 l)) (hB : B ≤ h.size) (hn : n = m.length) (hl : l.length + m.length ≤ 70368744177664)
    (H : ∀ s' h', Row B h' 5 1 s' (b8 (l ++ m)) → Ext B h h' → k s' h') : App 5 1 1 [.int .u8 0] h s n (b8 m) k := by
  subst hn
  have := R.len
  simp at this
  refine App.row R hB rfl (by simp) (b8_one m) (by omega) (by simp only [maxLen]; omega) fun s' h' R' _ hz ho _ => H s' h' ?_ ⟨hz, fun i hi => ho i (by omega) fun e => by have := (R.bd e).1; omega⟩
  simpa using R'
theorem Row.pb {B : Nat} {h : Heap} {s : Slc} {l : List Int} (R : Row B h 5 1 s (b8 l)) : s.len = l.length := by have := R.len; simpa using this
theorem Clone_ok {p0 : Slc} {l : List Int} {k : Slc → Heap → Prop} {h : Heap} (hl : p0.len = l.length) (hs : SlcAt h p0 (b8 l)) (hsz : l.length ≤ 70368744177664)
    (H : ∀ s' h', Row h.size h' 5 1 s' (b8 l) → Ext h.size h h' → k s' h') : slices_Clone_byte_byte p0 k h := by
  unfold slices_Clone_byte_byte
  cases ha : p0.a with
  | none =>
    rw [if_pos (by simp)]
    have hn : l = [] := by have := hs.1 ha; simpa using this
    subst hn
    exact H _ _ (Row.nil _ _ _ _) (Ext.refl _ _)
  | some a =>
    rw [if_neg (by simp)]
    have hp : ∀ o : Obj, Ext h.size h (h.push o) := fun o => Ext.push h o (Nat.le_refl _)
    refine ⟨_, _, rfl, rfl, b8 l, hs.ext (hp _), ?_⟩
    have R : Row h.size (h.push (.cells ([] : List Value).toArray 5)) 5 1 ⟨some ⟨h.size, 0, none⟩, 0, 0⟩ [] :=
      ⟨by simp, by simp [maxLen], .inr ⟨h.size, [], rfl, Nat.le_refl _, Blk.push _ _ _, Nat.le_refl _, by simp, by simp⟩⟩
    refine App.row R (by simp) rfl (by simp [hl]) (b8_one l) (by simp only; omega) (by simp only [maxLen]; omega) fun s' h' R' _ hsz' ho _ => ?_
    refine H s' h' (by simpa using R') ⟨by simp at hsz'; omega, fun i hi => ?_⟩
    rw [ho i (by simp; omega) (by simp [Slc.blk]; omega), (hp _).block i hi]
/-- what a function that lays bytes behind bytes does -/
abbrev Lays' (h : Heap) (out : List Int) (k : Slc → Heap → Prop) : Prop := ∀ s' h', Row h.size h' 5 1 s' (b8 out) → Ext h.size h h' → k s' h'
theorem BClone_ok {p0 : Slc} {l : List Int} {k : Slc → Heap → Prop} {h : Heap} (hl : p0.len = l.length) (hs : SlcAt h p0 (b8 l)) (hsz : l.length ≤ 70368744177664)
    (H : ∀ s' h', Row h.size h' 5 1 s' (b8 l) → Ext h.size h h' → k s' h') : bytes_Clone p0 k h := by
  unfold bytes_Clone
  cases ha : p0.a with
  | none =>
    rw [if_pos (by simp)]
    have hn : l = [] := by have := hs.1 ha; simpa using this
    subst hn
    exact H _ _ (Row.nil _ _ _ _) (Ext.refl _ _)
  | some a =>
    rw [if_neg (by simp)]
    have hp : ∀ o : Obj, Ext h.size h (h.push o) := fun o => Ext.push h o (Nat.le_refl _)
    refine ⟨_, _, rfl, rfl, b8 l, hs.ext (hp _), ?_⟩
    have R : Row h.size (h.push (.cells ([] : List Value).toArray 5)) 5 1 ⟨some ⟨h.size, 0, none⟩, 0, 0⟩ [] :=
      ⟨by simp, by simp [maxLen], .inr ⟨h.size, [], rfl, Nat.le_refl _, Blk.push _ _ _, Nat.le_refl _, by simp, by simp⟩⟩
    refine App.row R (by simp) rfl (by simp [hl]) (b8_one l) (by simp only; omega) (by simp only [maxLen]; omega) fun s' h' R' _ hsz' ho _ => ?_
    refine H s' h' (by simpa using R') ⟨by simp at hsz'; omega, fun i hi => ?_⟩
    rw [ho i (by simp; omega) (by simp [Slc.blk]; omega), (hp _).block i hi]
theorem Put_ok {p0 : Slc} {l : List Int} {n w : Int} {k : Slc → Heap → Prop} {h : Heap} (hl : p0.len = l.length) (hs : SlcAt h p0 (b8 l)) (hsz : l.length ≤ 35184372088832) (w0 : 0 ≤ w) (w1 : w ≤ 8) (n0 : 0 ≤ n)
    (H : Lays' h (l ++ formL n w.toNat) k) : num_Put p0 n w k h := by
  unfold num_Put
  refine Clone_ok hl hs (by omega) fun s1 h1 R1 X1 => ?_
  rw [if_neg (by simp; omega)]
  refine ⟨fun q h' => ∃ (cur : List Int), Row h.size h' 5 1 q.2.1 (b8 cur) ∧ cur ++ formL q.1 (w - q.2.2).toNat = l ++ formL n w.toNat ∧ 0 ≤ q.1 ∧ 0 ≤ q.2.2 ∧ q.2.2 ≤ w ∧ cur.length ≤ l.length + 8 ∧ Ext h.size h h', fun q _ => (w - q.2.2).toNat, ⟨l, R1, by simp, n0, by simp, by simpa using w0, by omega, X1⟩, ?_⟩
  rintro m s i h2 ⟨cur, R, hc, m0, i0, i1, lc, X⟩
  dsimp only at R hc m0 i0 i1
  have z := X.size
  have lc2 : cur.length + (w - i).toNat = l.length + w.toNat := by have := congrArg List.length hc; simpa [formL_length] using this
  unfold num_Put_l1b
  by_cases hi : i < w
  · rw [if_pos (by simpa using hi), wU8, shr64_8, wrapI64 (by omega) (by omega)]
    refine ⟨_, _, rfl, rfl, ?_⟩
    refine AppB (m := [m % 256]) (R.pushed _) (by simp; omega) rfl (by simp; omega) fun s' h3 R3 X3 => ?_
    refine ⟨_, rfl, ⟨_, R3, ?_, by dsimp only; omega, by dsimp only; omega, by dsimp only; omega, by simp; omega, X.trans ((Ext.push h2 _ z).trans X3)⟩, by dsimp only; omega⟩
    dsimp only
    rw [← hc, show (w - i).toNat = (w - (i + 1)).toNat + 1 from by omega]
    simp [formL]
  · rw [if_neg (by simpa using hi)]
    have : (w - i).toNat = 0 := by omega
    rw [this] at hc
    simp [formL] at hc
    rw [hc] at R
    exact H s h2 R X
theorem nGet_ok {s : Slc} {l : List Int} {w : Int} {k : Int × Int → Heap → Prop} {h : Heap} {l' : List Int} (hs : SlcAt h s (b8 l')) (hl : s.len = l'.length) (el : l = l'.take w.toNat) (hB : isB l) (w0 : 1 ≤ w) (w1 : w ≤ 8) (hw : l.length = w.toNat) (H : k (numL l, 0) h) : num_Get s w k h := by
  have hw' : w.toNat ≤ l'.length := by rw [el, List.length_take] at hw; omega
  unfold num_Get
  rw [if_neg (by simp only [Bool.or_eq_true, decide_eq_true_eq]; omega), if_neg (by rw [decide_eq_true_eq]; omega), wrapI64 (by omega) (by omega)]
  refine ⟨_, rfl, fun q h' => -1 ≤ q.2 ∧ q.2 ≤ w - 1 ∧ q.1 = numL (l.drop (q.2 + 1).toNat) ∧ h' = h, fun q _ => (q.2 + 1).toNat, ⟨by dsimp only; omega, by dsimp only; omega, ?_, rfl⟩, ?_⟩
  · dsimp only
    rw [show (w - 1 + 1).toNat = l.length from by omega, List.drop_length]; rfl
  rintro n i h' ⟨i0, i1, hn, hh⟩
  dsimp only at i0 i1 hn
  subst hh
  unfold num_Get_l1b
  by_cases hi : i ≥ 0
  · rw [if_pos (by simpa using hi)]
    have hb : l[i.toNat]? = some (l[i.toNat]'(by omega)) := by simp
    have bb := hB _ (List.mem_of_getElem? hb)
    generalize l[i.toNat]'(by omega) = b at *
    have hb2 : l'[i.toNat]? = some b := by rw [el, List.getElem?_take, if_pos (by omega)] at hb; exact hb
    obtain ⟨a, ha, hv⟩ := slc_get hs (i := i.toNat) (v := .int .u8 b) (by rw [List.getElem?_map, hb2]; rfl)
    have bd := numL_bd (l := l.drop (i + 1).toNat) fun x hx => hB x (List.mem_of_mem_drop hx)
    have lim : (256 : Int) ^ (l.drop (i + 1).toNat).length ≤ 256 ^ 7 := pow_mono (by rw [List.length_drop]; omega)
    have lim2 : (256 : Int) ^ 7 = 72057594037927936 := by decide
    refine ⟨a, ha, hi, by omega, b, by rw [Nat.mul_one]; exact hv, _, rfl, _, rfl, ?_⟩
    rw [hn, or8 bd.1 (by omega) bb, wrapI64 (by omega) (by omega)]
    refine ⟨⟨by dsimp only; omega, by dsimp only; omega, ?_, rfl⟩, by dsimp only; omega⟩
    dsimp only
    rw [show (i - 1 + 1).toNat = i.toNat from by omega, numL_drop hb, show (i + 1).toNat = i.toNat + 1 from by omega]
    omega
  · rw [if_neg (by simpa using hi)]
    rw [show (i + 1).toNat = 0 from by omega, List.drop_zero] at hn
    rw [hn]; exact H
theorem isB_drop {l : List Int} (h : isB l) (n : Nat) : isB (l.drop n) := fun b hb => h b (List.mem_of_mem_drop hb)
theorem isB_take {l : List Int} (h : isB l) (n : Nat) : isB (l.take n) := fun b hb => h b (List.mem_of_mem_take hb)
/-- a number in a sector -/
def fld (b : List Int) (at' w : Nat) : Int := numL ((b.drop at').take w)
theorem fld_bd {b : List Int} (hB : isB b) (at' w : Nat) : 0 ≤ fld b at' w ∧ fld b at' w < 256 ^ w := by
  have := numL_bd (isB_take (isB_drop hB at') w)
  have h2 : (256 : Int) ^ ((b.drop at').take w).length ≤ 256 ^ w := by
    have hl : ((b.drop at').take w).length ≤ w := List.length_take_le _ _
    exact pow_mono hl
  unfold fld; omega
theorem at_ok {s : Slc} {b : List Int} {h : Heap} {at' w : Nat} {k : Int × Int → Heap → Prop} (hs : SlcAt h s (b8 b)) (hl : s.len = b.length) (lb : b.length = 128) (lc : s.len ≤ s.cap) (hB : isB b) (w0 : 1 ≤ w) (w1 : w ≤ 8) (hw : at' + w ≤ 100) (a0 : 0 < at') (H : k (fld b at' w, 0) h) :
    num_Get (subS s 1 at' s.len s.cap) w k h := by
  have S := SlcAt.sub (w := 1) (l := at') (u := s.len) (m := s.cap) hs (by omega) (by omega)
  rw [Nat.mul_one, Nat.mul_one, ← List.map_drop, ← List.map_take] at S
  have e : (b.drop at').take (s.len - at') = b.drop at' := List.take_of_length_le (by rw [List.length_drop]; omega)
  rw [e] at S
  refine nGet_ok (l' := b.drop at') (l := (b.drop at').take w) S (by rw [List.length_drop]; show s.len - at' = _; omega) (by rw [Int.toNat_natCast]) (isB_take (isB_drop hB _) _) (by omega) (by omega) (by rw [List.length_take, List.length_drop]; omega) H
def hdD (b : List Int) : S_slot_head := ⟨fld b 0 8, fld b 8 2, fld b 10 2, fld b 12 4, fld b 16 8⟩
theorem field_ok {s : Slc} {b : List Int} {h : Heap} {at' w : Nat} {k : Int → Heap → Prop} (hs : SlcAt h s (b8 b)) (hl : s.len = b.length) (lb : b.length = 128) (lc : s.len ≤ s.cap) (hB : isB b) (w0 : 1 ≤ w) (w1 : w ≤ 4) (hw : at' + w ≤ 100) (a0 : 0 < at') (H : k (fld b at' w) h) : slot_field s at' w k h := by
  unfold slot_field
  refine ⟨_, by omega, by omega, by omega, by omega, rfl, ?_⟩
  simp only [Int.toNat_natCast]
  refine at_ok (at' := at') hs hl lb lc hB w0 (by omega) hw a0 ⟨_, rfl, ?_⟩
  have bd := fld_bd hB at' w
  have h2 : (256 : Int) ^ w ≤ 256 ^ 4 := pow_mono w1
  rw [show (256 : Int) ^ 4 = 4294967296 from by decide] at h2
  rw [wrapI64 (by omega) (by omega)]
  exact H
theorem headOf_ok {s : Slc} {b : List Int} {h : Heap} {k : S_slot_head → Heap → Prop} (hs : SlcAt h s (b8 b)) (hl : s.len = b.length) (lb : b.length = 128) (lc : s.len ≤ s.cap) (hB : isB b) (H : ∀ h', Ext h.size h h' → k (hdD b) h') : slot_headOf s k h := by
  unfold slot_headOf
  refine ⟨_, _, rfl, rfl, ?_⟩
  have P := Blk.push h (S_slot_head.cs ⟨0, 0, 0, 0, 0⟩) 73
  have W := Ext.push h (.cells (S_slot_head.cs ⟨0, 0, 0, 0, 0⟩).toArray 73) (Nat.le_refl _)
  generalize h.push (.cells (S_slot_head.cs ⟨0, 0, 0, 0, 0⟩).toArray 73) = h2 at *
  have S := hs.ext W
  refine nGet_ok (w := 8) (l' := b) (l := b.take 8) S hl rfl (isB_take hB _) (by omega) (by omega) (by rw [List.length_take, lb]; rfl) ?_
  refine ⟨_, by omega, by omega, by omega, by omega, rfl, ?_⟩
  refine at_ok (at' := 16) (w := 8) S hl lb lc hB (by omega) (by omega) (by omega) (by omega) ?_
  refine field_ok (at' := 8) (w := 2) S hl lb lc hB (by omega) (by omega) (by omega) (by omega) ?_
  refine field_ok (at' := 10) (w := 2) S hl lb lc hB (by omega) (by omega) (by omega) (by omega) ?_
  refine field_ok (at' := 12) (w := 4) S hl lb lc hB (by omega) (by omega) (by omega) (by omega) ?_
  refine ⟨_, WrsAt.of_blk P (by show 5 ≤ 5; omega), rfl, hdD b, CellsAt.of_blk (P.sets_all rfl), H _ (W.trans (Ext.sets _ _ _ (Nat.le_refl _)))⟩
end Go.Q.Ye
