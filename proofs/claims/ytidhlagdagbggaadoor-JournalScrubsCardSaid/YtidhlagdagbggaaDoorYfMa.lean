/- A part of the proof of statements of this seat: lemmas, no statement of their own. -/
import Derived.Test.YtidhlagdagbggaaDoorYfSlot
import Derived.Test.YtidhlagdagbggaaDoorYfSe
import Derived.Test.YtidhlagdagbggaaDoorYfDkB
import Derived.Test.YtidhlagdagbggaaDoorYfW0
set_option linter.unusedVariables false
set_option linter.unusedSimpArgs false
set_option maxRecDepth 100000
/- Slot: heads of sectors. -/
namespace Go.Q.Yf
theorem bwOr64 {a b : Nat} (ha : a < 18446744073709551616) (hb : b < 18446744073709551616) : bwOr .u64 a b = ((a ||| b : Nat) : Int) := by
  show IntKind.u64.wrap ((BitVec.ofInt 64 (a : Int) ||| BitVec.ofInt 64 (b : Int)).toNat : Int) = _
  rw [or_nat 64 a b (by omega) (by omega), wU64]
  have := Nat.or_lt_two_pow (n := 64) (x := a) (y := b) (by omega) (by omega)
  omega
theorem slc_get {h : Heap} {s : Slc} {vs : List Value} (S : SlcAt h s vs) {i : Nat} {v : Value} (hv : vs[i]? = some v) : ∃ a, s.a = some a ∧ cellH h (a.add i) = some v := by
  cases ha : s.a with
  | none => have := S.1 ha; subst this; simp at hv
  | some a => exact ⟨a, rfl, S.2 a ha i v hv⟩
theorem or8 {n b : Int} (n0 : 0 ≤ n) (n1 : n < 72057594037927936) (hb : 0 ≤ b ∧ b < 256) : bwOr .u64 (shl .u64 n (8 : Int).toNat) (IntKind.u64.wrap b) = n * 256 + b := by
  have es : shl .u64 n (8 : Int).toNat = n * 256 := by
    unfold shl
    rw [show (2 : Int) ^ (min (8 : Int).toNat IntKind.u64.bits) = 256 from rfl, wU64]; omega
  rw [es, wrapU64 (by omega) (by omega)]
  obtain ⟨a, rfl⟩ : ∃ a : Nat, n = a := ⟨n.toNat, by omega⟩
  obtain ⟨d, rfl⟩ : ∃ d : Nat, b = d := ⟨b.toNat, by omega⟩
  have := or_add (a := a) (b := d) (i := 8) (by omega)
  rw [show ((a : Int) * 256) = ((a * 2 ^ 8 : Nat) : Int) from by simp, bwOr64 (by omega) (by omega), this]
  simp
theorem numL_drop {l : List Int} {i : Nat} {b : Int} (h : l[i]? = some b) : numL (l.drop i) = b + 256 * numL (l.drop (i + 1)) := by
  have hi := (List.getElem?_eq_some_iff.1 h).1
  rw [List.drop_eq_getElem_cons hi]
  have : l[i] = b := (List.getElem?_eq_some_iff.1 h).2
  rw [this]; rfl
theorem shr64_8 (n : Int) : shr .u64 n (8 : Int).toNat = n / 256 := by
  unfold shr
  rw [show (2 : Int) ^ (min (8 : Int).toNat IntKind.u64.bits) = 256 from rfl, Int.fdiv_eq_ediv_of_nonneg _ (by omega)]
theorem AppB {B : Nat} {h : Heap} {s : Slc} {l m : List Int} {n : Nat} {k : Slc → Heap → Prop} (R : Row B h 5 1 s (b8 l)) (hB : B ≤ h.size) (hn : n = m.length) (hl : l.length + m.length ≤ 70368744177664)
    (H : ∀ s' h', Row B h' 5 1 s' (b8 (l ++ m)) → Ext B h h' → k s' h') : App 5 1 1 [.int .u8 0] h s n (b8 m) k := by
  subst hn
  have := R.len
  simp at this
  refine App.row R hB rfl (by simp) (b8_one m) (by omega) (by simp only [maxLen]; omega) fun s' h' R' _ hz ho _ => H s' h' ?_ ⟨hz, fun i hi => ho i (by omega) fun e => by have := (R.bd e).1; omega⟩
  simpa using R'
theorem Row.pb {B : Nat} {h : Heap} {s : Slc} {l : List Int} (R : Row B h 5 1 s (b8 l)) : s.len = l.length := by have := R.len; simpa using this
theorem Clone_ok {p0 : Slc} {l : List Int} {k : Slc → Heap → Prop} {h : Heap} (hl : p0.len = l.length) (hs : SlcAt h p0 (b8 l)) (hsz : l.length ≤ 70368744177664)
    (H : ∀ s' h', Row h.size h' 5 1 s' (b8 l) → Ext h.size h h' → k s' h') : slices_Clone_byte_byte p0 k h := by
  unfold slices_Clone_byte_byte
  cases ha : p0.a with
  | none =>
    rw [if_pos (by simp)]
    have hn : l = [] := by have := hs.1 ha; simpa using this
    subst hn
    exact H _ _ (Row.nil _ _ _ _) (Ext.refl _ _)
  | some a =>
    rw [if_neg (by simp)]
    have hp : ∀ o : Obj, Ext h.size h (h.push o) := fun o => Ext.push h o (Nat.le_refl _)
    refine ⟨_, _, rfl, rfl, b8 l, hs.ext (hp _), ?_⟩
    have R : Row h.size (h.push (.cells ([] : List Value).toArray 5)) 5 1 ⟨some ⟨h.size, 0, none⟩, 0, 0⟩ [] :=
      ⟨by simp, by simp [maxLen], .inr ⟨h.size, [], rfl, Nat.le_refl _, Blk.push _ _ _, Nat.le_refl _, by simp, by simp⟩⟩
    refine App.row R (by simp) rfl (by simp [hl]) (b8_one l) (by simp only; omega) (by simp only [maxLen]; omega) fun s' h' R' _ hsz' ho _ => ?_
    refine H s' h' (by simpa using R') ⟨by simp at hsz'; omega, fun i hi => ?_⟩
    rw [ho i (by simp; omega) (by simp [Slc.blk]; omega), (hp _).block i hi]
/-- what a function that lays bytes behind bytes does -/
abbrev Lays' (h : Heap) (out : List Int) (k : Slc → Heap → Prop) : Prop := ∀ s' h', Row h.size h' 5 1 s' (b8 out) → Ext h.size h h' → k s' h'
theorem BClone_ok {p0 : Slc} {l : List Int} {k : Slc → Heap → Prop} {h : Heap} (hl : p0.len = l.length) (hs : SlcAt h p0 (b8 l)) (hsz : l.length ≤ 70368744177664)
    (H : ∀ s' h', Row h.size h' 5 1 s' (b8 l) → Ext h.size h h' → k s' h') : bytes_Clone p0 k h := by
  unfold bytes_Clone
  cases ha : p0.a with
  | none =>
    rw [if_pos (by simp)]
    have hn : l = [] := by have := hs.1 ha; simpa using this
    subst hn
    exact H _ _ (Row.nil _ _ _ _) (Ext.refl _ _)
  | some a =>
    rw [if_neg (by simp)]
    have hp : ∀ o : Obj, Ext h.size h (h.push o) := fun o => Ext.push h o (Nat.le_refl _)
    refine ⟨_, _, rfl, rfl, b8 l, hs.ext (hp _), ?_⟩
    have R : Row h.size (h.push (.cells ([] : List Value).toArray 5)) 5 1 ⟨some ⟨h.size, 0, none⟩, 0, 0⟩ [] :=
      ⟨by simp, by simp [maxLen], .inr ⟨h.size, [], rfl, Nat.le_refl _, Blk.push _ _ _, Nat.le_refl _, by simp, by simp⟩⟩
    refine App.row R (by simp) rfl (by simp [hl]) (b8_one l) (by simp only; omega) (by simp only [maxLen]; omega) fun s' h' R' _ hsz' ho _ => ?_
    refine H s' h' (by simpa using R') ⟨by simp at hsz'; omega, fun i hi => ?_⟩
    rw [ho i (by simp; omega) (by simp [Slc.blk]; omega), (hp _).block i hi]
theorem Put_ok {p0 : Slc} {l : List Int} {n w : Int} {k : Slc → Heap → Prop} {h : Heap} (hl : p0.len = l.length) (hs : SlcAt h p0 (b8 l)) (hsz : l.length ≤ 35184372088832) (w0 : 0 ≤ w) (w1 : w ≤ 8) (n0 : 0 ≤ n)
    (H : Lays' h (l ++ formL n w.toNat) k) : num_Put p0 n w k h := by
  unfold num_Put
  refine Clone_ok hl hs (by omega) fun s1 h1 R1 X1 => ?_
  rw [if_neg (by simp; omega)]
  refine ⟨fun q h' => ∃ (cur : List Int), Row h.size h' 5 1 q.2.1 (b8 cur) ∧ cur ++ formL q.1 (w - q.2.2).toNat = l ++ formL n w.toNat ∧ 0 ≤ q.1 ∧ 0 ≤ q.2.2 ∧ q.2.2 ≤ w ∧ cur.length ≤ l.length + 8 ∧ Ext h.size h h', fun q _ => (w - q.2.2).toNat, ⟨l, R1, by simp, n0, by simp, by simpa using w0, by omega, X1⟩, ?_⟩
  rintro m s i h2 ⟨cur, R, hc, m0, i0, i1, lc, X⟩
  dsimp only at R hc m0 i0 i1
  have z := X.size
  have lc2 : cur.length + (w - i).toNat = l.length + w.toNat := by have := congrArg List.length hc; simpa [formL_length] using this
  unfold num_Put_l1b
  by_cases hi : i < w
  · rw [if_pos (by simpa using hi), wU8, shr64_8, wrapI64 (by omega) (by omega)]
    refine ⟨_, _, rfl, rfl, ?_⟩
    refine AppB (m := [m % 256]) (R.pushed _) (by simp; omega) rfl (by simp; omega) fun s' h3 R3 X3 => ?_
    refine ⟨_, rfl, ⟨_, R3, ?_, by dsimp only; omega, by dsimp only; omega, by dsimp only; omega, by simp; omega, X.trans ((Ext.push h2 _ z).trans X3)⟩, by dsimp only; omega⟩
    dsimp only
    rw [← hc, show (w - i).toNat = (w - (i + 1)).toNat + 1 from by omega]
    simp [formL]
  · rw [if_neg (by simpa using hi)]
    have : (w - i).toNat = 0 := by omega
    rw [this] at hc
    simp [formL] at hc
    rw [hc] at R
    exact H s h2 R X
theorem nGet_ok {s : Slc} {l : List Int} {w : Int} {k : Int × Int → Heap → Prop} {h : Heap} {l' : List Int} (hs : SlcAt h s (b8 l')) (hl : s.len = l'.length) (el : l = l'.take w.toNat) (hB : isB l) (w0 : 1 ≤ w) (w1 : w ≤ 8) (hw : l.length = w.toNat) (H : k (numL l, 0) h) : num_Get s w k h := by
  have hw' : w.toNat ≤ l'.length := by rw [el, List.length_take] at hw; omega
  unfold num_Get
  rw [if_neg (by simp only [Bool.or_eq_true, decide_eq_true_eq]; omega), if_neg (by rw [decide_eq_true_eq]; omega), wrapI64 (by omega) (by omega)]
  refine ⟨_, rfl, fun q h' => -1 ≤ q.2 ∧ q.2 ≤ w - 1 ∧ q.1 = numL (l.drop (q.2 + 1).toNat) ∧ h' = h, fun q _ => (q.2 + 1).toNat, ⟨by dsimp only; omega, by dsimp only; omega, ?_, rfl⟩, ?_⟩
  · dsimp only
    rw [show (w - 1 + 1).toNat = l.length from by omega, List.drop_length]; rfl
  rintro n i h' ⟨i0, i1, hn, hh⟩
  dsimp only at i0 i1 hn
  subst hh
  unfold num_Get_l1b
  by_cases hi : i ≥ 0
  · rw [if_pos (by simpa using hi)]
    have hb : l[i.toNat]? = some (l[i.toNat]'(by omega)) := by simp
    have bb := hB _ (List.mem_of_getElem? hb)
    generalize l[i.toNat]'(by omega) = b at *
    have hb2 : l'[i.toNat]? = some b := by rw [el, List.getElem?_take, if_pos (by omega)] at hb; exact hb
    obtain ⟨a, ha, hv⟩ := slc_get hs (i := i.toNat) (v := .int .u8 b) (by rw [List.getElem?_map, hb2]; rfl)
    have bd := numL_bd (l := l.drop (i + 1).toNat) fun x hx => hB x (List.mem_of_mem_drop hx)
    have lim : (256 : Int) ^ (l.drop (i + 1).toNat).length ≤ 256 ^ 7 := pow_mono (by rw [List.length_drop]; omega)
    have lim2 : (256 : Int) ^ 7 = 72057594037927936 := by decide
    refine ⟨a, ha, hi, by omega, b, by rw [Nat.mul_one]; exact hv, _, rfl, _, rfl, ?_⟩
    rw [hn, or8 bd.1 (by omega) bb, wrapI64 (by omega) (by omega)]
    refine ⟨⟨by dsimp only; omega, by dsimp only; omega, ?_, rfl⟩, by dsimp only; omega⟩
    dsimp only
    rw [show (i - 1 + 1).toNat = i.toNat from by omega, numL_drop hb, show (i + 1).toNat = i.toNat + 1 from by omega]
    omega
  · rw [if_neg (by simpa using hi)]
    rw [show (i + 1).toNat = 0 from by omega, List.drop_zero] at hn
    rw [hn]; exact H
theorem isB_drop {l : List Int} (h : isB l) (n : Nat) : isB (l.drop n) := fun b hb => h b (List.mem_of_mem_drop hb)
theorem isB_take {l : List Int} (h : isB l) (n : Nat) : isB (l.take n) := fun b hb => h b (List.mem_of_mem_take hb)
/-- a number in a sector -/
def fld (b : List Int) (at' w : Nat) : Int := numL ((b.drop at').take w)
theorem fld_bd {b : List Int} (hB : isB b) (at' w : Nat) : 0 ≤ fld b at' w ∧ fld b at' w < 256 ^ w := by
  have := numL_bd (isB_take (isB_drop hB at') w)
  have h2 : (256 : Int) ^ ((b.drop at').take w).length ≤ 256 ^ w := by
    have hl : ((b.drop at').take w).length ≤ w := List.length_take_le _ _
    exact pow_mono hl
  unfold fld; omega
theorem at_ok {s : Slc} {b : List Int} {h : Heap} {at' w : Nat} {k : Int × Int → Heap → Prop} (hs : SlcAt h s (b8 b)) (hl : s.len = b.length) (lb : b.length = 128) (lc : s.len ≤ s.cap) (hB : isB b) (w0 : 1 ≤ w) (w1 : w ≤ 8) (hw : at' + w ≤ 100) (a0 : 0 < at') (H : k (fld b at' w, 0) h) :
    num_Get (subS s 1 at' s.len s.cap) w k h := by
  have S := SlcAt.sub (w := 1) (l := at') (u := s.len) (m := s.cap) hs (by omega) (by omega)
  rw [Nat.mul_one, Nat.mul_one, ← List.map_drop, ← List.map_take] at S
  have e : (b.drop at').take (s.len - at') = b.drop at' := List.take_of_length_le (by rw [List.length_drop]; omega)
  rw [e] at S
  refine nGet_ok (l' := b.drop at') (l := (b.drop at').take w) S (by rw [List.length_drop]; show s.len - at' = _; omega) (by rw [Int.toNat_natCast]) (isB_take (isB_drop hB _) _) (by omega) (by omega) (by rw [List.length_take, List.length_drop]; omega) H
def hdD (b : List Int) : S_slot_head := ⟨fld b 0 8, fld b 8 2, fld b 10 2, fld b 12 4, fld b 16 8⟩
theorem field_ok {s : Slc} {b : List Int} {h : Heap} {at' w : Nat} {k : Int → Heap → Prop} (hs : SlcAt h s (b8 b)) (hl : s.len = b.length) (lb : b.length = 128) (lc : s.len ≤ s.cap) (hB : isB b) (w0 : 1 ≤ w) (w1 : w ≤ 4) (hw : at' + w ≤ 100) (a0 : 0 < at') (H : k (fld b at' w) h) : slot_field s at' w k h := by
  unfold slot_field
  refine ⟨_, by omega, by omega, by omega, by omega, rfl, ?_⟩
  simp only [Int.toNat_natCast]
  refine at_ok (at' := at') hs hl lb lc hB w0 (by omega) hw a0 ⟨_, rfl, ?_⟩
  have bd := fld_bd hB at' w
  have h2 : (256 : Int) ^ w ≤ 256 ^ 4 := pow_mono w1
  rw [show (256 : Int) ^ 4 = 4294967296 from by decide] at h2
  rw [wrapI64 (by omega) (by omega)]
  exact H
theorem headOf_ok {s : Slc} {b : List Int} {h : Heap} {k : S_slot_head → Heap → Prop} (hs : SlcAt h s (b8 b)) (hl : s.len = b.length) (lb : b.length = 128) (lc : s.len ≤ s.cap) (hB : isB b) (H : ∀ h', Ext h.size h h' → k (hdD b) h') : slot_headOf s k h := by
  unfold slot_headOf
  refine ⟨_, _, rfl, rfl, ?_⟩
  have P := Blk.push h (S_slot_head.cs ⟨0, 0, 0, 0, 0⟩) 95
  have W := Ext.push h (.cells (S_slot_head.cs ⟨0, 0, 0, 0, 0⟩).toArray 95) (Nat.le_refl _)
  generalize h.push (.cells (S_slot_head.cs ⟨0, 0, 0, 0, 0⟩).toArray 95) = h2 at *
  have S := hs.ext W
  refine nGet_ok (w := 8) (l' := b) (l := b.take 8) S hl rfl (isB_take hB _) (by omega) (by omega) (by rw [List.length_take, lb]; rfl) ?_
  refine ⟨_, by omega, by omega, by omega, by omega, rfl, ?_⟩
  refine at_ok (at' := 16) (w := 8) S hl lb lc hB (by omega) (by omega) (by omega) (by omega) ?_
  refine field_ok (at' := 8) (w := 2) S hl lb lc hB (by omega) (by omega) (by omega) (by omega) ?_
  refine field_ok (at' := 10) (w := 2) S hl lb lc hB (by omega) (by omega) (by omega) (by omega) ?_
  refine field_ok (at' := 12) (w := 4) S hl lb lc hB (by omega) (by omega) (by omega) (by omega) ?_
  refine ⟨_, WrsAt.of_blk P (by show 5 ≤ 5; omega), rfl, hdD b, CellsAt.of_blk (P.sets_all rfl), H _ (W.trans (Ext.sets _ _ _ (Nat.le_refl _)))⟩
end Go.Q.Yf
/- Slot: is a slot whole. -/
namespace Go.Q.Yf
variable {B c : Nat} {h h' : Heap} {d rn rs pr : Nat} {X : DK}
abbrev pcs (d : Nat) (fr kk : Int) : List Value := S_slot_Pair.cs ⟨some ⟨d, 0, none⟩, fr, kk⟩
def PairAt (h : Heap) (pr d : Nat) (fr kk : Int) : Prop := Blk h pr (pcs d fr kk) 76
/-- the bytes of all sectors are bytes -/
def GoodX (X : DK) : Prop := (∀ a, isB (secB ((mget X.now a).getD zSec))) ∧ ∀ a, isB (secB ((mget X.safe a).getD zSec))
theorem read_B (g : GoodX X) (a : Int) : isB (readD X a).1 := by
  unfold readD
  split
  · intro b hb; cases hb
  · split
    · intro b hb; cases hb
    · exact g.1 a
theorem read_len {a : Int} (e : (readD X a).2 = 0) : (readD X a).1.length = 128 := by
  unfold readD at e ⊢
  split at e
  · cases e
  · split at e
    · cases e
    · rename_i h1 h2; rw [if_neg h1, if_neg h2]; exact nrm_len _ _
def prtD (n : Int) : Int := if (n + 103) / 104 > 1 then (n + 103) / 104 else 1
theorem Parts_ok {n : Int} {k : Int → Heap → Prop} (n0 : 0 ≤ n) (n1 : n < 4611686018427387904) (H : k (prtD n) h) : slot_parts n k h := by
  unfold slot_parts
  refine ⟨_, rfl, ?_⟩
  rw [wrapI64 (x := n + 104) (by omega) (by omega), wrapI64 (x := n + 104 - 1) (by omega) (by omega), Int.tdiv_eq_ediv_of_nonneg (by omega), wrapI64 (x := (n + 104 - 1) / 104) (by omega) (by omega)]
  rw [show n + 104 - 1 = n + 103 from by omega]
  exact H
theorem Short_ok {l : List Int} {k : Int → Heap → Prop} (hl : l.length = 32) (hB : isB l) (H : ∀ h', Ext h.size h h' → k (numL (l.take 8)) h') : sha_Short l k h := by
  unfold sha_Short
  refine ⟨_, _, rfl, rfl, ?_⟩
  have ea : arr 32 .u8 l = b8 l := arr_full hl
  have P := Blk.push h (arr 32 .u8 l) 92
  have W := Ext.push h (.cells (arr 32 .u8 l).toArray 92) (Nat.le_refl _)
  generalize h.push (.cells (arr 32 .u8 l).toArray 92) = h2 at *
  rw [ea] at P
  have e : subS ⟨some (⟨h.size, 0, none⟩ : Addr), 32, 32⟩ 1 (0 : Int).toNat (32 : Int).toNat 32 = ⟨some ⟨h.size, 0, none⟩, 32, 32⟩ := by
    unfold subS
    simp
  refine ⟨_, by omega, by omega, by omega, rfl, ?_⟩
  rw [e]
  refine nGet_ok (w := 8) (l' := l) (l := l.take 8) (P.slc (o := 0) (n := 32) ?_) (by rw [hl]) rfl (isB_take hB _) (by omega) (by omega) (by rw [List.length_take, hl]; rfl) (H h2 W)
  rw [List.drop_zero, List.take_of_length_le (by rw [List.length_map, hl]; omega)]
/-- the head of a slot's first sector -/
def fst1 (X : DK) (p : Int) : S_slot_head := hdD (readD X p).1
def GoodF (f : S_slot_head) (kk : Int) : Prop := 1 ≤ f.f_parts ∧ f.f_parts ≤ kk ∧ f.f_parts = prtD f.f_size
def OkI (X : DK) (p : Int) (i : Nat) : Prop := (readD X (p + i)).2 = 0 ∧ hdD (readD X (p + i)).1 = { fst1 X p with f_part := (i : Int) }
def catW (X : DK) (p : Int) (n : Nat) : List Int := ((List.range n).map fun i : Nat => (readD X (p + i)).1.drop 24).flatten
theorem catW_succ (X : DK) (p : Int) (n : Nat) : catW X p (n + 1) = catW X p n ++ (readD X (p + n)).1.drop 24 := by
  unfold catW
  rw [List.range_succ, List.map_append, List.flatten_append]
  simp
theorem catW_len {p : Int} : ∀ n : Nat, (∀ i : Nat, i < n → (readD X (p + i)).2 = 0) → (catW X p n).length = 104 * n
  | 0, _ => rfl
  | n + 1, hh => by
    rw [catW_succ, List.length_append, catW_len n fun i hi => hh i (by omega), List.length_drop, read_len (hh n (by omega))]; omega
def outW (X : DK) (p : Int) : List Int := (catW X p (fst1 X p).f_parts.toNat).take (fst1 X p).f_size.toNat
def WholeC (X : DK) (p kk : Int) : Prop := GoodF (fst1 X p) kk ∧ (∀ i : Nat, i < (fst1 X p).f_parts.toNat → OkI X p i) ∧ numL ((shaD (outW X p)).take 8) = (fst1 X p).f_sum
theorem hd_bd (g : GoodX X) (p : Int) : 0 ≤ (fst1 X p).f_size ∧ (fst1 X p).f_size < 4294967296 ∧ 0 ≤ (fst1 X p).f_parts ∧ (fst1 X p).f_parts < 65536 := by
  have a := fld_bd (read_B g p) 12 4
  have b := fld_bd (read_B g p) 10 2
  rw [show (256 : Int) ^ 4 = 4294967296 from by decide] at a
  rw [show (256 : Int) ^ 2 = 65536 from by decide] at b
  exact ⟨a.1, a.2, b.1, b.2⟩
theorem hd_part (g : GoodX X) (p : Int) : 0 ≤ (fst1 X p).f_part ∧ (fst1 X p).f_part < 65536 := by
  have b := fld_bd (read_B g p) 8 2
  rw [show (256 : Int) ^ 2 = 65536 from by decide] at b
  exact b
theorem part_eq {a b : S_slot_head} : ((a.f_n == b.f_n) && (a.f_part == b.f_part) && (a.f_parts == b.f_parts) && (a.f_size == b.f_size) && (a.f_sum == b.f_sum)) = true ↔ a = b := by
  cases a; cases b; simp [and_assoc]
end Go.Q.Yf
/- Slot: is a slot whole: walked. -/
namespace Go.Q.Yf
variable {B c : Nat} {h h' : Heap} {d rn rs pr : Nat} {X : DK}
abbrev zHd : S_slot_head := ⟨0, 0, 0, 0, 0⟩
theorem Place_ok {fr kk slot i : Int} {k : Int → Heap → Prop} (P : PairAt h pr d fr kk) (f0 : 0 ≤ fr ∧ fr ≤ 2000) (k0 : 0 ≤ kk ∧ kk ≤ 2000) (s0 : 0 ≤ slot ∧ slot ≤ 1) (i0 : 0 ≤ i ∧ i ≤ 100000) (H : k (fr + slot * kk + i) h) : slot_Pair_place (some ⟨pr, 0, none⟩) slot i k h := by
  unfold slot_Pair_place
  refine ⟨_, rfl, fr, by rw [add_mk, P.cell]; rfl, kk, by rw [add_mk, P.cell]; rfl, ?_⟩
  have hs : slot * kk = 0 ∨ slot * kk = kk := by
    have : slot = 0 ∨ slot = 1 := by omega
    rcases this with rfl | rfl
    · left; simp
    · right; simp
  rw [wrapI64 (x := slot * kk) (by omega) (by omega), wrapI64 (x := fr + slot * kk) (by omega) (by omega), wrapI64 (by omega) (by omega)]
  exact H
/-- where the walk of a slot stands -/
structure WI (b1 : Nat) (h0 h : Heap) (X : DK) (p kk : Int) (s : Slc) (i : Int) (f0 : S_slot_head) : Prop where
  i0 : 0 ≤ i
  i1 : i ≤ 600
  E : Ext b1 h0 h
  z : b1 + 1 ≤ h.size
  P : Blk h b1 (S_slot_head.cs f0) 95
  R : Row (b1 + 1) h 5 1 s (b8 (catW X p i.toNat))
  f : (i = 0 ∧ f0 = zHd) ∨ (0 < i ∧ f0 = fst1 X p ∧ GoodF f0 kk ∧ i ≤ f0.f_parts)
  ok : ∀ j : Nat, j < i.toNat → OkI X p j
theorem WI.ext {b1 : Nat} {h0 h h' : Heap} {p kk i : Int} {s : Slc} {f0 : S_slot_head} (w : WI b1 h0 h X p kk s i f0) (E : Ext h.size h h') : WI b1 h0 h' X p kk s i f0 :=
  { w with E := w.E.trans (E.mono (by have := w.z; omega)), z := Nat.le_trans w.z E.size, P := w.P.ext E w.P.lt, R := w.R.ext E fun g hg => (w.R.bd hg).2 }

theorem Whole_ok {fr kk slot : Int} {k : Slc × Int × Bool → Heap → Prop} (D : DAt B c h d rn rs X) (P : PairAt h pr d fr kk) (r : R0 h) (g : GoodX X) (f0 : 0 ≤ fr ∧ fr ≤ 2000) (k0 : 1 ≤ kk ∧ kk ≤ 512) (s0 : 0 ≤ slot ∧ slot ≤ 1)
    (H0 : ¬ ((readD X (fr + slot * kk)).2 = 0 ∧ WholeC X (fr + slot * kk) kk) → ∀ h', Ext h.size h h' → k (⟨none, 0, 0⟩, 0, false) h')
    (H1 : WholeC X (fr + slot * kk) kk → (readD X (fr + slot * kk)).2 = 0 → ∀ s h', SlcAt h' s (b8 (outW X (fr + slot * kk))) → s.len = (outW X (fr + slot * kk)).length → s.len ≤ s.cap → (∀ a, s.a = some a → h.size ≤ a.block) → Ext h.size h h' → k (s, (fst1 X (fr + slot * kk)).f_n, true) h') :
    slot_Pair_whole (some ⟨pr, 0, none⟩) slot k h := by
  have r0 := r.pos
  generalize ep : fr + slot * kk = p at *
  unfold slot_Pair_whole
  refine ⟨_, _, rfl, rfl, ?_⟩
  have P1 := Blk.push h (S_slot_head.cs zHd) 95
  have W1 := Ext.push h (.cells (S_slot_head.cs zHd).toArray 95) (Nat.le_refl _)
  have pl := P1.lt
  generalize h.push (.cells (S_slot_head.cs zHd).toArray 95) = h2 at *
  obtain ⟨b1, eb1⟩ : ∃ y, y = h.size := ⟨_, rfl⟩
  rw [← eb1] at P1 W1 pl H0 H1 r0 ⊢
  have hdp := hd_bd g p
  unfold slot_Pair_whole_l1
  refine ⟨fun q h' => ∃ f0, WI b1 h h' X p kk q.1 q.2 f0, fun q _ => (1000 - q.2).toNat, ⟨zHd, by dsimp only; omega, by dsimp only; omega, W1, by omega, P1, Row.nil _ _ _ _, .inl ⟨rfl, rfl⟩, fun j hj => by simp at hj⟩, ?_⟩
  rintro s i h3 ⟨fh, w⟩
  dsimp only at w
  have bad : ∀ {h'}, (¬ ((readD X p).2 = 0 ∧ WholeC X p kk)) → Ext b1 h h' → k (⟨none, 0, 0⟩, 0, false) h' := fun {h'} no E => H0 no h' E
  have D3 : DAt B c h3 d rn rs X := D.ext (by rw [← eb1]; exact w.E)
  have Q3 : PairAt h3 pr d fr kk := Blk.ext P (by rw [← eb1]; exact w.E) P.lt
  have i0 := w.i0
  have i1 := w.i1
  -- one sector more
  have more : (i = 0 ∨ (0 < i ∧ i < (fst1 X p).f_parts)) → slot_Pair_whole_g2 (some ⟨pr, 0, none⟩) slot s ⟨b1, 0, none⟩ i true k (fun s' h' => (∃ f0, WI b1 h h' X p kk s'.1 s'.2 f0) ∧ (1000 - s'.2).toNat < (1000 - i).toNat) h3 := fun hi => by
    have hin : ∀ C : Prop, ((readD X p).2 = 0 ∧ WholeC X p kk → OkI X p i.toNat) := fun _ wc => wc.2.2.1 i.toNat (by
      have g1 := wc.2.1.1
      rcases hi with e | e <;> omega)
    unfold slot_Pair_whole_g2
    rw [if_pos rfl]
    refine ⟨_, rfl, some ⟨d, 0, none⟩, by rw [Q3.cell]; rfl, Place_ok Q3 f0 ⟨by omega, by omega⟩ s0 ⟨i0, by omega⟩ ⟨by rw [Q3.cell]; rfl, ?_⟩⟩
    rw [ep]
    refine DRead_ok D3 fun t h9 St lt ct ft X9 => ?_
    by_cases er : (readD X (p + i)).2 = 0
    · rw [if_neg (by rw [er]; simp)]
      have lb := read_len er
      refine headOf_ok St lt lb (by dsimp only; omega) (read_B g _) fun h11 X11 => ?_
      have X911 := X9.trans (X11.mono X9.size)
      have w11 := w.ext X911
      refine ⟨_, _, rfl, rfl, ?_⟩
      have V := Blk.push h11 (S_slot_head.cs zHd) 95
      have W13 := Ext.push h11 (.cells (S_slot_head.cs zHd).toArray 95) (Nat.le_refl _)
      generalize h11.push (.cells (S_slot_head.cs zHd).toArray 95) = h13 at *
      refine ⟨_, WrsAt.of_blk V (by show 5 ≤ 5; omega), rfl, ?_⟩
      have V14 := V.sets_all (vs := S_slot_head.cs (hdD (readD X (p + i)).1)) rfl
      have X14 : Ext h11.size h11 (setsH h13 ⟨h11.size, 0, none⟩ 0 (S_slot_head.cs (hdD (readD X (p + i)).1))) := W13.trans (Ext.sets _ _ _ (Nat.le_refl _))
      generalize setsH h13 ⟨h11.size, 0, none⟩ 0 (S_slot_head.cs (hdD (readD X (p + i)).1)) = h14 at *
      have w14 := w11.ext X14
      have X914 := X911.trans (X14.mono X911.size)
      have St14 : SlcAt h14 t (b8 (readD X (p + i)).1) := (St.ext X11).ext X14
      have bl : b1 < h11.size := by have := w11.z; omega
      -- the rest, the head of the first sector being laid
      have rest : ∀ h15, Blk h15 b1 (S_slot_head.cs (fst1 X p)) 95 → Blk h15 h11.size (S_slot_head.cs (hdD (readD X (p + i)).1)) 95 → (∀ j, j ≠ b1 → h15[j]? = h14[j]?) → h15.size = h14.size → slot_Pair_whole_j3 (some ⟨pr, 0, none⟩) slot s ⟨b1, 0, none⟩ i t ⟨h11.size, 0, none⟩ k (fun s' h' => (∃ f0, WI b1 h h' X p kk s'.1 s'.2 f0) ∧ (1000 - s'.2).toNat < (1000 - i).toNat) h15 := fun h15 Pb Vb o15 s15 => by
        have X015 : Ext b1 h h15 := by
          refine w14.E.trans ⟨by omega, fun j hj => o15 j (by omega)⟩
        have R15 : Row (b1 + 1) h15 5 1 s (b8 (catW X p i.toNat)) := w14.R.keep fun q hq => o15 q (by have := (w14.R.bd hq).1; omega)
        have S15 : SlcAt h15 t (b8 (readD X (p + i)).1) := ⟨St14.1, fun a ha j v hj => by
          have := St14.2 a ha j v hj
          have hb := ft a ha
          have z3 := w.z
          rw [cellH_of (o15 _ (by show (a.add j).block ≠ b1; have : (a.add j).block = a.block := by unfold Addr.add; split <;> rfl
                                  omega))]
          exact this⟩
        have D15 : PairAt h15 pr d fr kk := Blk.ext P (by rw [← eb1]; exact X015) P.lt
        have z15 : b1 + 1 ≤ h15.size := by have := w14.z; omega
        unfold slot_Pair_whole_j3
        refine ⟨fst1 X p, CellsAt.of_blk Pb, _, _, rfl, rfl, ?_⟩
        have U := Blk.push h15 (S_slot_head.cs zHd) 95
        have W17 := Ext.push h15 (.cells (S_slot_head.cs zHd).toArray 95) (Nat.le_refl _)
        generalize h15.push (.cells (S_slot_head.cs zHd).toArray 95) = h17 at *
        refine ⟨_, WrsAt.of_blk U (by show 5 ≤ 5; omega), rfl, ?_⟩
        have U18 := U.sets_all (vs := S_slot_head.cs (fst1 X p)) rfl
        have X18 : Ext h15.size h15 (setsH h17 ⟨h15.size, 0, none⟩ 0 (S_slot_head.cs (fst1 X p))) := W17.trans (Ext.sets _ _ _ (Nat.le_refl _))
        generalize setsH h17 ⟨h15.size, 0, none⟩ 0 (S_slot_head.cs (fst1 X p)) = h18 at *
        refine ⟨_, by rw [add_mk]; exact U18.wr (by show _ < 5; omega), rfl, ?_⟩
        rw [add_mk]
        have U19 : Blk (setH h18 ⟨h15.size, 0 + 1, none⟩ (.int .i64 i)) h15.size (S_slot_head.cs { fst1 X p with f_part := i }) 95 := U18.set
        have X19 : Ext h15.size h15 (setH h18 ⟨h15.size, 0 + 1, none⟩ (.int .i64 i)) := X18.trans (Ext.set _ _ (Nat.le_refl _))
        generalize setH h18 ⟨h15.size, 0 + 1, none⟩ (.int .i64 i) = h19 at *
        have z19 := X19.size
        have vl := Vb.lt
        have V19 := Vb.ext X19 vl
        have X019 : Ext b1 h h19 := X015.trans (X19.mono (by omega))
        have R19 := R15.ext X19 fun q hq => (R15.bd hq).2
        have P19 := Pb.ext X19 Pb.lt
        have S19 := S15.ext X19
        have D19 : PairAt h19 pr d fr kk := Blk.ext D15 X19 D15.lt
        have j4t : slot_Pair_whole_j4 (some ⟨pr, 0, none⟩) slot s ⟨b1, 0, none⟩ i t true k (fun s' h' => (∃ f0, WI b1 h h' X p kk s'.1 s'.2 f0) ∧ (1000 - s'.2).toNat < (1000 - i).toNat) = fun h' => k (⟨none, 0, 0⟩, 0, false) h' := by
          funext h'; unfold slot_Pair_whole_j4; rw [if_pos rfl]
        refine ⟨_, CellsAt.of_blk V19, _, CellsAt.of_blk U19, ?_⟩
        by_cases e : hdD (readD X (p + i)).1 = { fst1 X p with f_part := i }
        · have e2 := part_eq.2 e
          rw [if_neg (by rw [if_neg (by decide), e2]; decide)]
          have okn : OkI X p i.toNat := by
            unfold OkI
            rw [show ((i.toNat : Nat) : Int) = i from by omega]
            exact ⟨er, e⟩
          have ep2 : (hdD (readD X (p + i)).1).f_parts = (fst1 X p).f_parts := by rw [e]
          have es2 : (hdD (readD X (p + i)).1).f_size = (fst1 X p).f_size := by rw [e]
          refine ⟨_, by rw [add_mk, V19.cell]; rfl, ?_⟩
          rw [ep2]
          by_cases q1 : (fst1 X p).f_parts < 1
          · rw [if_pos (by rw [decide_eq_true_eq]; exact q1), if_pos rfl, j4t]
            exact bad (fun wc => by have := wc.2.1.1; omega) X019
          rw [if_neg (by rw [decide_eq_true_eq]; exact q1)]
          refine ⟨_, by rw [add_mk, V19.cell]; rfl, _, rfl, kk, by rw [add_mk, D19.cell]; rfl, ?_⟩
          rw [ep2]
          by_cases q2 : (fst1 X p).f_parts > kk
          · rw [if_pos (by rw [decide_eq_true_eq]; exact q2), j4t]
            exact bad (fun wc => by have := wc.2.1.2.1; omega) X019
          rw [if_neg (by rw [decide_eq_true_eq]; exact q2)]
          refine ⟨_, by rw [add_mk, V19.cell]; rfl, _, by rw [add_mk, V19.cell]; rfl, ?_⟩
          rw [ep2, es2]
          refine Parts_ok hdp.1 (by omega) ⟨by rw [add_mk, V19.cell, ← ep2]; rfl, ?_⟩
          by_cases q3 : (fst1 X p).f_parts = prtD (fst1 X p).f_size
          · rw [show ((fst1 X p).f_parts != prtD (fst1 X p).f_size) = false from by simpa using q3]
            unfold slot_Pair_whole_j4
            rw [if_neg (by simp)]
            have tl : t.len = 128 := by rw [← lb]; exact lt
            rw [tl, wrapI64 (x := ((128 : Nat) : Int) - 104) (by omega) (by omega)]
            refine ⟨_, by omega, by omega, by omega, by omega, rfl, b8 ((readD X (p + i)).1.drop 24), ?_, ?_⟩
            · have := SlcAt.sub (w := 1) (l := (((128 : Nat) : Int) - 104).toNat) (u := (((128 : Nat) : Int)).toNat) (m := ((t.cap : Nat) : Int).toNat) S19 (by omega) (by omega)
              rw [Nat.mul_one, Nat.mul_one, ← List.map_drop, ← List.map_take, List.take_of_length_le (by rw [List.length_drop, lb]; omega)] at this
              exact this
            · have ls : s.len = 104 * i.toNat := by
                have := R19.len
                rw [this, List.length_map, catW_len]
                intro j hj; exact (w.ok j hj).1
              refine App.row2 R19 (by omega) rfl (by rw [List.length_map, List.length_drop, lb]; rfl) (b8_one _) (by show (s.len + (128 - 24)) * 1 ≤ _; omega) (by show s.len + (128 - 24) ≤ _; simp only [maxLen]; omega) fun s' h22 R22 _ z22 kp _ _ => ?_
              have ne : ∀ j, j ≤ b1 → s.blk ≠ some j := fun j hj e => by have := (R19.bd e).1; omega
              refine ⟨_, rfl, ?_⟩
              rw [wrapI64 (by omega) (by omega)]
              have ip : i + 1 ≤ (fst1 X p).f_parts := by rcases hi with e | e <;> omega
              refine ⟨⟨fst1 X p, ⟨by dsimp only; omega, by dsimp only; omega, X019.trans ⟨z22, fun j hj => kp j (by omega) (ne j (by omega))⟩, by omega, P19.old (kp b1 P19.lt (ne b1 (Nat.le_refl _))), ?_, .inr ⟨by dsimp only; omega, rfl, ⟨by omega, by omega, q3⟩, ip⟩, fun j hj => ?_⟩⟩, by dsimp only; omega⟩
              · dsimp only
                rw [show (i + 1).toNat = i.toNat + 1 from by omega, catW_succ, show ((i.toNat : Nat) : Int) = i from by omega, b8, List.map_append]
                exact R22
              · dsimp only at hj
                by_cases ej : j < i.toNat
                · exact w.ok j ej
                · rw [show j = i.toNat from by omega]; exact okn
          · rw [show ((fst1 X p).f_parts != prtD (fst1 X p).f_size) = true from by simpa using q3, j4t]
            exact bad (fun wc => q3 wc.2.1.2.2) X019
        · have e2 : ((hdD (readD X (p + i)).1).f_n == ({ fst1 X p with f_part := i } : S_slot_head).f_n && (hdD (readD X (p + i)).1).f_part == ({ fst1 X p with f_part := i } : S_slot_head).f_part && (hdD (readD X (p + i)).1).f_parts == ({ fst1 X p with f_part := i } : S_slot_head).f_parts && (hdD (readD X (p + i)).1).f_size == ({ fst1 X p with f_part := i } : S_slot_head).f_size && (hdD (readD X (p + i)).1).f_sum == ({ fst1 X p with f_part := i } : S_slot_head).f_sum) = false := by
            cases hh : ((hdD (readD X (p + i)).1).f_n == ({ fst1 X p with f_part := i } : S_slot_head).f_n && (hdD (readD X (p + i)).1).f_part == ({ fst1 X p with f_part := i } : S_slot_head).f_part && (hdD (readD X (p + i)).1).f_parts == ({ fst1 X p with f_part := i } : S_slot_head).f_parts && (hdD (readD X (p + i)).1).f_size == ({ fst1 X p with f_part := i } : S_slot_head).f_size && (hdD (readD X (p + i)).1).f_sum == ({ fst1 X p with f_part := i } : S_slot_head).f_sum) with
            | false => rfl
            | true => exact absurd (part_eq.1 hh) e
          rw [if_pos (by rw [if_neg (by decide), e2]; rfl), if_pos rfl, if_pos rfl, j4t]
          refine bad (fun wc => e ?_) X019
          have := (hin True wc).2
          rw [show ((i.toNat : Nat) : Int) = i from by omega] at this
          exact this
      by_cases iz : i = 0
      · rw [if_pos (by simpa using iz)]
        refine ⟨_, CellsAt.of_blk V14, _, WrsAt.of_blk w14.P (by show 5 ≤ 5; omega), rfl, ?_⟩
        have ef : hdD (readD X (p + i)).1 = fst1 X p := by unfold fst1; rw [iz, Int.add_zero]
        rw [ef] at V14 ⊢
        have o15 : ∀ j, j ≠ b1 → (setsH h14 ⟨b1, 0, none⟩ 0 (S_slot_head.cs (fst1 X p)))[j]? = h14[j]? := fun j hj => setsH_other _ _ hj
        exact rest _ (w14.P.sets_all rfl) (by rw [ef]; exact V14.old (o15 _ (by omega))) o15 (setsH_size _ _)
      · rw [if_neg (by simpa using iz)]
        rcases w14.f with ⟨z, _⟩ | ⟨_, ef, _⟩
        · exact absurd z iz
        · have P14 := w14.P
          rw [ef] at P14
          exact rest h14 P14 V14 (fun _ _ => rfl) rfl
    · rw [if_pos (by simpa using er)]
      refine bad (fun wc => er ?_) (w.E.trans (X9.mono (by have := w.z; omega)))
      have := (hin True wc).1
      rw [show ((i.toNat : Nat) : Int) = i from by omega] at this
      exact this
  unfold slot_Pair_whole_l1b
  by_cases iz : i = 0
  · rw [if_pos (by simpa using iz)]
    exact more (.inl iz)
  rw [if_neg (by simpa using iz)]
  rcases w.f with ⟨z, _⟩ | ⟨ip, ef, gf, il⟩
  · exact absurd z iz
  subst ef
  refine ⟨_, by rw [add_mk, w.P.cell]; rfl, ?_⟩
  by_cases lt : i < (fst1 X p).f_parts
  · rw [decide_eq_true lt]
    exact more (.inr ⟨ip, lt⟩)
  rw [decide_eq_false lt]
  have ie : i = (fst1 X p).f_parts := by omega
  have R := w.R
  rw [ie] at R
  have er : (readD X p).2 = 0 := by
    have := (w.ok 0 (by omega)).1
    rw [show p + ((0 : Nat) : Int) = p from by omega] at this
    exact this
  have lsz := catW_len (X := X) (p := p) i.toNat fun j hj => (w.ok j hj).1
  rw [ie] at lsz
  have ls : s.len = 104 * (fst1 X p).f_parts.toNat := by have := R.len; rw [this, List.length_map, lsz]
  have lc := R.cap
  have q3 := gf.2.2
  have szb : (fst1 X p).f_size ≤ 104 * (fst1 X p).f_parts := by rw [q3]; unfold prtD; split <;> omega
  have q2 := gf.2.1
  unfold slot_Pair_whole_g2
  rw [if_neg (by simp)]
  have zz := w.z
  refine ⟨_, by rw [add_mk, w.P.cell]; rfl, _, by omega, by omega, by omega, by omega, rfl, _, by rw [add_mk, w.P.cell]; rfl, _, _, rfl, rfl, ?_⟩
  have So : SlcAt h3 (subS s 1 (0 : Int).toNat (fst1 X p).f_size.toNat ((s.cap : Nat) : Int).toNat) (b8 (outW X p)) := by
    have := SlcAt.sub (w := 1) (l := (0 : Int).toNat) (u := (fst1 X p).f_size.toNat) (m := ((s.cap : Nat) : Int).toNat) R.slc (by simp) (by omega)
    rw [Nat.mul_one, Nat.mul_one, ← List.map_drop, ← List.map_take] at this
    exact this
  have lo : (outW X p).length = (fst1 X p).f_size.toNat := by unfold outW; rw [List.length_take, lsz]; omega
  have fa : ∀ a, (subS s 1 (0 : Int).toNat (fst1 X p).f_size.toNat ((s.cap : Nat) : Int).toNat).a = some a → b1 ≤ a.block := fun a ha => by
    have : ∃ a', s.a = some a' ∧ a'.block = a.block := by
      unfold subS at ha
      simp only at ha
      split at ha
      · exact ⟨a, ha, rfl⟩
      · cases hs : s.a with
        | none => rw [hs] at ha; cases ha
        | some a' =>
          rw [hs] at ha
          refine ⟨a', rfl, ?_⟩
          have := Option.some.inj ha
          rw [← this]
          unfold Addr.add; split <;> rfl
    obtain ⟨a', h1, h2⟩ := this
    have := (R.bd (g := a'.block) (by simp [Slc.blk, h1])).1
    omega
  generalize es : subS s 1 (0 : Int).toNat (fst1 X p).f_size.toNat ((s.cap : Nat) : Int).toNat = s5 at *
  have l5 : s5.len = (outW X p).length := by rw [← es, lo]; show (fst1 X p).f_size.toNat - (0 : Int).toNat = _; simp
  have c5 : s5.len ≤ s5.cap := by rw [← es]; show (fst1 X p).f_size.toNat - (0 : Int).toNat ≤ ((s.cap : Nat) : Int).toNat - (0 : Int).toNat; simp only [Int.toNat_zero, Int.toNat_natCast]; omega
  have V := Blk.push h3 [Slc.v s5] 23
  have W4 := Ext.push h3 (.cells ([Slc.v s5] : List Value).toArray 23) (Nat.le_refl _)
  generalize h3.push (.cells ([Slc.v s5] : List Value).toArray 23) = h4 at *
  have w4 := w.ext W4
  have z4 := W4.size
  refine ⟨by rw [add_mk, w4.P.cell]; rfl, Of_ok ((r.ext w4.E r0)) (V.slc (o := 0) (n := 1) rfl) rfl (So.ext W4) l5 (by rw [lo]; omega) fun h5 X5 => ?_⟩
  have w5 := w4.ext X5
  refine ⟨by rw [add_mk, w5.P.cell]; rfl, Short_ok (shaD_len _) (shaD_B _) fun h6 X6 => ?_⟩
  have w6 := w5.ext X6
  refine ⟨by rw [add_mk, w6.P.cell]; rfl, ?_⟩
  have ok' : ∀ j : Nat, j < (fst1 X p).f_parts.toNat → OkI X p j := fun j hj => w.ok j (by omega)
  rcases Classical.em (numL ((shaD (outW X p)).take 8) = (fst1 X p).f_sum) with sm | sm
  · rw [if_neg (by rw [bne_iff_ne]; exact fun e => e sm)]
    refine ⟨_, by rw [w6.P.cell]; rfl, ?_⟩
    exact H1 ⟨gf, ok', sm⟩ er s5 h6 (((So.ext W4).ext X5).ext X6) l5 c5 fa w6.E
  · rw [if_pos (by rw [bne_iff_ne]; exact sm)]
    exact bad (fun wc => sm wc.2.2.2) w6.E
end Go.Q.Yf
/- Slot: the greatest number, the better slot, what is loaded. -/
namespace Go.Q.Yf
variable {B c : Nat} {h h' : Heap} {d rn rs pr : Nat} {X : DK}
def grD (X : DK) (fr : Int) : Nat → Int
  | 0 => 0
  | i + 1 => if (readD X (fr + i)).2 = 0 then (if (fst1 X (fr + i)).f_n > grD X fr i then (fst1 X (fr + i)).f_n else grD X fr i) else grD X fr i
theorem Greatest_ok {fr kk : Int} {k : Int → Heap → Prop} (D : DAt B c h d rn rs X) (P : PairAt h pr d fr kk) (g : GoodX X) (f0 : 0 ≤ fr ∧ fr ≤ 2000) (k0 : 1 ≤ kk ∧ kk ≤ 512) (H : ∀ h', Ext h.size h h' → k (grD X fr (2 * kk).toNat) h') :
    slot_Pair_greatest (some ⟨pr, 0, none⟩) k h := by
  unfold slot_Pair_greatest
  refine ⟨_, rfl, kk, by rw [add_mk, P.cell]; rfl, ?_⟩
  rw [wrapI64 (x := 2 * kk) (by omega) (by omega)]
  unfold slot_Pair_greatest_l1
  refine ⟨fun q h' => 0 ≤ q.2 ∧ q.2 ≤ 2 * kk ∧ q.1 = grD X fr q.2.toNat ∧ Ext h.size h h', fun q _ => (2 * kk - q.2).toNat, ⟨by omega, by dsimp only; omega, rfl, Ext.refl _ _⟩, ?_⟩
  rintro n i h1 ⟨i0, i1, en, X1⟩
  dsimp only at i0 i1 en
  unfold slot_Pair_greatest_l1b
  by_cases ci : i < 2 * kk
  · rw [if_pos (by rw [decide_eq_true_eq]; exact ci)]
    have D1 := D.ext X1
    have P1 : PairAt h1 pr d fr kk := Blk.ext P X1 P.lt
    refine ⟨_, rfl, some ⟨d, 0, none⟩, by rw [P1.cell]; rfl, fr, by rw [add_mk, P1.cell]; rfl, ?_⟩
    rw [wrapI64 (x := fr + i) (by omega) (by omega)]
    refine DRead_ok D1 fun t h2 St lt ct ft X2 => ?_
    have X02 := X1.trans (X2.mono X1.size)
    have nx : ∀ m h3, m = grD X fr (i.toNat + 1) → Ext h.size h h3 → slot_Pair_greatest_j2 (some ⟨pr, 0, none⟩) (2 * kk) i m k (fun s' h' => (0 ≤ s'.2 ∧ s'.2 ≤ 2 * kk ∧ s'.1 = grD X fr s'.2.toNat ∧ Ext h.size h h') ∧ (2 * kk - s'.2).toNat < (2 * kk - i).toNat) h3 := fun m h3 hm X3 => by
      unfold slot_Pair_greatest_j2
      rw [wrapI64 (by omega) (by omega)]
      exact ⟨⟨by dsimp only; omega, by dsimp only; omega, by dsimp only; rw [hm, show (i + 1).toNat = i.toNat + 1 from by omega], X3⟩, by dsimp only; omega⟩
    have eg : grD X fr (i.toNat + 1) = if (readD X (fr + i)).2 = 0 then (if (fst1 X (fr + i)).f_n > n then (fst1 X (fr + i)).f_n else n) else n := by
      rw [grD, ← en, show ((i.toNat : Nat) : Int) = i from by omega]
    by_cases er : (readD X (fr + i)).2 = 0
    · rw [if_pos (by simpa using er)]
      refine headOf_ok St lt (read_len er) (by dsimp only; omega) (read_B g _) fun h3 X3 => ⟨_, rfl, ?_⟩
      rw [if_pos er] at eg
      exact nx _ h3 eg.symm (X02.trans (X3.mono X02.size))
    · rw [if_neg (by simpa using er)]
      rw [if_neg er] at eg
      exact nx _ h2 eg.symm X02
  · rw [if_neg (by rw [decide_eq_true_eq]; exact ci)]
    rw [en, show i.toNat = (2 * kk).toNat from by omega]
    exact H h1 X1
/-- a slot is whole -/
def IsW (X : DK) (fr kk slot : Int) : Prop := (readD X (fr + slot * kk)).2 = 0 ∧ WholeC X (fr + slot * kk) kk
def numW (X : DK) (fr kk slot : Int) : Int := (fst1 X (fr + slot * kk)).f_n
/-- what is told of a whole slot -/
structure ToldW (h0 h : Heap) (X : DK) (fr kk slot : Int) (s : Slc) (n : Int) : Prop where
  w : IsW X fr kk slot
  n : n = numW X fr kk slot
  S : SlcAt h s (b8 (outW X (fr + slot * kk)))
  l : s.len = (outW X (fr + slot * kk)).length
  c : s.len ≤ s.cap
  f : ∀ a, s.a = some a → h0.size ≤ a.block
theorem ToldW.ext {h0 : Heap} {fr kk slot n : Int} {s : Slc} (t : ToldW h0 h X fr kk slot s n) (E : Ext h.size h h') : ToldW h0 h' X fr kk slot s n := { t with S := t.S.ext E }
/-- the better slot -/
def BestS (h0 h : Heap) (X : DK) (fr kk slot : Int) (s : Slc) (n : Int) : Prop :=
  (slot = -1 ∧ s = ⟨none, 0, 0⟩ ∧ n = 0 ∧ ¬ IsW X fr kk 0 ∧ ¬ IsW X fr kk 1) ∨ (slot = 0 ∧ ToldW h0 h X fr kk 0 s n ∧ (IsW X fr kk 1 → numW X fr kk 1 ≤ numW X fr kk 0)) ∨ (slot = 1 ∧ ToldW h0 h X fr kk 1 s n ∧ (IsW X fr kk 0 → numW X fr kk 1 > numW X fr kk 0))
theorem Whole2_ok {fr kk slot : Int} {k : Slc × Int × Bool → Heap → Prop} (D : DAt B c h d rn rs X) (P : PairAt h pr d fr kk) (r : R0 h) (g : GoodX X) (f0 : 0 ≤ fr ∧ fr ≤ 2000) (k0 : 1 ≤ kk ∧ kk ≤ 512) (s0 : 0 ≤ slot ∧ slot ≤ 1)
    (H0 : ¬ IsW X fr kk slot → ∀ h', Ext h.size h h' → k (⟨none, 0, 0⟩, 0, false) h') (H1 : ∀ s n h', ToldW h h' X fr kk slot s n → Ext h.size h h' → k (s, n, true) h') : slot_Pair_whole (some ⟨pr, 0, none⟩) slot k h :=
  Whole_ok D P r g f0 k0 s0 H0 fun wc er s h' S l c f E => H1 s _ h' ⟨⟨er, wc⟩, rfl, S, l, c, f⟩ E
theorem ToldW.mono {h0 h1 : Heap} {fr kk slot n : Int} {s : Slc} (t : ToldW h1 h X fr kk slot s n) (E : h0.size ≤ h1.size) : ToldW h0 h X fr kk slot s n := { t with f := fun a ha => Nat.le_trans E (t.f a ha) }
theorem Best_ok {fr kk : Int} {k : Int × Slc × Int → Heap → Prop} (D : DAt B c h d rn rs X) (P : PairAt h pr d fr kk) (r : R0 h) (g : GoodX X) (f0 : 0 ≤ fr ∧ fr ≤ 2000) (k0 : 1 ≤ kk ∧ kk ≤ 512)
    (H : ∀ slot s n h', BestS h h' X fr kk slot s n → Ext h.size h h' → k (slot, s, n) h') : slot_Pair_best (some ⟨pr, 0, none⟩) k h := by
  have r0 := r.pos
  unfold slot_Pair_best
  refine ⟨_, rfl, ?_⟩
  unfold slot_Pair_best_l1
  refine ⟨fun q h' => Ext h.size h h' ∧ ((q = (-1, ⟨none, 0, 0⟩, 0, 0)) ∨ (q.2.2.2 = 1 ∧ ((q = (-1, ⟨none, 0, 0⟩, 0, 1) ∧ ¬ IsW X fr kk 0) ∨ (q.1 = 0 ∧ ToldW h h' X fr kk 0 q.2.1 q.2.2.1))) ∨ (q.2.2.2 = 2 ∧ BestS h h' X fr kk q.1 q.2.1 q.2.2.1)), fun q _ => (2 - q.2.2.2).toNat, ⟨Ext.refl _ _, .inl rfl⟩, ?_⟩
  rintro sl s n i h1 ⟨X1, St⟩
  have D1 := D.ext X1
  have P1 : PairAt h1 pr d fr kk := Blk.ext P X1 P.lt
  have r1 := r.ext X1 r0
  have tr : ∀ {h'}, Ext h1.size h1 h' → Ext h.size h h' := fun E => X1.trans (E.mono X1.size)
  unfold slot_Pair_best_l1b
  rcases St with e | ⟨e1, St⟩ | ⟨e2, St⟩
  · cases e
    rw [if_pos (by decide)]
    refine Whole2_ok D1 P1 r1 g f0 k0 (by omega) (fun no h2 E => ?_) (fun s' n' h2 T E => ?_)
    · rw [if_neg (by simp)]
      unfold slot_Pair_best_j2
      exact ⟨⟨tr E, .inr (.inl ⟨rfl, .inl ⟨rfl, no⟩⟩)⟩, by dsimp only; decide⟩
    · rw [if_pos (by simp)]
      unfold slot_Pair_best_j2
      exact ⟨⟨tr E, .inr (.inl ⟨rfl, .inr ⟨rfl, T.mono X1.size⟩⟩)⟩, by dsimp only; decide⟩
  · dsimp only at e1
    subst e1
    rw [if_pos (by decide)]
    rcases St with ⟨e, no0⟩ | ⟨e, T0⟩
    · cases e
      refine Whole2_ok D1 P1 r1 g f0 k0 (by omega) (fun no h2 E => ?_) (fun s' n' h2 T E => ?_)
      · rw [if_neg (by simp)]
        unfold slot_Pair_best_j2
        exact ⟨⟨tr E, .inr (.inr ⟨rfl, .inl ⟨rfl, rfl, rfl, no0, no⟩⟩)⟩, by dsimp only; decide⟩
      · rw [if_pos (by simp)]
        unfold slot_Pair_best_j2
        exact ⟨⟨tr E, .inr (.inr ⟨rfl, .inr (.inr ⟨rfl, T.mono X1.size, fun w0 => absurd w0 no0⟩)⟩)⟩, by dsimp only; decide⟩
    · dsimp only at e T0
      subst e
      refine Whole2_ok D1 P1 r1 g f0 k0 (by omega) (fun no h2 E => ?_) (fun s' n' h2 T E => ?_)
      · rw [if_neg (by simp)]
        unfold slot_Pair_best_j2
        exact ⟨⟨tr E, .inr (.inr ⟨rfl, .inr (.inl ⟨rfl, T0.ext E, fun w1 => absurd w1 no⟩)⟩)⟩, by dsimp only; decide⟩
      · have en := T0.n
        have en' := T.n
        by_cases gt : n' > n
        · rw [if_pos (by simp [gt])]
          unfold slot_Pair_best_j2
          exact ⟨⟨tr E, .inr (.inr ⟨rfl, .inr (.inr ⟨rfl, T.mono X1.size, fun _ => by rw [← en, ← en']; exact gt⟩)⟩)⟩, by dsimp only; decide⟩
        · rw [if_neg (by simp [gt])]
          unfold slot_Pair_best_j2
          exact ⟨⟨tr E, .inr (.inr ⟨rfl, .inr (.inl ⟨rfl, T0.ext E, fun _ => by rw [← en, ← en']; omega⟩)⟩)⟩, by dsimp only; decide⟩
  · dsimp only at e2 St
    subst e2
    rw [if_neg (by decide)]
    exact H sl s n h1 St X1
theorem Load_ok {fr kk : Int} {k : Slc × Int × Int → Heap → Prop} (D : DAt B c h d rn rs X) (P : PairAt h pr d fr kk) (r : R0 h) (g : GoodX X) (f0 : 0 ≤ fr ∧ fr ≤ 2000) (k0 : 1 ≤ kk ∧ kk ≤ 512)
    (H : ∀ slot s n h', BestS h h' X fr kk slot s n → Ext h.size h h' → k (if slot < 0 then (⟨none, 0, 0⟩, 0, 6) else (s, n, 0)) h') : slot_Pair_Load (some ⟨pr, 0, none⟩) k h := by
  unfold slot_Pair_Load
  rw [if_neg (by simp)]
  refine Best_ok D P r g f0 k0 fun slot s n h' b E => ?_
  have := H slot s n h' b E
  by_cases c : slot < 0
  · rw [if_pos c] at this; rw [if_pos (by rw [decide_eq_true_eq]; exact c)]; exact this
  · rw [if_neg c] at this; rw [if_neg (by rw [decide_eq_true_eq]; exact c)]; exact this
end Go.Q.Yf
/- Slot: sectors are laid. -/
namespace Go.Q.Yf
variable {B c : Nat} {h h' : Heap} {d rn rs pr : Nat} {X : DK}
def hbD (f : S_slot_head) : List Int := formL f.f_n 8 ++ formL f.f_part 2 ++ formL f.f_parts 2 ++ formL f.f_size 4 ++ formL f.f_sum 8
theorem hbD_len (f : S_slot_head) : (hbD f).length = 24 := by
  unfold hbD
  simp only [List.length_append, formL_length]
structure HdOk (f : S_slot_head) : Prop where
  n : 0 ≤ f.f_n
  p : 0 ≤ f.f_part ∧ f.f_part < 65536
  q : 0 ≤ f.f_parts ∧ f.f_parts < 65536
  s : 0 ≤ f.f_size ∧ f.f_size < 4294967296
  t : 0 ≤ f.f_sum
theorem HeadB_ok {f : S_slot_head} {k : Slc → Heap → Prop} (o : HdOk f) (H : ∀ s' h', Row h.size h' 5 1 s' (b8 (hbD f)) → Ext h.size h h' → k s' h') : slot_head_bytes f k h := by
  unfold slot_head_bytes
  refine ⟨_, _, rfl, rfl, ?_⟩
  have P := Blk.push h (S_slot_head.cs f) 95
  have W := Ext.push h (.cells (S_slot_head.cs f).toArray 95) (Nat.le_refl _)
  have pl := P.lt
  generalize h.push (.cells (S_slot_head.cs f).toArray 95) = h2 at *
  have z2 := W.size
  obtain ⟨b1, eb1⟩ : ∃ y, y = h.size := ⟨_, rfl⟩
  rw [← eb1] at P W pl z2 H ⊢
  have o1 := o.n; have o2 := o.p; have o3 := o.q; have o4 := o.s; have o5 := o.t
  refine ⟨_, by rw [P.cell]; rfl, Put_ok (l := []) rfl ⟨fun _ => rfl, fun a ha => by cases ha⟩ (by simp) (by omega) (by omega) o1 fun s5 h5 R5 X5 => ?_⟩
  have z5 := X5.size
  have P5 := P.ext X5 (by omega)
  have l5 := (Row.pb R5)
  refine ⟨_, by rw [add_mk, P5.cell]; rfl, ?_⟩
  rw [wrapU64 (x := f.f_part) (by omega) (by omega)]
  refine Put_ok l5 R5.slc (by simp only [List.length_append, formL_length, List.length_nil]; omega) (by omega) (by omega) o2.1 fun s8 h8 R8 X8 => ?_
  have z8 := X8.size
  have P8 := P5.ext X8 (by omega)
  refine ⟨_, by rw [add_mk, P8.cell]; rfl, ?_⟩
  rw [wrapU64 (x := f.f_parts) (by omega) (by omega)]
  refine Put_ok (Row.pb R8) R8.slc (by simp only [List.length_append, formL_length, List.length_nil]; omega) (by omega) (by omega) o3.1 fun s11 h11 R11 X11 => ?_
  have z11 := X11.size
  have P11 := P8.ext X11 (by omega)
  refine ⟨_, by rw [add_mk, P11.cell]; rfl, ?_⟩
  rw [wrapU64 (x := f.f_size) (by omega) (by omega)]
  refine Put_ok (Row.pb R11) R11.slc (by simp only [List.length_append, formL_length, List.length_nil]; omega) (by omega) (by omega) o4.1 fun s14 h14 R14 X14 => ?_
  have z14 := X14.size
  have P14 := P11.ext X14 (by omega)
  refine ⟨_, by rw [add_mk, P14.cell]; rfl, ?_⟩
  refine Put_ok (Row.pb R14) R14.slc (by simp only [List.length_append, formL_length, List.length_nil]; omega) (by omega) (by omega) o5 fun s17 h17 R17 X17 => ?_
  refine H s17 h17 ?_ ((((W.trans (X5.mono (by omega))).trans (X8.mono (by omega))).trans (X11.mono (by omega))).trans ((X14.mono (by omega)).trans (X17.mono (by omega))))
  unfold hbD
  exact R17.mono (by omega)
def laySec (f : S_slot_head) (bs : List Int) (i : Nat) : List Int := hbD { f with f_part := (i : Int) } ++ (bs.drop (i * 104)).take 104
def layUp (p : Int) (f : S_slot_head) (bs : List Int) (X : DK) : Nat → Int × DK
  | 0 => (0, X)
  | n + 1 => if (layUp p f bs X n).1 ≠ 0 then layUp p f bs X n else writeD (layUp p f bs X n).2 (p + n) (if (n : Int) < f.f_parts then laySec f bs n else [])
/-- the sectors laid, and made safe -/
def layD (p : Int) (f : S_slot_head) (bs : List Int) (X : DK) (N : Nat) : (Int × Int) × DK :=
  if (layUp p f bs X N).1 ≠ 0 then ((0, (layUp p f bs X N).1), (layUp p f bs X N).2)
  else if (syncD (layUp p f bs X N).2).1 ≠ 0 then ((0, (syncD (layUp p f bs X N).2).1), (syncD (layUp p f bs X N).2).2) else ((f.f_n, 0), (syncD (layUp p f bs X N).2).2)
theorem PairAt.df {fr kk : Int} (P : PairAt h pr d fr kk) (D : DAt B c h d rn rs X) (F : DF d rn rs h h') : PairAt h' pr d fr kk :=
  Blk.old P (F.block pr P.lt (fun e => by subst e; have := (Blk.inj P D.P).2; omega) (blk_map P D.N) (blk_map P D.S))
theorem LayJ2_ok {fr kk : Int} {b17 : Nat} {f : S_slot_head} {bs : List Int} {p : Int} {N : Nat} {X0 : DK} {k : Int × Int → Heap → Prop} (D : DAt B c h d rn rs (layUp p f bs X0 N).2) (P : PairAt h pr d fr kk) (Q : Blk h b17 (S_slot_head.cs f) 95) (e0 : (layUp p f bs X0 N).1 = 0)
    (H : ∀ h', DAt B c h' d rn rs (layD p f bs X0 N).2 → DF d rn rs h h' → k (layD p f bs X0 N).1 h') : slot_Pair_lay_j2 (some ⟨pr, 0, none⟩) ⟨b17, 0, none⟩ k h := by
  unfold slot_Pair_lay_j2
  refine ⟨_, rfl, some ⟨d, 0, none⟩, by rw [P.cell]; rfl, DSync_ok D fun h2 D2 F2 => ?_⟩
  unfold layD at H
  rw [if_neg (by simpa using e0)] at H
  have q : b17 ≠ d := fun e => by subst e; have := (Blk.inj Q D.P).2; omega
  have Q2 := Q.old (F2.block b17 Q.lt q (blk_map Q D.N) (blk_map Q D.S))
  by_cases es : (syncD (layUp p f bs X0 N).2).1 = 0
  · rw [if_neg (by simpa using es)] at H
    rw [if_neg (by simpa using es)]
    exact ⟨_, by rw [Q2.cell]; rfl, H h2 D2 F2⟩
  · rw [if_pos es] at H
    rw [if_pos (by simpa using es)]
    exact H h2 D2 F2
end Go.Q.Yf
/- Slot: sectors are laid, one by one. -/
namespace Go.Q.Yf
variable {B c : Nat} {h h' : Heap} {d rn rs pr : Nat} {X : DK}
theorem layUp_stick {p : Int} {f : S_slot_head} {bs : List Int} {X : DK} {n : Nat} (e : (layUp p f bs X n).1 ≠ 0) : ∀ m, n ≤ m → layUp p f bs X m = layUp p f bs X n
  | 0, hm => by rw [show n = 0 by omega]
  | m + 1, hm => by
    by_cases q : n = m + 1
    · rw [q]
    · have ih := layUp_stick e m (by omega)
      rw [layUp, if_pos (by rw [ih]; exact e), ih]
theorem prt_le {n i : Int} (n0 : 0 ≤ n) (i0 : 0 ≤ i) (hi : i < prtD n) : i * 104 ≤ n ∧ (0 < n → i * 104 < n) := by
  unfold prtD at hi; split at hi <;> omega
theorem LayL3_ok {hb : Heap} {fr kk slot : Int} {s : Slc} {bs : List Int} {f : S_slot_head} {wiped : Bool} {k : Int × Int → Heap → Prop} {N : Nat}
    (hs : ∀ h', DF d rn rs hb h' → SlcAt h' s (b8 bs)) (sl : s.len = bs.length) (sc : s.len ≤ s.cap) (bl : bs.length ≤ 60000) (fo : HdOk f) (fp : f.f_parts = prtD bs.length) (fk : f.f_parts ≤ kk)
    (f0 : 0 ≤ fr ∧ fr ≤ 2000) (k0 : 1 ≤ kk ∧ kk ≤ 512) (s0 : 0 ≤ slot ∧ slot ≤ 1) (eN : N = if wiped = true then kk.toNat else f.f_parts.toNat)
    (F : DF d rn rs hb h) (Q : Blk h hb.size (S_slot_head.cs f) 95) (D : DAt B c h d rn rs X) (P : PairAt h pr d fr kk)
    (H : ∀ c' h', c' ≤ c + 600 → DAt B c' h' d rn rs (layD (fr + slot * kk) f bs X N).2 → DF d rn rs hb h' → k (layD (fr + slot * kk) f bs X N).1 h') :
    slot_Pair_lay_l3 (some ⟨pr, 0, none⟩) s wiped f.f_parts slot ⟨hb.size, 0, none⟩ kk 0 k h := by
  generalize ep : fr + slot * kk = p at *
  have NK : (N : Int) ≤ kk := by rw [eN]; split <;> omega
  unfold slot_Pair_lay_l3
  refine ⟨fun i h' => 0 ≤ i ∧ i ≤ N ∧ DF d rn rs hb h' ∧ (∃ pt, Blk h' hb.size (S_slot_head.cs { f with f_part := pt }) 95) ∧ DAt B (c + i.toNat) h' d rn rs (layUp p f bs X i.toNat).2 ∧ PairAt h' pr d fr kk ∧ (layUp p f bs X i.toNat).1 = 0, fun i _ => (kk - i).toNat, ⟨by omega, by omega, F, ⟨f.f_part, Q⟩, D, P, rfl⟩, ?_⟩
  rintro i h1 ⟨i0, i1, F1, ⟨pt, Q1⟩, D1, P1, e1⟩
  -- a sector's bytes are there: they are written
  have j4 : ∀ (h2 : Heap) (t : Slc) (sec : List Int), i < N → Ext h1.size h1 h2 ∨ DF d rn rs hb h2 → DF d rn rs hb h2 → (∃ pt, Blk h2 hb.size (S_slot_head.cs { f with f_part := pt }) 95) → DAt B (c + i.toNat) h2 d rn rs (layUp p f bs X i.toNat).2 → PairAt h2 pr d fr kk → SlcAt h2 t (b8 sec) → t.len = sec.length → sec = (if i < f.f_parts then laySec f bs i.toNat else []) →
      slot_Pair_lay_j4 (some ⟨pr, 0, none⟩) s wiped f.f_parts slot ⟨hb.size, 0, none⟩ i kk i t k (fun s' h' => (0 ≤ s' ∧ s' ≤ N ∧ DF d rn rs hb h' ∧ (∃ pt, Blk h' hb.size (S_slot_head.cs { f with f_part := pt }) 95) ∧ DAt B (c + s'.toNat) h' d rn rs (layUp p f bs X s'.toNat).2 ∧ PairAt h' pr d fr kk ∧ (layUp p f bs X s'.toNat).1 = 0) ∧ (kk - s').toNat < (kk - i).toNat) h2 := fun h2 t sec iN _ F2 ⟨pt2, Q2⟩ D2 P2 St tl es => by
    unfold slot_Pair_lay_j4
    refine ⟨_, rfl, some ⟨d, 0, none⟩, by rw [P2.cell]; rfl, Place_ok P2 f0 ⟨by omega, by omega⟩ s0 ⟨i0, by omega⟩ ⟨by rw [P2.cell]; rfl, ?_⟩⟩
    rw [ep]
    refine DWrite_ok D2 St tl fun h3 D3 F3 => ?_
    have q : hb.size ≠ d := fun e => by
      have Q' := Q2
      rw [e] at Q'
      have := (Blk.inj Q' D2.P).2; omega
    have Q3 := Q2.old (F3.block _ Q2.lt q (blk_map Q2 D2.N) (blk_map Q2 D2.S))
    have P3 := P2.df D2 F3
    have F03 := F2.trans F3
    have eu : layUp p f bs X (i.toNat + 1) = writeD (layUp p f bs X i.toNat).2 (p + i) sec := by
      rw [layUp, if_neg (by rw [e1]; simp), es, show ((i.toNat : Nat) : Int) = i from by omega]
    rw [← eu] at D3 ⊢
    by_cases er : (layUp p f bs X (i.toNat + 1)).1 = 0
    · rw [if_neg (by simpa using er), wrapI64 (by omega) (by omega)]
      refine ⟨⟨by omega, by omega, F03, ⟨pt2, Q3⟩, ?_, P3, ?_⟩, by omega⟩
      · rw [show (i + 1).toNat = i.toNat + 1 from by omega]; exact D3
      · rw [show (i + 1).toNat = i.toNat + 1 from by omega]; exact er
    · rw [if_pos (by simpa using er)]
      have st := layUp_stick er N (by omega)
      have := H (c + i.toNat + 1) h3 (by omega) ?_ F03
      · unfold layD at this
        rw [if_pos (by rw [st]; exact er), st] at this
        exact this
      · unfold layD
        rw [if_pos (by rw [st]; exact er), st]
        exact D3
  have j2 : i = N → slot_Pair_lay_j2 (some ⟨pr, 0, none⟩) ⟨hb.size, 0, none⟩ k h1 := fun iN => by
    have eI : i.toNat = N := by omega
    rw [eI] at D1 e1
    have eL : layD p f bs X N = layD p { f with f_part := pt } bs X N ∧ ∀ n, layUp p { f with f_part := pt } bs X n = layUp p f bs X n := by
      have u : ∀ n, layUp p { f with f_part := pt } bs X n = layUp p f bs X n := fun n => by
        induction n with
        | zero => rfl
        | succ n ih => rw [layUp, layUp, ih]; rfl
      exact ⟨by unfold layD; rw [u], u⟩
    refine LayJ2_ok (f := { f with f_part := pt }) (bs := bs) (p := p) (N := N) (X0 := X) (by rw [eL.2]; exact D1) P1 Q1 (by rw [eL.2]; exact e1) fun h2 D2 F2 => ?_
    rw [← eL.1] at D2 ⊢
    exact H _ h2 (by omega) D2 (F1.trans F2)
  have fo1 := fo.q
  unfold slot_Pair_lay_l3b
  by_cases ck : i < kk
  · rw [if_pos (by rw [decide_eq_true_eq]; exact ck)]
    by_cases cc : i < f.f_parts
    · rw [if_pos (by rw [decide_eq_true_eq]; exact cc)]
      have iN : i < N := by rw [eN]; split <;> omega
      obtain ⟨p1, p2⟩ := prt_le (n := (bs.length : Int)) (by omega) i0 (by rw [← fp]; exact cc)
      refine ⟨_, by rw [add_mk]; exact Q1.wr (by show _ < 5; omega), rfl, ?_⟩
      rw [add_mk]
      have Q2 : Blk (setH h1 ⟨hb.size, 0 + 1, none⟩ (.int .i64 i)) hb.size (S_slot_head.cs { f with f_part := i }) 95 := Q1.set
      have o2 : ∀ j, j ≠ hb.size → (setH h1 ⟨hb.size, 0 + 1, none⟩ (.int .i64 i))[j]? = h1[j]? := fun j hj => setH_other hj
      have z2 : (setH h1 ⟨hb.size, 0 + 1, none⟩ (.int .i64 i)).size = h1.size := setH_size
      generalize setH h1 ⟨hb.size, 0 + 1, none⟩ (.int .i64 i) = h2 at *
      have F2 : DF d rn rs hb h2 := ⟨by have := F1.size; omega, fun g hg a b' c' => (o2 g (by omega)).trans (F1.block g hg a b' c')⟩
      have nd : hb.size ≠ d := fun e => by
        have Q' := Q1
        rw [e] at Q'
        have := (Blk.inj Q' D1.P).2; omega
      have D2 : DAt B (c + i.toNat) h2 d rn rs (layUp p f bs X i.toNat).2 := D1.keep (o2 _ (fun e => nd e.symm)) (o2 _ (fun e => blk_map Q1 D1.N e.symm)) (o2 _ (fun e => blk_map Q1 D1.S e.symm))
      have np : pr ≠ hb.size := fun e => by
        have P' := P1
        rw [e] at P'
        have := (Blk.inj P' Q1).2; omega
      have P2 : PairAt h2 pr d fr kk := Blk.old P1 (o2 _ np)
      refine ⟨_, CellsAt.of_blk Q2, ?_⟩
      rw [sl, wrapI64 (x := i * 104) (by omega) (by omega), wrapI64 (x := i * 104 + 104) (by omega) (by omega)]
      obtain ⟨hi, ehi⟩ : ∃ hi : Nat, (if i * 104 + 104 < ((bs.length : Nat) : Int) then i * 104 + 104 else ((bs.length : Nat) : Int)) = (hi : Int) := ⟨(if i * 104 + 104 < ((bs.length : Nat) : Int) then i * 104 + 104 else ((bs.length : Nat) : Int)).toNat, by split <;> omega⟩
      rw [ehi]
      have hb1 : i * 104 ≤ hi ∧ hi ≤ bs.length ∧ (bs.drop (i * 104).toNat).take (hi - (i * 104).toNat) = (bs.drop (i.toNat * 104)).take 104 := by
        rw [show (i * 104).toNat = i.toNat * 104 from by omega]
        by_cases q : i * 104 + 104 < ((bs.length : Nat) : Int)
        · rw [if_pos q] at ehi
          refine ⟨by omega, by omega, ?_⟩
          rw [show hi - i.toNat * 104 = 104 from by omega]
        · rw [if_neg q] at ehi
          refine ⟨by omega, by omega, ?_⟩
          rw [List.take_of_length_le (by rw [List.length_drop]; omega), List.take_of_length_le (by rw [List.length_drop]; omega)]
      refine ⟨_, by omega, hb1.1, by omega, by omega, rfl, ?_⟩
      have S2 := hs h2 F2
      have Sc := SlcAt.sub (w := 1) (l := (i * 104).toNat) (u := (hi : Int).toNat) (m := ((s.cap : Nat) : Int).toNat) S2 (by omega) (by omega)
      rw [Nat.mul_one, Nat.mul_one, ← List.map_drop, ← List.map_take, Int.toNat_natCast hi, hb1.2.2] at Sc
      have lch : (subS s 1 (i * 104).toNat ((hi : Nat) : Int).toNat ((s.cap : Nat) : Int).toNat).len = ((bs.drop (i.toNat * 104)).take 104).length := by
        rw [← hb1.2.2, List.length_take, List.length_drop]
        show ((hi : Nat) : Int).toNat - (i * 104).toNat = _
        rw [Int.toNat_natCast]; omega
      rw [Int.toNat_natCast hi] at lch ⊢
      generalize subS s 1 (i * 104).toNat hi ((s.cap : Nat) : Int).toNat = s36 at *
      have lc104 : ((bs.drop (i.toNat * 104)).take 104).length ≤ 104 := List.length_take_le _ _
      refine HeadB_ok ⟨fo.n, ⟨i0, by show i < 65536; omega⟩, fo.q, fo.s, fo.t⟩ fun s37 h38 R37 X38 => ?_
      have z38 := X38.size
      refine BClone_ok lch (Sc.ext X38) (by omega) fun s39 h40 R39 X40 => ?_
      have z40 := X40.size
      refine ⟨_, _, rfl, rfl, ?_⟩
      have V := Blk.push h40 [Slc.v s37, Slc.v s39] 23
      have W := Ext.push h40 (.cells ([Slc.v s37, Slc.v s39] : List Value).toArray 23) (Nat.le_refl _)
      generalize h40.push (.cells ([Slc.v s37, Slc.v s39] : List Value).toArray 23) = h42 at *
      have z42 := W.size
      have lhb := hbD_len { f with f_part := i }
      refine Concat_ok (L := [(s37, hbD { f with f_part := i }), (s39, (bs.drop (i.toNat * 104)).take 104)]) (V.slc (o := 0) (n := 2) rfl) rfl (fun q hq => ?_) (by simp) (by
        have : flatS [(s37, hbD { f with f_part := i }), (s39, (bs.drop (i.toNat * 104)).take 104)] = hbD { f with f_part := i } ++ (bs.drop (i.toNat * 104)).take 104 := by simp [flatS]
        rw [this, List.length_append, lhb]; omega) fun s43 h44 R44 X44 => ?_
      · rcases List.mem_cons.1 hq with rfl | hq
        · exact ⟨((R37.slc).ext X40).ext W, Row.pb R37⟩
        · rw [List.mem_singleton] at hq; subst hq
          exact ⟨(R39.slc).ext W, Row.pb R39⟩
      · have ef : flatS [(s37, hbD { f with f_part := i }), (s39, (bs.drop (i.toNat * 104)).take 104)] = laySec f bs i.toNat := by
          unfold laySec
          rw [show ((i.toNat : Nat) : Int) = i from by omega]
          simp [flatS]
        rw [ef] at R44
        have E := ((X38.trans (X40.mono z38)).trans (W.mono (by omega))).trans (X44.mono (by omega))
        refine j4 h44 s43 (laySec f bs i.toNat) iN (.inr (F2.trans (DF.of_ext E))) (F2.trans (DF.of_ext E)) ⟨i, Q2.ext E Q2.lt⟩ (D2.ext E) (Blk.ext P2 E P2.lt) R44.slc (Row.pb R44) (by rw [if_pos cc])
    · rw [if_neg (by rw [decide_eq_true_eq]; exact cc)]
      cases wiped with
      | false =>
        rw [if_pos (by simp)]
        refine j2 ?_
        rw [if_neg (by simp)] at eN; omega
      | true =>
        rw [if_neg (by simp)]
        rw [if_pos rfl] at eN
        refine j4 h1 ⟨none, 0, 0⟩ [] (by omega) (.inr F1) F1 ⟨pt, Q1⟩ D1 P1 ⟨fun _ => rfl, fun a ha => by cases ha⟩ rfl (by rw [if_neg cc])
  · rw [if_neg (by rw [decide_eq_true_eq]; exact ck)]
    exact j2 (by omega)
end Go.Q.Yf
/- Slot: what is saved. -/
namespace Go.Q.Yf
variable {B c : Nat} {h h' : Heap} {d rn rs pr : Nat} {X : DK}
theorem gr_nn (g : GoodX X) (fr : Int) : ∀ n, 0 ≤ grD X fr n
  | 0 => by rw [grD]; omega
  | n + 1 => by
    have ih := gr_nn g fr n
    have := (fld_bd (read_B g (fr + n)) 0 8).1
    rw [grD]
    split
    · split
      · exact this
      · exact ih
    · exact ih
def BP (X : DK) (fr kk slot : Int) : Prop :=
  (slot = -1 ∧ ¬ IsW X fr kk 0 ∧ ¬ IsW X fr kk 1) ∨ (slot = 0 ∧ IsW X fr kk 0 ∧ (IsW X fr kk 1 → numW X fr kk 1 ≤ numW X fr kk 0)) ∨ (slot = 1 ∧ IsW X fr kk 1 ∧ (IsW X fr kk 0 → numW X fr kk 1 > numW X fr kk 0))
theorem BestS.bp {h0 : Heap} {fr kk slot n : Int} {s : Slc} (b : BestS h0 h X fr kk slot s n) : BP X fr kk slot := by
  rcases b with ⟨a, _, _, b, c⟩ | ⟨a, t, b⟩ | ⟨a, t, b⟩
  · exact .inl ⟨a, b, c⟩
  · exact .inr (.inl ⟨a, t.w, b⟩)
  · exact .inr (.inr ⟨a, t.w, b⟩)
def sumD (bs : List Int) : Int := numL ((shaD bs).take 8)
theorem sum_bd (bs : List Int) : 0 ≤ sumD bs ∧ sumD bs < 18446744073709551616 := by
  have b := numL_bd (l := (shaD bs).take 8) (isB_take (shaD_B bs) 8)
  have l : ((shaD bs).take 8).length = 8 := by rw [List.length_take, shaD_len]; rfl
  rw [l, show (256 : Int) ^ 8 = 18446744073709551616 from by decide] at b
  exact b
def headD (gr : Int) (bs : List Int) : S_slot_head := ⟨gr + 1, 0, prtD bs.length, bs.length, sumD bs⟩
def toN (kk : Int) (bs : List Int) (wiped : Bool) : Nat := if wiped = true then kk.toNat else (prtD bs.length).toNat
def LayR (X : DK) (fr kk : Int) (bs : List Int) (wiped : Bool) (r : Int × Int) (Y : DK) : Prop :=
  (prtD bs.length > kk ∧ r = (0, 3) ∧ Y = X) ∨ (prtD bs.length ≤ kk ∧ grD X fr (2 * kk).toNat ≥ 4611686018427387904 ∧ r = (0, 12) ∧ Y = X) ∨
  (prtD bs.length ≤ kk ∧ grD X fr (2 * kk).toNat < 4611686018427387904 ∧ ∃ slot t, BP X fr kk slot ∧ t = (if slot = 0 then 1 else 0) ∧ (r, Y) = layD (fr + t * kk) (headD (grD X fr (2 * kk).toNat) bs) bs X (toN kk bs wiped))
theorem LayJ1_ok {fr kk t : Int} {s : Slc} {bs : List Int} {wiped : Bool} {k : Int × Int → Heap → Prop} (D : DAt B c h d rn rs X) (P : PairAt h pr d fr kk) (r : R0 h) (g : GoodX X) (f0 : 0 ≤ fr ∧ fr ≤ 2000) (k0 : 1 ≤ kk ∧ kk ≤ 512) (t0 : 0 ≤ t ∧ t ≤ 1)
    (hs : ∀ h', DF d rn rs h h' → SlcAt h' s (b8 bs)) (sl : s.len = bs.length) (sc : s.len ≤ s.cap) (bl : bs.length ≤ 60000) (pk : prtD bs.length ≤ kk) (gl : grD X fr (2 * kk).toNat < 4611686018427387904)
    (H : ∀ c' h', c' ≤ c + 600 → DAt B c' h' d rn rs (layD (fr + t * kk) (headD (grD X fr (2 * kk).toNat) bs) bs X (toN kk bs wiped)).2 → DF d rn rs h h' → k (layD (fr + t * kk) (headD (grD X fr (2 * kk).toNat) bs) bs X (toN kk bs wiped)).1 h') :
    slot_Pair_lay_j1 (some ⟨pr, 0, none⟩) s wiped (prtD bs.length) t k h := by
  have r0 := r.pos
  have p1 : 1 ≤ prtD bs.length := by unfold prtD; split <;> omega
  unfold slot_Pair_lay_j1
  refine Greatest_ok D P g f0 k0 fun h1 X1 => ?_
  have z1 := X1.size
  have gn := gr_nn g fr (2 * kk).toNat
  generalize grD X fr (2 * kk).toNat = gr at *
  refine ⟨_, _, rfl, rfl, ?_⟩
  have V := Blk.push h1 [Slc.v s] 23
  have W2 := Ext.push h1 (.cells ([Slc.v s] : List Value).toArray 23) (Nat.le_refl _)
  generalize h1.push (.cells ([Slc.v s] : List Value).toArray 23) = h2 at *
  have X2 : Ext h.size h h2 := X1.trans (W2.mono z1)
  refine Of_ok (bs := bs) (r.ext X2 r0) (V.slc (o := 0) (n := 1) rfl) rfl (hs h2 (DF.of_ext X2)) sl bl fun h3 X3 => ?_
  have X03 := X2.trans (X3.mono X2.size)
  refine Short_ok (shaD_len _) (shaD_B _) fun h4 X4 => ?_
  have X04 := X03.trans (X4.mono X03.size)
  refine ⟨_, _, rfl, rfl, ?_⟩
  have U := Blk.push h4 (S_slot_head.cs zHd) 95
  have W5 := Ext.push h4 (.cells (S_slot_head.cs zHd).toArray 95) (Nat.le_refl _)
  generalize h4.push (.cells (S_slot_head.cs zHd).toArray 95) = h5 at *
  refine ⟨_, WrsAt.of_blk U (by show 5 ≤ 5; omega), rfl, ?_⟩
  rw [wrapU64 (x := gr + 1) (by omega) (by omega), sl]
  have eh : (⟨gr + 1, 0, prtD bs.length, ((bs.length : Nat) : Int), numL ((shaD bs).take 8)⟩ : S_slot_head) = headD gr bs := rfl
  rw [eh]
  have U6 := U.sets_all (vs := S_slot_head.cs (headD gr bs)) rfl
  have X6 : Ext h4.size h4 (setsH h5 ⟨h4.size, 0, none⟩ 0 (S_slot_head.cs (headD gr bs))) := W5.trans (Ext.sets _ _ _ (Nat.le_refl _))
  generalize setsH h5 ⟨h4.size, 0, none⟩ 0 (S_slot_head.cs (headD gr bs)) = h6 at *
  have X06 := X04.trans (X6.mono X04.size)
  have P6 : PairAt h6 pr d fr kk := Blk.ext P X06 P.lt
  have D6 := D.ext X06
  refine ⟨_, rfl, kk, by rw [add_mk, P6.cell]; rfl, ?_⟩
  have sb := sum_bd bs
  exact LayL3_ok (hb := h4) (f := headD gr bs) (N := toN kk bs wiped) (c := c) (fun h' F' => hs h' ((DF.of_ext X04).trans F')) sl sc bl ⟨by show 0 ≤ gr + 1; omega, ⟨Int.le_refl _, by show (0 : Int) < 65536; decide⟩, ⟨by show 0 ≤ prtD bs.length; omega, by show prtD bs.length < 65536; omega⟩, ⟨by show (0 : Int) ≤ ((bs.length : Nat) : Int); omega, by show ((bs.length : Nat) : Int) < 4294967296; omega⟩, sb.1⟩ rfl pk f0 k0 t0 rfl (DF.of_ext X6) U6 D6 P6
    fun c' h' hc D' F' => H c' h' hc D' ((DF.of_ext X04).trans F')
theorem Lay_ok {fr kk : Int} {s : Slc} {bs : List Int} {wiped : Bool} {k : Int × Int → Heap → Prop} (D : DAt B c h d rn rs X) (P : PairAt h pr d fr kk) (r : R0 h) (g : GoodX X) (f0 : 0 ≤ fr ∧ fr ≤ 2000) (k0 : 1 ≤ kk ∧ kk ≤ 512)
    (hs : ∀ h', DF d rn rs h h' → SlcAt h' s (b8 bs)) (sl : s.len = bs.length) (sc : s.len ≤ s.cap) (bl : bs.length ≤ 60000)
    (H : ∀ rr Y c' h', LayR X fr kk bs wiped rr Y → c' ≤ c + 600 → DAt B c' h' d rn rs Y → DF d rn rs h h' → k rr h') : slot_Pair_lay (some ⟨pr, 0, none⟩) s wiped k h := by
  have r0 := r.pos
  unfold slot_Pair_lay
  rw [sl]
  refine Parts_ok (by omega) (by omega) ⟨_, rfl, kk, by rw [add_mk, P.cell]; rfl, ?_⟩
  by_cases q1 : prtD bs.length > kk
  · rw [if_pos (by rw [decide_eq_true_eq]; exact q1)]
    exact H _ X c h (.inl ⟨q1, rfl, rfl⟩) (by omega) D (DF.of_ext (Ext.refl _ _))
  rw [if_neg (by rw [decide_eq_true_eq]; exact q1)]
  refine Greatest_ok D P g f0 k0 fun h1 X1 => ?_
  by_cases q2 : grD X fr (2 * kk).toNat ≥ 4611686018427387904
  · rw [if_pos (by rw [decide_eq_true_eq]; exact q2)]
    exact H _ X c h1 (.inr (.inl ⟨by omega, q2, rfl, rfl⟩)) (by omega) (D.ext X1) (DF.of_ext X1)
  rw [if_neg (by rw [decide_eq_true_eq]; exact q2)]
  refine Best_ok (D.ext X1) (Blk.ext P X1 P.lt) (r.ext X1 r0) g f0 k0 fun slot s2 n2 h2 b X2 => ?_
  have X02 := X1.trans (X2.mono X1.size)
  have fin : ∀ t : Int, t = (if slot = 0 then 1 else 0) → slot_Pair_lay_j1 (some ⟨pr, 0, none⟩) s wiped (prtD bs.length) t k h2 := fun t ht => by
    refine LayJ1_ok (D.ext X02) (Blk.ext P X02 P.lt) (r.ext X02 r0) g f0 k0 (by rw [ht]; split <;> omega) (fun h' F' => hs h' ((DF.of_ext X02).trans F')) sl sc bl (by omega) (by omega) fun c' h' hc D' F' => ?_
    exact H _ _ c' h' (.inr (.inr ⟨by omega, by omega, slot, t, b.bp, ht, rfl⟩)) hc D' ((DF.of_ext X02).trans F')
  by_cases q3 : slot = 0
  · rw [if_pos (by simpa using q3)]
    exact fin 1 (by rw [if_pos q3])
  · rw [if_neg (by simpa using q3)]
    exact fin 0 (by rw [if_neg q3])
theorem Save_ok {fr kk : Int} {s : Slc} {bs : List Int} {k : Int × Int → Heap → Prop} (D : DAt B c h d rn rs X) (P : PairAt h pr d fr kk) (r : R0 h) (g : GoodX X) (f0 : 0 ≤ fr ∧ fr ≤ 2000) (k0 : 1 ≤ kk ∧ kk ≤ 512)
    (hs : ∀ h', DF d rn rs h h' → SlcAt h' s (b8 bs)) (sl : s.len = bs.length) (sc : s.len ≤ s.cap) (bl : bs.length ≤ 60000)
    (H : ∀ rr Y c' h', LayR X fr kk bs false rr Y → c' ≤ c + 600 → DAt B c' h' d rn rs Y → DF d rn rs h h' → k rr h') : slot_Pair_Save (some ⟨pr, 0, none⟩) s k h := by
  unfold slot_Pair_Save
  rw [if_neg (by simp)]
  exact Lay_ok D P r g f0 k0 hs sl sc bl H
theorem SaveNil_ok {s : Slc} {k : Int × Int → Heap → Prop} (H : k (0, 10) h) : slot_Pair_Save none s k h := by
  unfold slot_Pair_Save; rw [if_pos (by simp)]; exact H
theorem WipeNil_ok {s : Slc} {k : Int × Int → Heap → Prop} (H : k (0, 10) h) : slot_Pair_Wipe none s k h := by
  unfold slot_Pair_Wipe; rw [if_pos (by simp)]; exact H
theorem LoadNil_ok {k : Slc × Int × Int → Heap → Prop} (H : k (⟨none, 0, 0⟩, 0, 6) h) : slot_Pair_Load none k h := by
  unfold slot_Pair_Load; rw [if_pos (by simp)]; exact H
def roomD (fr kk : Int) : Bool := decide (1 ≤ kk ∧ kk ≤ 512 ∧ 0 ≤ fr ∧ fr ≤ 1024 - 2 * kk)
theorem OpenNil_ok {fr kk : Int} {k : Option Addr × Int → Heap → Prop} (H : k (none, 1) h) : slot_Open none fr kk k h := by
  unfold slot_Open; rw [if_pos (by simp)]; exact H
theorem Open_ok {fr kk : Int} {k : Option Addr × Int → Heap → Prop} (f1 : -9223372036854775808 ≤ fr ∧ fr < 9223372036854775808) (k1 : -9223372036854775808 ≤ kk ∧ kk < 9223372036854775808)
    (H0 : roomD fr kk = false → k (none, 1) h) (H1 : roomD fr kk = true → ∀ pr h', PairAt h' pr d fr kk → Ext h.size h h' → h.size ≤ pr → k (some ⟨pr, 0, none⟩, 0) h') : slot_Open (some ⟨d, 0, none⟩) fr kk k h := by
  unfold slot_Open
  by_cases q : 1 ≤ kk ∧ kk ≤ 512 ∧ 0 ≤ fr ∧ fr ≤ 1024 - 2 * kk
  · rw [wrapI64 (x := 2 * kk) (by omega) (by omega), wrapI64 (x := 1024 - 2 * kk) (by omega) (by omega)]
    rw [if_neg (by simp only [Bool.or_eq_true, decide_eq_true_eq, Option.isNone_some]; simp; omega)]
    exact ⟨_, _, rfl, rfl, H1 (by unfold roomD; rw [decide_eq_true_eq]; exact q) _ _ (Blk.push _ _ _) (Ext.push _ _ (Nat.le_refl _)) (Nat.le_refl _)⟩
  · rw [if_pos ?_]
    · exact H0 (by unfold roomD; rw [decide_eq_false_iff_not]; exact q)
    · simp only [Bool.or_eq_true, decide_eq_true_eq]
      by_cases a : kk < 1
      · exact .inl (.inl (.inl (.inr a)))
      by_cases b : kk > 1024
      · exact .inl (.inl (.inr b))
      by_cases c' : fr < 0
      · exact .inl (.inr c')
      rw [wrapI64 (x := 2 * kk) (by omega) (by omega), wrapI64 (x := 1024 - 2 * kk) (by omega) (by omega)]
      exact .inr (by omega)
end Go.Q.Yf
/- Slot: the document's example, plainly. -/
namespace Go.Q.Yf
theorem pad_B {bs : List Int} (h : isB bs) : isB (padB bs) := fun b hb => by
  unfold padB at hb
  rcases List.mem_append.1 hb with hb | hb
  · exact h b hb
  · have := (List.mem_replicate.1 hb).2; omega
theorem app_B {a b : List Int} (h1 : isB a) (h2 : isB b) : isB (a ++ b) := fun x hx => (List.mem_append.1 hx).elim (h1 x) (h2 x)
theorem hb_B (f : S_slot_head) : isB (hbD f) := app_B (app_B (app_B (app_B (formL_B _ _) (formL_B _ _)) (formL_B _ _)) (formL_B _ _)) (formL_B _ _)
theorem sec_B {f : S_slot_head} {bs : List Int} {i : Nat} (h : isB bs) : isB (laySec f bs i) := app_B (hb_B _) (isB_take (isB_drop h _) _)
theorem sec_le (f : S_slot_head) (bs : List Int) (i : Nat) : (laySec f bs i).length ≤ 128 := by
  unfold laySec
  rw [List.length_append, hbD_len]
  have : ((bs.drop (i * 104)).take 104).length ≤ 104 := List.length_take_le _ _
  omega
theorem secB_pad {bs : List Int} {t : Bool} (h : bs.length ≤ 128) : secB ⟨padB bs, t⟩ = padB bs := nrm_id (pad_len h)
theorem zero_B : isB (nrm 128 []) := fun b hb => by
  rw [nrm_nil] at hb
  have := (List.mem_replicate.1 hb).2; omega
theorem good_put {m : List (Int × Sec)} {k : Int} {v : Sec} (g : ∀ a, isB (secB ((mget m a).getD zSec))) (hv : isB (secB v)) : ∀ a, isB (secB ((mget (mput m k v) a).getD zSec)) := fun a => by
  rw [mget_put]
  split
  · exact hv
  · exact g a
/-- the head of a sector that was laid -/
theorem hd_sec {f : S_slot_head} {bs : List Int} {i : Nat} (n : 0 ≤ f.f_n ∧ f.f_n < 18446744073709551616) (hi : i < 65536) (q : 0 ≤ f.f_parts ∧ f.f_parts < 65536) (s : 0 ≤ f.f_size ∧ f.f_size < 4294967296) (t : 0 ≤ f.f_sum ∧ f.f_sum < 18446744073709551616) :
    hdD (padB (laySec f bs i)) = { f with f_part := (i : Int) } := by
  unfold padB laySec
  generalize (bs.drop (i * 104)).take 104 = r
  generalize List.replicate (128 - (hbD { f with f_part := (i : Int) } ++ r).length) (0 : Int) = z
  have e1 : fld (hbD { f with f_part := (i : Int) } ++ r ++ z) 0 8 = f.f_n := (show numL (formL f.f_n 8) = _ from numL_form8 n.1 n.2)
  have e2 : fld (hbD { f with f_part := (i : Int) } ++ r ++ z) 8 2 = (i : Int) := (show numL (formL (i : Int) 2) = _ from numL_form2 (by omega) (by omega))
  have e3 : fld (hbD { f with f_part := (i : Int) } ++ r ++ z) 10 2 = f.f_parts := (show numL (formL f.f_parts 2) = _ from numL_form2 q.1 q.2)
  have e4 : fld (hbD { f with f_part := (i : Int) } ++ r ++ z) 12 4 = f.f_size := (show numL (formL f.f_size 4) = _ from numL_form4 s.1 s.2)
  have e5 : fld (hbD { f with f_part := (i : Int) } ++ r ++ z) 16 8 = f.f_sum := (show numL (formL f.f_sum 8) = _ from numL_form8 t.1 t.2)
  unfold hdD
  rw [e1, e2, e3, e4, e5]
theorem drop_sec (f : S_slot_head) (bs : List Int) (i : Nat) : (padB (laySec f bs i)).drop 24 = (bs.drop (i * 104)).take 104 ++ List.replicate (128 - (laySec f bs i).length) 0 := by
  unfold padB
  have h : (hbD { f with f_part := (i : Int) }).length = 24 := hbD_len _
  conv => lhs; unfold laySec
  rw [List.append_assoc, List.drop_append_of_le_length (by omega), List.drop_of_length_le (by omega), List.nil_append]
  rfl
abbrev sA : List Int := padB (laySec (headD 0 [97]) [97] 0)
abbrev sB' : List Int := padB (laySec (headD 1 [98]) [98] 0)
theorem len_sec {f : S_slot_head} {b : Int} : (laySec f [b] 0).length = 25 := by
  unfold laySec; rw [List.length_append, hbD_len]; rfl
/-- a slot of one sector that holds one byte is whole -/
theorem one_whole {X : DK} {fr kk slot gr b : Int} (k1 : 1 ≤ kk) (g0 : 0 ≤ gr ∧ gr < 4611686018427387904) (hr : readD X (fr + slot * kk) = (padB (laySec (headD gr [b]) [b] 0), 0)) : IsW X fr kk slot ∧ numW X fr kk slot = gr + 1 ∧ outW X (fr + slot * kk) = [b] := by
  obtain ⟨p, ep⟩ : ∃ p, p = fr + slot * kk := ⟨_, rfl⟩
  unfold IsW numW
  rw [← ep] at hr ⊢
  have sb := sum_bd [b]
  have pp : prtD (([b] : List Int).length : Int) = 1 := by show prtD 1 = 1; decide
  have hf : fst1 X p = headD gr [b] := by
    unfold fst1
    rw [hr]
    have := hd_sec (f := headD gr [b]) (bs := [b]) (i := 0) ⟨by show 0 ≤ gr + 1; omega, by show gr + 1 < _; omega⟩ (by omega) (by show 0 ≤ prtD _ ∧ prtD _ < 65536; rw [pp]; omega) (by show (0 : Int) ≤ 1 ∧ (1 : Int) < 4294967296; omega) sb
    exact this
  have fp : (fst1 X p).f_parts = 1 := by rw [hf]; exact pp
  have fs : (fst1 X p).f_size = 1 := by rw [hf]; rfl
  have ho : outW X p = [b] := by
    unfold outW
    rw [fp, fs, show (1 : Int).toNat = 0 + 1 from rfl, catW_succ]
    rw [show p + ((0 : Nat) : Int) = p from by omega, hr]
    show (catW X p 0 ++ (padB (laySec (headD gr [b]) [b] 0)).drop 24).take (0 + 1) = [b]
    rw [drop_sec]; rfl
  refine ⟨⟨by rw [hr], ⟨⟨by rw [fp]; omega, by rw [fp]; omega, by rw [fp, fs]; decide⟩, fun i hi => ?_, ?_⟩⟩, by rw [hf]; rfl, ho⟩
  · rw [fp] at hi
    have : i = 0 := by omega
    subst this
    unfold OkI
    rw [show p + ((0 : Nat) : Int) = p from by omega, hr]
    refine ⟨rfl, ?_⟩
    have e : hdD (padB (laySec (headD gr [b]) [b] 0)) = fst1 X p := by unfold fst1; rw [hr]
    show hdD (padB (laySec (headD gr [b]) [b] 0)) = _
    rw [e, hf]; rfl
  · rw [ho, hf]; rfl
theorem not_whole {X : DK} {fr kk slot : Int} (h : (readD X (fr + slot * kk)).2 ≠ 0 ∨ (readD X (fr + slot * kk)).1 = nrm 128 []) : ¬ IsW X fr kk slot := fun w => by
  rcases h with h | h
  · exact h w.1
  · have := w.2.1.1
    unfold fst1 at this
    rw [h] at this
    revert this
    decide
end Go.Q.Yf
/- Slot: the document's example, plainly: its states. -/
namespace Go.Q.Yf
theorem rdP {X : DK} {a : Int} {sec : List Int} (ha : 0 ≤ a ∧ a < 1024) (m : mget X.now a = some ⟨padB sec, false⟩) (l : sec.length ≤ 128) : readD X a = (padB sec, 0) := by
  unfold readD
  rw [if_neg (by omega), m]
  show (if false = true then _ else (secB ⟨padB sec, false⟩, (0 : Int))) = _
  rw [if_neg (by simp), secB_pad l]
theorem rdZ {X : DK} {a : Int} (ha : 0 ≤ a ∧ a < 1024) (m : mget X.now a = none) : readD X a = (nrm 128 [], 0) := by
  unfold readD
  rw [if_neg (by omega), m]
  rfl
theorem wr_ok {X : DK} {a : Int} {sec : List Int} (hd : X.dead = false) (hf : X.fuse = 0) (ha : 0 ≤ a ∧ a < 1024) (l : sec.length ≤ 128) :
    writeD X a sec = (0, { laidD X a sec with ops := IntKind.i64.wrap (X.ops + 1) }) := by
  unfold writeD
  rw [if_neg (by rw [hd]; simp), if_neg (by omega), if_neg (by omega)]
  unfold burnD
  rw [if_pos (show (laidD X a sec).fuse = 0 from hf)]
  rfl
theorem sy_ok {X : DK} (hd : X.dead = false) (hf : X.fuse = 0) : syncD X = (0, { X with ops := IntKind.i64.wrap (X.ops + 1), safe := [] }) := by
  unfold syncD
  rw [if_neg (by rw [hd]; simp)]
  unfold burnD
  rw [if_pos hf, if_neg (by simp)]
theorem lay1 {X : DK} {p : Int} {f : S_slot_head} {bs : List Int} (hd : X.dead = false) (hf : X.fuse = 0) (ha : 0 ≤ p ∧ p < 1024) (fp : f.f_parts = 1) :
    layD p f bs X 1 = ((f.f_n, 0), ⟨mput X.now p ⟨padB (laySec f bs 0), false⟩, [], 0, false, IntKind.i64.wrap (IntKind.i64.wrap (X.ops + 1) + 1)⟩) := by
  have e1 : layUp p f bs X 1 = (0, { laidD X p (laySec f bs 0) with ops := IntKind.i64.wrap (X.ops + 1) }) := by
    rw [layUp, layUp, if_neg (by simp), if_pos (by rw [fp]; decide)]
    show writeD X (p + ((0 : Nat) : Int)) (laySec f bs 0) = _
    rw [show p + ((0 : Nat) : Int) = p from by omega]
    exact wr_ok hd hf ha (sec_le _ _ _)
  unfold layD
  rw [e1, if_neg (by simp)]
  have e2 := sy_ok (X := { laidD X p (laySec f bs 0) with ops := IntKind.i64.wrap (X.ops + 1) }) hd hf
  show (if (syncD { laidD X p (laySec f bs 0) with ops := IntKind.i64.wrap (X.ops + 1) }).1 ≠ 0 then _ else ((f.f_n, (0 : Int)), (syncD { laidD X p (laySec f bs 0) with ops := IntKind.i64.wrap (X.ops + 1) }).2)) = _
  rw [e2, if_neg (by simp)]
  show ((f.f_n, (0 : Int)), (⟨(laidD X p (laySec f bs 0)).now, [], X.fuse, X.dead, _⟩ : DK)) = _
  rw [hf, hd]; rfl
abbrev X0 : DK := ⟨[], [], 0, false, 0⟩
def Y1 : DK := ⟨[(5, ⟨sA, false⟩)], [], 0, false, 2⟩
def Y2 : DK := ⟨[(5, ⟨sA, false⟩), (7, ⟨sB', false⟩)], [], 0, false, 4⟩
def Y3 : DK := ⟨[(5, ⟨sA, false⟩), (7, ⟨padB [], false⟩)], [(7, ⟨sB', false⟩)], 0, false, 5⟩
def Y4 : DK := ⟨[(5, ⟨sA, false⟩), (7, ⟨[], true⟩)], [], 0, false, 5⟩
theorem fn_zero : (hdD (nrm 128 [])).f_n = 0 := by decide
theorem gr_step {X : DK} {fr : Int} {n : Nat} {g : Int} (e : grD X fr n = g) (g0 : 0 ≤ g) (h : readD X (fr + n) = (nrm 128 [], 0)) : grD X fr (n + 1) = g := by
  rw [grD, h, if_pos rfl, e]
  unfold fst1
  rw [h, fn_zero, if_neg (by omega)]
theorem gr0 : grD X0 5 4 = 0 := by
  refine gr_step (gr_step (gr_step (gr_step rfl (by omega) ?_) (by omega) ?_) (by omega) ?_) (by omega) ?_ <;> exact rdZ (by decide) rfl
theorem r5 : readD Y1 5 = (sA, 0) := rdP (by decide) rfl (by rw [len_sec]; omega)
theorem fnA : (hdD sA).f_n = 1 := by
  have sb := sum_bd [97]
  have pp : prtD (([97] : List Int).length : Int) = 1 := by show prtD 1 = 1; decide
  rw [show hdD sA = _ from hd_sec (f := headD 0 [97]) (bs := [97]) (i := 0) ⟨by decide, by decide⟩ (by omega) (by rw [show (headD 0 [97]).f_parts = 1 from pp]; omega) (by show (0 : Int) ≤ 1 ∧ (1 : Int) < 4294967296; omega) sb]
  rfl
theorem gr1 : grD Y1 5 4 = 1 := by
  refine gr_step (gr_step (gr_step (g := 1) ?_ (by omega) ?_) (by omega) ?_) (by omega) ?_
  · rw [grD, show (5 : Int) + ((0 : Nat) : Int) = 5 from rfl, r5, if_pos rfl]
    unfold fst1
    rw [r5, fnA]; rfl
  all_goals exact rdZ (by decide) rfl
theorem bp_none {X : DK} {fr kk slot : Int} (b : BP X fr kk slot) (n0 : ¬ IsW X fr kk 0) (n1 : ¬ IsW X fr kk 1) : slot = -1 := by
  rcases b with ⟨e, _⟩ | ⟨_, w, _⟩ | ⟨_, w, _⟩
  · exact e
  · exact absurd w n0
  · exact absurd w n1
theorem bp_first {X : DK} {fr kk slot : Int} (b : BP X fr kk slot) (w0 : IsW X fr kk 0) (n1 : ¬ IsW X fr kk 1) : slot = 0 := by
  rcases b with ⟨_, n, _⟩ | ⟨e, _⟩ | ⟨_, w, _⟩
  · exact absurd w0 n
  · exact e
  · exact absurd w n1
theorem p1 : prtD (([97] : List Int).length : Int) = 1 := by show prtD 1 = 1; decide
theorem sv1 {r : Int × Int} {Y : DK} (h : LayR X0 5 2 [97] false r Y) : r = (1, 0) ∧ Y = Y1 := by
  have g4 : grD X0 5 (2 * 2 : Int).toNat = 0 := gr0
  rcases h with ⟨a, _⟩ | ⟨_, b, _⟩ | ⟨_, _, slot, t, bp, et, el⟩
  · rw [p1] at a; omega
  · rw [g4] at b; omega
  · have s := bp_none bp (not_whole (.inr (by rw [rdZ (by decide) rfl]))) (not_whole (.inr (by rw [rdZ (by decide) rfl])))
    rw [s, if_neg (by decide)] at et
    subst et
    rw [g4, show toN 2 [97] false = 1 from by unfold toN; rw [if_neg (by simp), p1]; rfl, lay1 rfl rfl (by decide) p1] at el
    exact ⟨congrArg (·.1) el, congrArg (·.2) el⟩
theorem w1 : IsW Y1 5 2 0 := (one_whole (gr := 0) (b := 97) (by omega) (by omega) r5).1
theorem sv2 {r : Int × Int} {Y : DK} (h : LayR Y1 5 2 [98] false r Y) : r = (2, 0) ∧ Y = Y2 := by
  have g4 : grD Y1 5 (2 * 2 : Int).toNat = 1 := gr1
  have p2 : prtD (([98] : List Int).length : Int) = 1 := p1
  rcases h with ⟨a, _⟩ | ⟨_, b, _⟩ | ⟨_, _, slot, t, bp, et, el⟩
  · rw [p2] at a; omega
  · rw [g4] at b; omega
  · have s := bp_first bp w1 (not_whole (.inr (by rw [rdZ (by decide) rfl])))
    rw [s, if_pos rfl] at et
    subst et
    rw [g4, show toN 2 [98] false = 1 from by unfold toN; rw [if_neg (by simp), p2]; rfl, lay1 rfl rfl (by decide) p2] at el
    exact ⟨congrArg (·.1) el, congrArg (·.2) el⟩
theorem wr3 : writeD Y2 7 [] = (0, Y3) := by
  rw [wr_ok rfl rfl (by decide) (by simp)]
  rfl
theorem bt4 : bootD Y3 [2] = Y4 := by
  unfold bootD keysD
  have : srtI (Y3.safe.map (·.1)) = [7] := by
    show srtI [7] = [7]
    unfold srtI
    simp
  rw [this]
  rfl
theorem r5' : readD Y4 5 = (sA, 0) := rdP (by decide) rfl (by rw [len_sec]; omega)
theorem r7' : (readD Y4 7).2 ≠ 0 := by
  have : readD Y4 7 = ([], 9) := by
    unfold readD
    rw [if_neg (by decide)]
    rfl
  rw [this]; decide
theorem end4 : IsW Y4 5 2 0 ∧ numW Y4 5 2 0 = 1 ∧ outW Y4 (5 + 0 * 2) = [97] := one_whole (gr := 0) (b := 97) (by omega) (by omega) r5'
theorem no4 : ¬ IsW Y4 5 2 1 := not_whole (.inl r7')
theorem bA : isB sA := pad_B (sec_B (fun b hb => by rw [List.mem_singleton] at hb; omega))
theorem bB : isB sB' := pad_B (sec_B (fun b hb => by rw [List.mem_singleton] at hb; omega))
theorem gX0 : GoodX X0 := ⟨fun a => zero_B, fun a => zero_B⟩
theorem sA_B : isB (secB ⟨sA, false⟩) := by rw [secB_pad (by rw [len_sec]; omega)]; exact bA
theorem sB_B : isB (secB ⟨sB', false⟩) := by rw [secB_pad (by rw [len_sec]; omega)]; exact bB
theorem gY1 : GoodX Y1 := ⟨good_put (m := []) (k := 5) (fun a => zero_B) sA_B, fun a => zero_B⟩
theorem gY2 : GoodX Y2 := ⟨good_put (m := [(5, ⟨sA, false⟩)]) (k := 7) gY1.1 sB_B, fun a => zero_B⟩
theorem gY4 : GoodX Y4 := ⟨good_put (m := [(5, ⟨sA, false⟩)]) (k := 7) (v := ⟨[], true⟩) gY1.1 zero_B, fun a => zero_B⟩
end Go.Q.Yf
/- Slot: what laying leaves, and what a boot makes of it, plainly. -/
namespace Go.Q.Yf
theorem DSame_ok {p0 p1 : Slc} {l m : List Int} {k : Bool → Heap → Prop} {h : Heap} (h0 : SlcAt h p0 (b8 l)) (l0 : p0.len = l.length) (h1 : SlcAt h p1 (b8 m)) (l1 : p1.len = m.length) (hb : l.length ≤ 4611686018427387904) (H : k (decide (l = m)) h) : ref01_Same p0 p1 k h := by
  unfold ref01_Same
  by_cases hlm : l.length = m.length
  · rw [if_neg (by simp [l0, l1, hlm])]
    refine ⟨fun i h' => 0 ≤ i ∧ i ≤ l.length ∧ l.take i.toNat = m.take i.toNat ∧ h' = h, fun i _ => (l.length - i).toNat, ⟨by omega, by omega, by simp, rfl⟩, ?_⟩
    rintro i h' ⟨i0, i1, he, rfl⟩
    unfold ref01_Same_l1b
    by_cases hi : i < l.length
    · rw [if_pos (by simp [l0]; omega)]
      have n0 : p0.a ≠ none := fun hn => by have := h0.1 hn; simp at this; simp [this] at hi; omega
      have n1 : p1.a ≠ none := fun hn => by have := h1.1 hn; simp at this; simp [this] at hlm; simp [hlm] at hi; omega
      obtain ⟨a, ha⟩ := Option.ne_none_iff_exists'.1 n0
      obtain ⟨b, hb'⟩ := Option.ne_none_iff_exists'.1 n1
      have hla : i.toNat < l.length := by omega
      have hma : i.toNat < m.length := by omega
      refine ⟨a, ha, i0, by omega, l[i.toNat], ?_, b, hb', i0, by omega, m[i.toNat], ?_, ?_⟩
      · rw [Nat.mul_one]; exact h0.2 a ha i.toNat _ (by simp [hla])
      · rw [Nat.mul_one]; exact h1.2 b hb' i.toNat _ (by simp [hma])
      · by_cases hv : l[i.toNat] = m[i.toNat]
        · rw [if_neg (by simp [hv]), wrapI64 (by omega) (by omega)]
          refine ⟨_, rfl, ⟨by omega, by omega, ?_, rfl⟩, by dsimp only; omega⟩
          rw [show (i + 1).toNat = i.toNat + 1 from by omega, List.take_succ_eq_append_getElem hla, List.take_succ_eq_append_getElem hma, he, hv]
        · rw [if_pos (by simpa using hv)]
          have : decide (l = m) = false := by
            rw [decide_eq_false_iff_not]
            rintro rfl
            exact hv rfl
          rw [← this]; exact H
    · rw [if_neg (by simp [l0]; omega)]
      have : l = m := by
        have e1 : l.take i.toNat = l := List.take_of_length_le (by omega)
        have e2 : m.take i.toNat = m := List.take_of_length_le (by omega)
        rw [e1, e2] at he; exact he
      simpa [this] using H
  · rw [if_pos (by simp [l0, l1]; omega)]
    have : decide (l = m) = false := by rw [decide_eq_false_iff_not]; rintro rfl; exact hlm rfl
    rw [← this]; exact H
theorem mget_mem' {K V : Type} [DecidableEq K] {a : K} : ∀ {l : List (K × V)}, a ∈ l.map (·.1) → ∃ v, mget l a = some v
  | [], h => by simp at h
  | p :: r, h => by
    unfold mget
    by_cases e : p.1 = a
    · rw [if_pos e]; exact ⟨_, rfl⟩
    · rw [if_neg e]
      rw [List.map_cons] at h
      rcases List.mem_cons.1 h with h | h
      · exact absurd h.symm e
      · exact mget_mem' h
/-- what stands at a place -/
def vD (X : DK) (a : Int) : Sec := (mget X.now a).getD zSec
def newS (f : S_slot_head) (bs : List Int) (n : Nat) : List Int := if (n : Int) < f.f_parts then laySec f bs n else []
def newV (f : S_slot_head) (bs : List Int) (n : Nat) : Sec := ⟨padB (newS f bs n), false⟩
theorem newS_le (f : S_slot_head) (bs : List Int) (n : Nat) : (newS f bs n).length ≤ 128 := by
  unfold newS
  split
  · exact sec_le _ _ _
  · simp
theorem newS_B {f : S_slot_head} {bs : List Int} {n : Nat} (h : isB bs) : isB (newS f bs n) := by
  unfold newS
  split
  · exact sec_B h
  · intro b hb; cases hb
/-- m sectors are laid -/
structure LU (X Y : DK) (p : Int) (f : S_slot_head) (bs : List Int) (m : Nat) : Prop where
  now : ∀ a, vD Y a = vD X a ∨ ∃ j : Nat, j < m ∧ a = p + j
  all : ∀ j : Nat, j < m → vD Y (p + j) = newV f bs j
  safe : ∀ a s, mget Y.safe a = some s → s = vD X a ∧ ∃ j : Nat, j < m ∧ a = p + j
theorem burn_now (X : DK) : (burnD X).2.now = X.now := by unfold burnD; split <;> rfl
theorem burn_safe (X : DK) : (burnD X).2.safe = X.safe := by unfold burnD; split <;> rfl
theorem burn_dead {X : DK} (h : X.dead = false) : (burnD X).2.dead = (burnD X).1 := by
  unfold burnD
  split
  · exact h
  · rfl
theorem LU.put {X Y : DK} {p : Int} {f : S_slot_head} {bs : List Int} {m : Nat} (L : LU X Y p f bs m) : LU X (burnD (laidD Y (p + m) (newS f bs m))).2 p f bs (m + 1) := by
  have en : ∀ a, vD (burnD (laidD Y (p + m) (newS f bs m))).2 a = if a = p + m then newV f bs m else vD Y a := fun a => by
    unfold vD
    rw [burn_now]
    show (mget (mput Y.now (p + m) ⟨padB (newS f bs m), false⟩) a).getD zSec = _
    rw [mget_put]
    split
    · rfl
    · rfl
  refine ⟨fun a => ?_, fun j hj => ?_, fun a s hs => ?_⟩
  · rw [en]
    by_cases e : a = p + m
    · exact .inr ⟨m, by omega, e⟩
    · rw [if_neg e]
      rcases L.now a with h | ⟨j, h1, h2⟩
      · exact .inl h
      · exact .inr ⟨j, by omega, h2⟩
  · rw [en]
    by_cases e : j = m
    · rw [if_pos (by rw [e]), e]
    · rw [if_neg (by omega)]; exact L.all j (by omega)
  · rw [burn_safe] at hs
    have old : mget Y.safe a = some s → s = vD X a ∧ ∃ j : Nat, j < m + 1 ∧ a = p + j := fun hs => by
      obtain ⟨h1, j, h2, h3⟩ := L.safe a s hs
      exact ⟨h1, j, by omega, h3⟩
    unfold laidD at hs
    dsimp only at hs
    split at hs
    · exact old hs
    · rw [mget_put] at hs
      by_cases e : a = p + m
      · rw [if_pos e] at hs
        cases hs
        refine ⟨?_, m, by omega, e⟩
        rw [e]
        rcases L.now (p + m) with h | ⟨j, h1, h2⟩
        · exact h
        · omega
      · rw [if_neg e] at hs
        exact old hs
theorem layUp_mid {X : DK} {p : Int} {f : S_slot_head} {bs : List Int} (hd : X.dead = false) (hs : X.safe = []) (p0 : 0 ≤ p) : ∀ n : Nat, p + n ≤ 1024 →
    ((layUp p f bs X n).1 = 0 ∧ (layUp p f bs X n).2.dead = false ∧ LU X (layUp p f bs X n).2 p f bs n) ∨ ((layUp p f bs X n).1 = 10 ∧ (layUp p f bs X n).2.dead = true ∧ ∃ m : Nat, m ≤ n ∧ LU X (layUp p f bs X n).2 p f bs m)
  | 0, _ => .inl ⟨rfl, hd, fun a => .inl rfl, fun j hj => by omega, fun a s h => by
      change mget X.safe a = some s at h
      rw [hs] at h; cases h⟩
  | n + 1, hn => by
    rcases layUp_mid (f := f) (bs := bs) hd hs p0 n (by omega) with ⟨e, dd, L⟩ | ⟨e, dd, m, hm, L⟩
    · have el : layUp p f bs X (n + 1) = (endD (burnD (laidD (layUp p f bs X n).2 (p + n) (newS f bs n))).1, (burnD (laidD (layUp p f bs X n).2 (p + n) (newS f bs n))).2) := by
        rw [layUp, if_neg (by rw [e]; simp)]
        show writeD (layUp p f bs X n).2 (p + n) (newS f bs n) = _
        unfold writeD
        rw [if_neg (by rw [dd]; simp), if_neg (by omega), if_neg (by have := newS_le f bs n; omega)]
      have bd := burn_dead (X := laidD (layUp p f bs X n).2 (p + n) (newS f bs n)) dd
      have Lp := L.put
      rw [el]
      dsimp only
      rw [bd]
      cases hb : (burnD (laidD (layUp p f bs X n).2 (p + n) (newS f bs n))).1 with
      | false => exact .inl ⟨rfl, rfl, Lp⟩
      | true => exact .inr ⟨rfl, rfl, n + 1, by omega, Lp⟩
    · have el : layUp p f bs X (n + 1) = layUp p f bs X n := by rw [layUp, if_pos (by rw [e]; simp)]
      rw [el]
      exact .inr ⟨e, dd, m, by omega, L⟩
theorem layD_end {X : DK} {p : Int} {f : S_slot_head} {bs : List Int} {N : Nat} (hd : X.dead = false) (hs : X.safe = []) (p0 : 0 ≤ p) (pN : p + N ≤ 1024) :
    ((layD p f bs X N).1.2 = 0 ∧ (layD p f bs X N).1.1 = f.f_n ∧ (layD p f bs X N).2.dead = false ∧ (layD p f bs X N).2.safe = [] ∧ LU X (layD p f bs X N).2 p f bs N) ∨ ((layD p f bs X N).1.2 = 10 ∧ (layD p f bs X N).2.dead = true ∧ ∃ m : Nat, m ≤ N ∧ LU X (layD p f bs X N).2 p f bs m) := by
  unfold layD
  rcases layUp_mid (f := f) (bs := bs) hd hs p0 N pN with ⟨e, dd, L⟩ | ⟨e, dd, m, hm, L⟩
  · rw [if_neg (by rw [e]; simp)]
    have bd := burn_dead (X := (layUp p f bs X N).2) dd
    have bn : ∀ a, vD (burnD (layUp p f bs X N).2).2 a = vD (layUp p f bs X N).2 a := fun a => by unfold vD; rw [burn_now]
    have es : syncD (layUp p f bs X N).2 = if (burnD (layUp p f bs X N).2).1 = true then (10, (burnD (layUp p f bs X N).2).2) else (0, { (burnD (layUp p f bs X N).2).2 with safe := [] }) := by
      unfold syncD
      rw [if_neg (by rw [dd]; simp)]
    rw [es]
    cases hb : (burnD (layUp p f bs X N).2).1 with
    | true =>
      rw [if_pos rfl, if_pos (by simp)]
      refine .inr ⟨rfl, by rw [bd, hb], N, Nat.le_refl _, fun a => by rw [bn]; exact L.now a, fun j hj => by rw [bn]; exact L.all j hj, fun a s h => by rw [burn_safe] at h; exact L.safe a s h⟩
    | false =>
      rw [if_neg (by simp), if_neg (by simp)]
      refine .inl ⟨rfl, rfl, by show (burnD (layUp p f bs X N).2).2.dead = false; rw [bd, hb], rfl, fun a => ?_, fun j hj => ?_, fun a s h => by cases h⟩
      · show vD (burnD (layUp p f bs X N).2).2 a = _ ∨ _
        rw [bn]; exact L.now a
      · show vD (burnD (layUp p f bs X N).2).2 _ = _
        rw [bn]; exact L.all j hj
  · rw [if_pos (by rw [e]; simp)]
    exact .inr ⟨e, dd, m, hm, L⟩
/-! ### the power comes back -/
theorem bootGo_or {fs : List Int} {safe now : List (Int × Sec)} {ks : List Int} (a : Int) : ∀ n, n ≤ ks.length →
    mget (bootGo fs safe ks n now) a = mget now a ∨ (a ∈ ks ∧ (mget (bootGo fs safe ks n now) a = some ((mget safe a).getD zSec) ∨ mget (bootGo fs safe ks n now) a = some ⟨[], true⟩))
  | 0, _ => .inl rfl
  | n + 1, hn => by
    have ih := bootGo_or (fs := fs) (safe := safe) (now := now) (ks := ks) a n (by omega)
    have hk : ks.getD n 0 ∈ ks := by
      rw [List.getD_eq_getElem?_getD, List.getElem?_eq_getElem (by omega)]
      exact List.getElem_mem _
    show mget (bootOne fs safe n (ks.getD n 0) (bootGo fs safe ks n now)) a = _ ∨ (_ ∧ (mget (bootOne fs safe n (ks.getD n 0) (bootGo fs safe ks n now)) a = _ ∨ mget (bootOne fs safe n (ks.getD n 0) (bootGo fs safe ks n now)) a = _))
    unfold bootOne
    by_cases ha : a = ks.getD n 0
    · rw [← ha] at hk ⊢
      split
      · exact .inr ⟨hk, .inl (by rw [mget_put, if_pos rfl])⟩
      · split
        · exact .inr ⟨hk, .inr (by rw [mget_put, if_pos rfl])⟩
        · exact ih
    · split
      · rw [mget_put, if_neg ha]; exact ih
      · split
        · rw [mget_put, if_neg ha]; exact ih
        · exact ih
theorem keys_mem {X : DK} {a : Int} (h : a ∈ keysD X) : ∃ v, mget X.safe a = some v := by
  unfold keysD srtI at h
  exact mget_mem' ((List.mergeSort_perm _ _).mem_iff.1 h)
/-- after a boot every place is as it was, as it was laid, or torn -/
theorem boot_tri {X Y : DK} {p : Int} {f : S_slot_head} {bs : List Int} {m : Nat} (L : LU X Y p f bs m) (fs : List Int) (a : Int) :
    vD (bootD Y fs) a = vD X a ∨ ∃ j : Nat, j < m ∧ a = p + j ∧ (vD (bootD Y fs) a = newV f bs j ∨ vD (bootD Y fs) a = ⟨[], true⟩) := by
  have b := bootGo_or (fs := fs) (safe := Y.safe) (now := Y.now) (ks := keysD Y) a Y.safe.length (by rw [keysD_len]; exact Nat.le_refl _)
  have ev : vD (bootD Y fs) a = (mget (bootGo fs Y.safe (keysD Y) Y.safe.length Y.now) a).getD zSec := rfl
  rcases b with b | ⟨hk, b | b⟩
  · have e : vD (bootD Y fs) a = vD Y a := by rw [ev, b]; rfl
    rw [e]
    rcases L.now a with h | ⟨j, h1, h2⟩
    · exact .inl h
    · exact .inr ⟨j, h1, h2, .inl (by rw [h2]; exact L.all j h1)⟩
  · obtain ⟨v, hv⟩ := keys_mem hk
    left
    rw [ev, b, hv]
    exact (L.safe a v hv).1
  · obtain ⟨v, hv⟩ := keys_mem hk
    obtain ⟨_, j, h1, h2⟩ := L.safe a v hv
    exact .inr ⟨j, h1, h2, .inr (by rw [ev, b]; rfl)⟩
theorem boot_nil {Y : DK} (h : Y.safe = []) (fs : List Int) (a : Int) : vD (bootD Y fs) a = vD Y a := by
  have ev : vD (bootD Y fs) a = (mget (bootGo fs Y.safe (keysD Y) Y.safe.length Y.now) a).getD zSec := rfl
  rw [ev, h]; rfl
/-! ### reading -/
theorem rd_cong {X Z : DK} {a : Int} (h : vD Z a = vD X a) : readD Z a = readD X a := by
  unfold readD
  unfold vD at h
  rw [h]
theorem rd_new {Z : DK} {a : Int} {f : S_slot_head} {bs : List Int} {j : Nat} (ha : 0 ≤ a ∧ a < 1024) (h : vD Z a = newV f bs j) : readD Z a = (padB (newS f bs j), 0) := by
  unfold readD
  unfold vD at h
  rw [if_neg (by omega), h]
  show (if false = true then _ else (secB (newV f bs j), (0 : Int))) = _
  rw [if_neg (by simp)]
  unfold newV
  rw [secB_pad (newS_le _ _ _)]
theorem rd_torn {Z : DK} {a : Int} (ha : 0 ≤ a ∧ a < 1024) (h : vD Z a = ⟨[], true⟩) : readD Z a = ([], 9) := by
  unfold readD
  unfold vD at h
  rw [if_neg (by omega), h]
  rfl
theorem newV_B {f : S_slot_head} {bs : List Int} {j : Nat} (h : isB bs) : isB (secB (newV f bs j)) := by
  unfold newV
  rw [secB_pad (newS_le _ _ _)]
  exact pad_B (newS_B h)
theorem good_of {Z : DK} (hs : Z.safe = []) (h : ∀ a, isB (secB (vD Z a))) : GoodX Z := ⟨h, fun a => by rw [hs]; exact zero_B⟩
/-! ### the greatest number -/
theorem gr_ge (X : DK) (fr : Int) : ∀ n i : Nat, i < n → (readD X (fr + i)).2 = 0 → (fst1 X (fr + i)).f_n ≤ grD X fr n
  | n + 1, i, hi, e => by
    rw [grD]
    by_cases q : i = n
    · subst q
      rw [if_pos e]
      split <;> omega
    · have := gr_ge X fr n i (by omega) e
      split
      · split <;> omega
      · exact this
theorem gr_le {X : DK} {fr G : Int} (G0 : 0 ≤ G) : ∀ n : Nat, (∀ i : Nat, i < n → (readD X (fr + i)).2 = 0 → (fst1 X (fr + i)).f_n ≤ G) → grD X fr n ≤ G
  | 0, _ => G0
  | n + 1, h => by
    have ih := gr_le G0 n fun i hi => h i (by omega)
    rw [grD]
    split
    · rename_i e
      split
      · exact h n (by omega) e
      · exact ih
    · exact ih
end Go.Q.Yf
/- Slot: a slot that was laid is whole; a slot that was left is as it was. -/
namespace Go.Q.Yf
theorem catW_cong {X Z : DK} {p : Int} {n : Nat} (h : ∀ i : Nat, i < n → readD Z (p + i) = readD X (p + i)) : catW Z p n = catW X p n := by
  unfold catW
  congr 1
  refine List.map_congr_left fun i hi => ?_
  rw [h i (List.mem_range.1 hi)]
theorem wh_cong {X Z : DK} {p kk : Int} (w : WholeC X p kk) (h : ∀ i : Nat, i < (fst1 X p).f_parts.toNat → readD Z (p + i) = readD X (p + i)) : WholeC Z p kk ∧ outW Z p = outW X p ∧ fst1 Z p = fst1 X p ∧ (readD Z p).2 = (readD X p).2 := by
  have g1 := w.1.1
  have h0 := h 0 (by omega)
  rw [show p + ((0 : Nat) : Int) = p from by omega] at h0
  have e1 : fst1 Z p = fst1 X p := by unfold fst1; rw [h0]
  have e2 : outW Z p = outW X p := by unfold outW; rw [e1, catW_cong h]
  refine ⟨⟨by rw [e1]; exact w.1, fun i hi => ?_, by rw [e2, e1]; exact w.2.2⟩, e2, e1, by rw [h0]⟩
  rw [e1] at hi
  have := w.2.1 i hi
  unfold OkI at this ⊢
  rw [h i hi, e1]
  exact this
theorem prt_pos (n : Int) : 1 ≤ prtD n := by unfold prtD; split <;> omega
theorem prt_bd {n : Int} (n0 : 0 ≤ n) : n ≤ prtD n * 104 := by unfold prtD; split <;> omega
theorem cat_take {Z : DK} {p : Int} {f : S_slot_head} {bs : List Int} {N : Nat} (h : ∀ j : Nat, j < N → readD Z (p + j) = (padB (laySec f bs j), 0)) : ∀ n, n ≤ N → ∀ L, L ≤ bs.length → L ≤ 104 * n → (catW Z p n).take L = bs.take L
  | 0, _, L, _, hl => by rw [show L = 0 from by omega]; rfl
  | n + 1, hn, L, hb, hl => by
    have lc := catW_len (X := Z) (p := p) n fun i hi => by rw [h i (by omega)]
    rw [catW_succ, h n (by omega)]
    by_cases q : L ≤ 104 * n
    · rw [List.take_append_of_le_length (by omega)]
      exact cat_take h n (by omega) L hb q
    · have ih := cat_take h n (by omega) (104 * n) (by omega) (Nat.le_refl _)
      rw [List.take_of_length_le (by omega)] at ih
      rw [List.take_append, lc, List.take_of_length_le (by omega), ih]
      dsimp only
      rw [drop_sec, List.take_append_of_le_length (by rw [List.length_take, List.length_drop]; omega), List.take_take, Nat.min_eq_left (by omega), Nat.mul_comm n 104, ← List.take_add]
      rw [show 104 * n + (L - 104 * n) = L from by omega]
theorem lay_whole {Z : DK} {p kk gr : Int} {bs : List Int} (bl : bs.length ≤ 60000) (pk : prtD bs.length ≤ kk) (g0 : 0 ≤ gr ∧ gr < 4611686018427387904) (h : ∀ j : Nat, (j : Int) < prtD bs.length → readD Z (p + j) = (padB (laySec (headD gr bs) bs j), 0)) :
    (readD Z p).2 = 0 ∧ WholeC Z p kk ∧ (fst1 Z p).f_n = gr + 1 ∧ outW Z p = bs := by
  have sb := sum_bd bs
  have p1 := prt_pos bs.length
  have p2 := prt_bd (n := (bs.length : Int)) (by omega)
  have pm : prtD bs.length < 65536 := by unfold prtD; split <;> omega
  have hh : ∀ j : Nat, (j : Int) < prtD bs.length → hdD (padB (laySec (headD gr bs) bs j)) = { headD gr bs with f_part := (j : Int) } := fun j hj =>
    hd_sec (f := headD gr bs) ⟨by show 0 ≤ gr + 1; omega, by show gr + 1 < _; omega⟩ (by omega) (by show 0 ≤ prtD _ ∧ prtD _ < 65536; omega) (by show (0 : Int) ≤ (bs.length : Int) ∧ (bs.length : Int) < 4294967296; omega) sb
  have h0 := h 0 (by omega)
  rw [show p + ((0 : Nat) : Int) = p from by omega] at h0
  have hf : fst1 Z p = headD gr bs := by
    unfold fst1
    rw [h0]
    exact hh 0 (by omega)
  have fp : (fst1 Z p).f_parts = prtD bs.length := by rw [hf]; rfl
  have fs : (fst1 Z p).f_size = bs.length := by rw [hf]; rfl
  have ho : outW Z p = bs := by
    unfold outW
    rw [fp, fs, Int.toNat_natCast]
    rw [cat_take (f := headD gr bs) (bs := bs) (N := (prtD bs.length).toNat) (fun j hj => h j (by omega)) _ (Nat.le_refl _) _ (Nat.le_refl _) (by omega)]
    exact List.take_length
  refine ⟨by rw [h0], ⟨⟨by rw [fp]; exact p1, by rw [fp]; exact pk, by rw [fp, fs]⟩, fun i hi => ?_, by rw [ho, hf]; rfl⟩, by rw [hf]; rfl, ho⟩
  rw [fp] at hi
  unfold OkI
  rw [h i (by omega), hf]
  exact ⟨rfl, hh i (by omega)⟩
/-- a slot's first sector is told by its number: what a cut leaves of a slot is the old one or the new one, or nothing -/
theorem cut_whole {X Z : DK} {p kk gr : Int} {bs : List Int} (bl : bs.length ≤ 60000) (pk : prtD bs.length ≤ kk) (g0 : 0 ≤ gr ∧ gr < 4611686018427387904)
    (hX : ∀ i : Nat, (i : Int) < kk → (readD X (p + i)).2 = 0 → (fst1 X (p + i)).f_n ≤ gr)
    (tri : ∀ i : Nat, (i : Int) < kk → readD Z (p + i) = readD X (p + i) ∨ ((i : Int) < prtD bs.length ∧ (readD Z (p + i) = (padB (laySec (headD gr bs) bs i), 0) ∨ readD Z (p + i) = ([], 9))))
    (e : (readD Z p).2 = 0) (w : WholeC Z p kk) : ((readD X p).2 = 0 ∧ WholeC X p kk ∧ outW Z p = outW X p ∧ fst1 Z p = fst1 X p) ∨ outW Z p = bs := by
  have sb := sum_bd bs
  have p1 := prt_pos bs.length
  have p2 := prt_bd (n := (bs.length : Int)) (by omega)
  have pm : prtD bs.length < 65536 := by unfold prtD; split <;> omega
  have hh : ∀ j : Nat, (j : Int) < prtD bs.length → hdD (padB (laySec (headD gr bs) bs j)) = { headD gr bs with f_part := (j : Int) } := fun j hj =>
    hd_sec (f := headD gr bs) ⟨by show 0 ≤ gr + 1; omega, by show gr + 1 < _; omega⟩ (by omega) (by show 0 ≤ prtD _ ∧ prtD _ < 65536; omega) (by show (0 : Int) ≤ (bs.length : Int) ∧ (bs.length : Int) < 4294967296; omega) sb
  have g1 := w.1.1
  have g2 := w.1.2.1
  have z0 : p + ((0 : Nat) : Int) = p := by omega
  have t0 := tri 0 (by omega)
  rw [z0] at t0
  rcases t0 with t0 | ⟨_, t0 | t0⟩
  · left
    have ef : fst1 X p = fst1 Z p := by unfold fst1; rw [t0]
    have nX : (fst1 Z p).f_n ≤ gr := by
      have := hX 0 (by omega)
      rw [z0, ← t0, ef] at this
      exact this e
    have all : ∀ i : Nat, i < (fst1 Z p).f_parts.toNat → readD X (p + i) = readD Z (p + i) := fun i hi => by
      have ok := w.2.1 i hi
      unfold OkI at ok
      rcases tri i (by omega) with t | ⟨ip, t | t⟩
      · exact t.symm
      · rw [t] at ok
        have := ok.2
        dsimp only at this
        rw [hh i ip] at this
        have := congrArg S_slot_head.f_n this
        have e9 : (headD gr bs).f_n = gr + 1 := rfl
        dsimp only at this
        omega
      · rw [t] at ok
        have := ok.1
        cases this
    obtain ⟨a, b, c, d⟩ := wh_cong w all
    exact ⟨by rw [d]; exact e, a, b.symm, c.symm⟩
  · right
    have hf : fst1 Z p = headD gr bs := by
      unfold fst1
      rw [t0]
      exact hh 0 (by omega)
    have fp : (fst1 Z p).f_parts = prtD bs.length := by rw [hf]; rfl
    refine (lay_whole (Z := Z) (p := p) (kk := kk) bl pk g0 fun j hj => ?_).2.2.2
    have ok := w.2.1 j (by rw [fp]; omega)
    unfold OkI at ok
    rcases tri j (by omega) with t | ⟨ip, t | t⟩
    · rw [t] at ok
      have h1 := hX j (by omega) ok.1
      have h2 := congrArg S_slot_head.f_n ok.2
      rw [hf] at h2
      have e9 : (headD gr bs).f_n = gr + 1 := rfl
      dsimp only at h2
      have e8 : (hdD (readD X (p + j)).1).f_n = (fst1 X (p + j)).f_n := rfl
      omega
    · exact t
    · rw [t] at ok
      have := ok.1
      cases this
  · rw [t0] at e
    cases e
theorem bp_uniq {X : DK} {fr kk a b : Int} (h1 : BP X fr kk a) (h2 : BP X fr kk b) : a = b := by
  rcases h1 with ⟨e1, n0, n1⟩ | ⟨e1, w0, q0⟩ | ⟨e1, w1, q1⟩ <;> rcases h2 with ⟨e2, m0, m1⟩ | ⟨e2, v0, r0⟩ | ⟨e2, v1, r1⟩
  · rw [e1, e2]
  · exact absurd v0 n0
  · exact absurd v1 n1
  · exact absurd w0 m0
  · rw [e1, e2]
  · have := q0 v1; have := r1 w0; omega
  · exact absurd w1 m1
  · have := q1 v0; have := r0 w1; omega
  · rw [e1, e2]
theorem bp_cong {X Z : DK} {fr kk a : Int} (h : ∀ p, readD Z p = readD X p) (b : BP X fr kk a) : BP Z fr kk a := by
  have e : readD Z = readD X := funext h
  have ef : fst1 Z = fst1 X := by funext p; unfold fst1; rw [e]
  have ec : catW Z = catW X := by funext p n; unfold catW; rw [e]
  have eo : outW Z = outW X := by funext p; unfold outW; rw [ef, ec]
  have ek : OkI Z = OkI X := by funext p i; unfold OkI; rw [e, ef]
  have ew : WholeC Z = WholeC X := by funext p k; unfold WholeC; rw [ef, ek, eo]
  have ei : IsW Z = IsW X := by funext a b c; unfold IsW; rw [e, ew]
  have en : numW Z = numW X := by funext a b c; unfold numW; rw [ef]
  unfold BP at b ⊢
  rw [ei, en]
  exact b
theorem gr_cong {X Z : DK} {fr : Int} (h : ∀ p, readD Z p = readD X p) : ∀ n, grD Z fr n = grD X fr n
  | 0 => rfl
  | n + 1 => by
    rw [grD, grD, h, gr_cong h n]
    have : fst1 Z (fr + n) = fst1 X (fr + n) := by unfold fst1; rw [h]
    rw [this]
/-! ### one round -/
structure RoundR (X : DK) (bs : List Int) (slot : Int) (Y Z : DK) : Prop where
  good : GoodX Z
  safe : Z.safe = []
  fuse : Z.fuse = 0
  dead : Z.dead = false
  gr : grD Z 0 12 ≤ grD X 0 12 + 1
  out : ∀ s, BP Z 0 6 s → (0 ≤ s ∧ outW Z (0 + s * 6) = bs) ∨ (Y.dead = true ∧ s = -1 ∧ slot = -1) ∨ (Y.dead = true ∧ 0 ≤ s ∧ s = slot ∧ outW Z (0 + s * 6) = outW X (0 + s * 6))
theorem round_ok {X : DK} {bs fs : List Int} {slot t : Int} {r : Int × Int} {Y : DK} (g : GoodX X) (hs : X.safe = []) (hd : X.dead = false) (hB : isB bs) (bl : bs.length ≤ 600) (gl : grD X 0 12 < 4611686018427387904)
    (b : BP X 0 6 slot) (ht : t = if slot = 0 then 1 else 0) (hr : (r, Y) = layD (0 + t * 6) (headD (grD X 0 12) bs) bs X (prtD bs.length).toNat) :
    ((r.2 = 0 ∧ Y.dead = false) ∨ (r.2 = 10 ∧ Y.dead = true)) ∧ RoundR X bs slot Y (bootD Y fs) := by
  have p1 := prt_pos bs.length
  have p2 := prt_bd (n := (bs.length : Int)) (by omega)
  have p6 : prtD bs.length ≤ 6 := by unfold prtD; split <;> omega
  have gn := gr_nn g 0 12
  have tt : t = 0 ∨ t = 1 := by rw [ht]; split <;> omega
  obtain ⟨gr, egr⟩ : ∃ gr, gr = grD X 0 12 := ⟨_, rfl⟩
  rw [← egr] at gl hr gn
  have er : r = (layD (0 + t * 6) (headD gr bs) bs X (prtD bs.length).toNat).1 := congrArg (·.1) hr
  have eY : Y = (layD (0 + t * 6) (headD gr bs) bs X (prtD bs.length).toNat).2 := congrArg (·.2) hr
  -- whatever happened, the places are told
  have key : ∃ m : Nat, m ≤ (prtD bs.length).toNat ∧ LU X Y (0 + t * 6) (headD gr bs) bs m ∧ ((r.2 = 0 ∧ Y.dead = false ∧ Y.safe = [] ∧ m = (prtD bs.length).toNat) ∨ (r.2 = 10 ∧ Y.dead = true)) := by
    rcases layD_end (f := headD gr bs) (bs := bs) (N := (prtD bs.length).toNat) (p := 0 + t * 6) hd hs (by omega) (by omega) with ⟨a, _, c, d, L⟩ | ⟨a, c, m, hm, L⟩
    · rw [← er] at a
      rw [← eY] at c d L
      exact ⟨_, Nat.le_refl _, L, .inl ⟨a, c, d, rfl⟩⟩
    · rw [← er] at a
      rw [← eY] at c L
      exact ⟨m, hm, L, .inr ⟨a, c⟩⟩
  obtain ⟨m, hm, L, st⟩ := key
  refine ⟨by rcases st with ⟨a, b, _⟩ | ⟨a, b⟩ <;> simp [a, b], ?_⟩
  have tv := boot_tri L fs
  have ns : ∀ j : Nat, j < m → newS (headD gr bs) bs j = laySec (headD gr bs) bs j := fun j hj => by
    unfold newS
    rw [if_pos (by show (j : Int) < prtD bs.length; omega)]
  -- the places, as they are read
  have tri : ∀ a, readD (bootD Y fs) a = readD X a ∨ ∃ j : Nat, j < m ∧ a = 0 + t * 6 + j ∧ (readD (bootD Y fs) a = (padB (laySec (headD gr bs) bs j), 0) ∨ readD (bootD Y fs) a = ([], 9)) := fun a => by
    rcases tv a with h | ⟨j, h1, h2, h | h⟩
    · exact .inl (rd_cong h)
    · exact .inr ⟨j, h1, h2, .inl (by rw [rd_new (by omega) h, ns j h1])⟩
    · exact .inr ⟨j, h1, h2, .inr (rd_torn (by omega) h)⟩
  have gZ : GoodX (bootD Y fs) := good_of rfl fun a => by
    rcases tv a with h | ⟨j, _, _, h | h⟩
    · rw [h]; exact g.1 a
    · rw [h]; exact newV_B hB
    · rw [h]; exact zero_B
  have hdn : ∀ j : Nat, j < m → (hdD (padB (laySec (headD gr bs) bs j))).f_n = gr + 1 := fun j hj => by
    have := hd_sec (f := headD gr bs) (bs := bs) (i := j) ⟨by show 0 ≤ gr + 1; omega, by show gr + 1 < _; omega⟩ (by omega) (by show 0 ≤ prtD _ ∧ prtD _ < 65536; omega) (by show (0 : Int) ≤ (bs.length : Int) ∧ (bs.length : Int) < 4294967296; omega) (sum_bd bs)
    rw [this]; rfl
  have nX : ∀ a : Int, 0 ≤ a → a < 12 → (readD X a).2 = 0 → (fst1 X a).f_n ≤ gr := fun a a0 a1 e => by
    have := gr_ge X 0 12 a.toNat (by omega)
    rw [show (0 : Int) + ((a.toNat : Nat) : Int) = a from by omega, ← egr] at this
    exact this e
  -- the other slot is as it was
  have oth : ∀ u : Int, (u = 0 ∨ u = 1) → u ≠ t → ∀ i : Nat, (i : Int) < 6 → readD (bootD Y fs) (0 + u * 6 + i) = readD X (0 + u * 6 + i) := fun u hu ne i hi => by
    rcases tri (0 + u * 6 + i) with h | ⟨j, h1, h2, _⟩
    · exact h
    · omega
  have othW : ∀ u : Int, (u = 0 ∨ u = 1) → u ≠ t → (IsW (bootD Y fs) 0 6 u ↔ IsW X 0 6 u) ∧ numW (bootD Y fs) 0 6 u = numW X 0 6 u ∧ (IsW X 0 6 u → outW (bootD Y fs) (0 + u * 6) = outW X (0 + u * 6)) := fun u hu ne => by
    have o := oth u hu ne
    have o0 := o 0 (by omega)
    rw [show 0 + u * 6 + ((0 : Nat) : Int) = 0 + u * 6 from by omega] at o0
    have to : IsW X 0 6 u → IsW (bootD Y fs) 0 6 u ∧ outW (bootD Y fs) (0 + u * 6) = outW X (0 + u * 6) := fun w => by
      have := w.2.1.2.1
      obtain ⟨a, b, c, d⟩ := wh_cong (Z := bootD Y fs) w.2 fun i hi => o i (by omega)
      exact ⟨⟨by rw [d]; exact w.1, a⟩, b⟩
    refine ⟨⟨fun w => ?_, fun w => (to w).1⟩, by unfold numW fst1; rw [o0], fun w => (to w).2⟩
    have := w.2.1.2.1
    obtain ⟨a, b, c, d⟩ := wh_cong (Z := X) w.2 fun i hi => (o i (by omega)).symm
    exact ⟨by rw [d]; exact w.1, a⟩
  have numX : ∀ u : Int, (u = 0 ∨ u = 1) → IsW X 0 6 u → numW X 0 6 u ≤ gr := fun u hu w => nX (0 + u * 6) (by omega) (by omega) w.1
  refine ⟨gZ, rfl, rfl, rfl, ?_, fun s bz => ?_⟩
  · rw [← egr]
    refine gr_le (by omega) 12 fun i hi e => ?_
    rcases tri (0 + i) with h | ⟨j, h1, h2, h | h⟩
    · have := nX (0 + i) (by omega) (by omega) (by rw [← h]; exact e)
      have e2 : fst1 (bootD Y fs) (0 + i) = fst1 X (0 + i) := by unfold fst1; rw [h]
      rw [e2]; omega
    · have : (fst1 (bootD Y fs) (0 + i)).f_n = gr + 1 := by unfold fst1; rw [h]; exact hdn j h1
      omega
    · rw [h] at e; cases e
  · rcases st with ⟨_, _, sf, em⟩ | ⟨_, dd⟩
    · -- the save is whole
      left
      have rd : ∀ j : Nat, (j : Int) < prtD bs.length → readD (bootD Y fs) (0 + t * 6 + j) = (padB (laySec (headD gr bs) bs j), 0) := fun j hj => by
        have hj' : j < m := by omega
        have : vD (bootD Y fs) (0 + t * 6 + j) = newV (headD gr bs) bs j := by rw [boot_nil sf]; exact L.all j hj'
        rw [rd_new (by omega) this, ns j hj']
      obtain ⟨a, b1, c, d⟩ := lay_whole (kk := 6) (by omega) p6 ⟨gn, gl⟩ rd
      have w : IsW (bootD Y fs) 0 6 t := ⟨a, b1⟩
      have nw : numW (bootD Y fs) 0 6 t = gr + 1 := c
      have cmp : ∀ u : Int, (u = 0 ∨ u = 1) → u ≠ t → IsW (bootD Y fs) 0 6 u → numW (bootD Y fs) 0 6 u ≤ gr := fun u hu ne wu => by
        obtain ⟨h1, h2, _⟩ := othW u hu ne
        rw [h2]; exact numX u hu (h1.1 wu)
      have es : s = t := by
        rcases bz with ⟨e1, n0, n1⟩ | ⟨e1, w0, q0⟩ | ⟨e1, w1, q1⟩
        · rcases tt with e | e
          · rw [e] at w; exact absurd w n0
          · rw [e] at w; exact absurd w n1
        · rcases tt with e | e
          · rw [e1, e]
          · rw [e] at w nw
            have := cmp 0 (.inl rfl) (by omega) w0
            have := q0 w
            omega
        · rcases tt with e | e
          · rw [e] at w nw
            have := cmp 1 (.inr rfl) (by omega) w1
            have := q1 w
            omega
          · rw [e1, e]
      rw [es]
      exact ⟨by omega, d⟩
    · -- the save was cut
      have cw : IsW (bootD Y fs) 0 6 t → (IsW X 0 6 t ∧ numW (bootD Y fs) 0 6 t = numW X 0 6 t) ∨ outW (bootD Y fs) (0 + t * 6) = bs := fun w => by
        have tr : ∀ i : Nat, (i : Int) < 6 → readD (bootD Y fs) (0 + t * 6 + i) = readD X (0 + t * 6 + i) ∨ ((i : Int) < prtD bs.length ∧ (readD (bootD Y fs) (0 + t * 6 + i) = (padB (laySec (headD gr bs) bs i), 0) ∨ readD (bootD Y fs) (0 + t * 6 + i) = ([], 9))) := fun i hi => by
          rcases tri (0 + t * 6 + i) with h | ⟨j, h1, h2, h⟩
          · exact .inl h
          · have ej : j = i := by omega
            rw [ej] at h
            exact .inr ⟨by omega, h⟩
        rcases cut_whole (X := X) (Z := bootD Y fs) (p := 0 + t * 6) (kk := 6) (gr := gr) (bs := bs) (by omega) p6 ⟨gn, gl⟩ (fun i hi => nX _ (by omega) (by omega)) tr w.1 w.2 with ⟨a, b1, c, d⟩ | h
        · exact .inl ⟨⟨a, b1⟩, by unfold numW; rw [d]⟩
        · exact .inr h
      have o0 := othW 0 (.inl rfl)
      have o1 := othW 1 (.inr rfl)
      by_cases sl : slot = 0
      · rw [if_pos sl] at ht
        subst ht
        obtain ⟨i0, n0, u0⟩ := o0 (by omega)
        have w0 : IsW X 0 6 0 := by
          rcases b with ⟨e, _⟩ | ⟨_, w, _⟩ | ⟨e, _⟩
          · omega
          · exact w
          · omega
        have q0 : IsW X 0 6 1 → numW X 0 6 1 ≤ numW X 0 6 0 := by
          rcases b with ⟨e, _⟩ | ⟨_, _, q⟩ | ⟨e, _⟩
          · omega
          · exact q
          · omega
        rcases bz with ⟨e1, m0, m1⟩ | ⟨e1, v0, q1⟩ | ⟨e1, v1, q1⟩
        · exact absurd (i0.2 w0) m0
        · exact .inr (.inr ⟨dd, by omega, by omega, by rw [e1]; exact u0 w0⟩)
        · rcases cw v1 with ⟨a, c⟩ | h
          · have := q1 (i0.2 w0)
            have := q0 a
            omega
          · exact .inl ⟨by omega, by rw [e1]; exact h⟩
      · rw [if_neg sl] at ht
        subst ht
        obtain ⟨i1, n1, u1⟩ := o1 (by omega)
        rcases bz with ⟨e1, m0, m1⟩ | ⟨e1, v0, q1⟩ | ⟨e1, v1, q1⟩
        · refine .inr (.inl ⟨dd, e1, ?_⟩)
          rcases b with ⟨e, _⟩ | ⟨e, _, _⟩ | ⟨e, w, _⟩
          · exact e
          · omega
          · exact absurd (i1.2 w) m1
        · rcases cw v0 with ⟨a, c⟩ | h
          · rcases b with ⟨e, w, _⟩ | ⟨e, _, _⟩ | ⟨e, w, q⟩
            · exact absurd a w
            · omega
            · have := q1 (i1.2 w)
              have := q a
              omega
          · exact .inl ⟨by omega, by rw [e1]; exact h⟩
        · have wx := i1.1 v1
          have es : slot = 1 := by
            rcases b with ⟨e, _, w⟩ | ⟨e, _, _⟩ | ⟨e, w, q⟩
            · exact absurd wx w
            · omega
            · exact e
          exact .inr (.inr ⟨dd, by omega, by omega, by rw [e1]; exact u1 wx⟩)
end Go.Q.Yf
/- Slot: a laying that nothing cuts. -/
namespace Go.Q.Yf
theorem burn_free {X : DK} (hf : X.fuse = 0) : (burnD X).1 = false ∧ (burnD X).2.dead = X.dead ∧ (burnD X).2.fuse = 0 := by
  unfold burnD
  rw [if_pos hf]
  exact ⟨rfl, rfl, hf⟩
theorem lay_free {X : DK} {p : Int} {f : S_slot_head} {bs : List Int} (hd : X.dead = false) (hf : X.fuse = 0) (p0 : 0 ≤ p) : ∀ n : Nat, p + n ≤ 1024 → (layUp p f bs X n).1 = 0 ∧ (layUp p f bs X n).2.dead = false ∧ (layUp p f bs X n).2.fuse = 0
  | 0, _ => ⟨rfl, hd, hf⟩
  | n + 1, hn => by
    obtain ⟨e, dd, ff⟩ := lay_free (f := f) (bs := bs) hd hf p0 n (by omega)
    have el : layUp p f bs X (n + 1) = (endD (burnD (laidD (layUp p f bs X n).2 (p + n) (newS f bs n))).1, (burnD (laidD (layUp p f bs X n).2 (p + n) (newS f bs n))).2) := by
      rw [layUp, if_neg (by rw [e]; simp)]
      show writeD (layUp p f bs X n).2 (p + n) (newS f bs n) = _
      unfold writeD
      rw [if_neg (by rw [dd]; simp), if_neg (by omega), if_neg (by have := newS_le f bs n; omega)]
    obtain ⟨b1, b2, b3⟩ := burn_free (X := laidD (layUp p f bs X n).2 (p + n) (newS f bs n)) ff
    rw [el]
    dsimp only
    exact ⟨by rw [b1]; rfl, by rw [b2]; exact dd, b3⟩
theorem layD_free {X : DK} {p : Int} {f : S_slot_head} {bs : List Int} {N : Nat} (hd : X.dead = false) (hf : X.fuse = 0) (hs : X.safe = []) (p0 : 0 ≤ p) (pN : p + N ≤ 1024) :
    (layD p f bs X N).1 = (f.f_n, 0) ∧ (layD p f bs X N).2.dead = false ∧ (layD p f bs X N).2.fuse = 0 ∧ (layD p f bs X N).2.safe = [] ∧ LU X (layD p f bs X N).2 p f bs N := by
  obtain ⟨e, dd, ff⟩ := lay_free (f := f) (bs := bs) hd hf p0 N pN
  obtain ⟨b1, b2, b3⟩ := burn_free (X := (layUp p f bs X N).2) ff
  have es : syncD (layUp p f bs X N).2 = (0, { (burnD (layUp p f bs X N).2).2 with safe := [] }) := by
    unfold syncD
    rw [if_neg (by rw [dd]; simp), if_neg (by rw [b1]; simp)]
  have el : layD p f bs X N = ((f.f_n, 0), { (burnD (layUp p f bs X N).2).2 with safe := [] }) := by
    unfold layD
    rw [if_neg (by rw [e]; simp), es, if_neg (by simp)]
  rcases layD_end (f := f) (bs := bs) (N := N) hd hs p0 pN with ⟨_, _, _, _, L⟩ | ⟨_, q, _⟩
  · refine ⟨by rw [el], by rw [el]; exact b2.trans dd, by rw [el]; exact b3, by rw [el], L⟩
  · rw [el] at q
    have : (burnD (layUp p f bs X N).2).2.dead = true := q
    rw [b2, dd] at this
    cases this
structure WS (X : DK) (bs : List Int) (t : Int) (N : Nat) (r : Int × Int) (Y : DK) : Prop where
  r : r = (grD X 0 12 + 1, 0)
  good : GoodX Y
  safe : Y.safe = []
  fuse : Y.fuse = 0
  dead : Y.dead = false
  gr : grD Y 0 12 = grD X 0 12 + 1
  bp : BP Y 0 6 t
  new : ∀ j : Nat, j < N → readD Y (t * 6 + j) = (padB (newS (headD (grD X 0 12) bs) bs j), 0)
  old : ∀ u : Int, (u = 0 ∨ u = 1) → u ≠ t → ∀ i : Nat, i < 6 → readD Y (u * 6 + i) = readD X (u * 6 + i)
theorem pad_zero : padB [] = nrm 128 [] := by decide
theorem ws_ok {X : DK} {bs : List Int} {slot t : Int} {r : Int × Int} {Y : DK} {N : Nat} (g : GoodX X) (hs : X.safe = []) (hd : X.dead = false) (hf : X.fuse = 0) (hB : isB bs) (bl : bs.length ≤ 600) (gl : grD X 0 12 < 4611686018427387904)
    (b : BP X 0 6 slot) (ht : t = if slot = 0 then 1 else 0) (hN : (prtD bs.length).toNat ≤ N) (N6 : N ≤ 6) (hr : (r, Y) = layD (0 + t * 6) (headD (grD X 0 12) bs) bs X N) : WS X bs t N r Y := by
  have p1 := prt_pos bs.length
  have p6 : prtD bs.length ≤ 6 := by unfold prtD; split <;> omega
  have gn := gr_nn g 0 12
  have tt : t = 0 ∨ t = 1 := by rw [ht]; split <;> omega
  obtain ⟨gr, egr⟩ : ∃ gr, gr = grD X 0 12 := ⟨_, rfl⟩
  rw [← egr] at gl hr gn
  have er : r = (layD (0 + t * 6) (headD gr bs) bs X N).1 := congrArg (·.1) hr
  have eY : Y = (layD (0 + t * 6) (headD gr bs) bs X N).2 := congrArg (·.2) hr
  obtain ⟨q1, q2, q3, q4, L⟩ := layD_free (f := headD gr bs) (bs := bs) (N := N) (p := 0 + t * 6) hd hf hs (by omega) (by omega)
  rw [← er] at q1
  rw [← eY] at q2 q3 q4 L
  have rdn : ∀ j : Nat, j < N → readD Y (t * 6 + j) = (padB (newS (headD gr bs) bs j), 0) := fun j hj => by
    have := L.all j hj
    rw [show 0 + t * 6 + (j : Int) = t * 6 + j from by omega] at this
    exact rd_new (by omega) this
  have tri : ∀ a, readD Y a = readD X a ∨ ∃ j : Nat, j < N ∧ a = t * 6 + j := fun a => by
    rcases L.now a with h | ⟨j, h1, h2⟩
    · exact .inl (rd_cong h)
    · exact .inr ⟨j, h1, by omega⟩
  have gY : GoodX Y := good_of q4 fun a => by
    rcases L.now a with h | ⟨j, h1, h2⟩
    · rw [h]; exact g.1 a
    · rw [h2, L.all j h1]; exact newV_B hB
  have hdn : ∀ j : Nat, j < N → ((j : Int) < prtD bs.length → (hdD (padB (newS (headD gr bs) bs j))).f_n = gr + 1) ∧ (hdD (padB (newS (headD gr bs) bs j))).f_n ≤ gr + 1 := fun j hj => by
    unfold newS
    by_cases c : (j : Int) < (headD gr bs).f_parts
    · rw [if_pos c]
      have := hd_sec (f := headD gr bs) (bs := bs) (i := j) ⟨by show 0 ≤ gr + 1; omega, by show gr + 1 < _; omega⟩ (by omega) (by show 0 ≤ prtD _ ∧ prtD _ < 65536; omega) (by show (0 : Int) ≤ (bs.length : Int) ∧ (bs.length : Int) < 4294967296; omega) (sum_bd bs)
      rw [this]
      exact ⟨fun _ => rfl, Int.le_refl _⟩
    · rw [if_neg c, pad_zero, fn_zero]
      exact ⟨fun h => absurd h c, by omega⟩
  have nX : ∀ a : Int, 0 ≤ a → a < 12 → (readD X a).2 = 0 → (fst1 X a).f_n ≤ gr := fun a a0 a1 e => by
    have := gr_ge X 0 12 a.toNat (by omega)
    rw [show (0 : Int) + ((a.toNat : Nat) : Int) = a from by omega, ← egr] at this
    exact this e
  have oth : ∀ u : Int, (u = 0 ∨ u = 1) → u ≠ t → ∀ i : Nat, i < 6 → readD Y (u * 6 + i) = readD X (u * 6 + i) := fun u hu ne i hi => by
    rcases tri (u * 6 + i) with h | ⟨j, h1, h2⟩
    · exact h
    · omega
  have rd : ∀ j : Nat, (j : Int) < prtD bs.length → readD Y (0 + t * 6 + j) = (padB (laySec (headD gr bs) bs j), 0) := fun j hj => by
    rw [show 0 + t * 6 + (j : Int) = t * 6 + j from by omega, rdn j (by omega)]
    unfold newS
    rw [if_pos (show (j : Int) < (headD gr bs).f_parts from hj)]
  obtain ⟨a, b1, c, d⟩ := lay_whole (kk := 6) (by omega) p6 ⟨gn, gl⟩ rd
  have w : IsW Y 0 6 t := ⟨a, b1⟩
  have nw : numW Y 0 6 t = gr + 1 := c
  have cmp : ∀ u : Int, (u = 0 ∨ u = 1) → u ≠ t → IsW Y 0 6 u → numW Y 0 6 u ≤ gr := fun u hu ne wu => by
    have o0 := oth u hu ne 0 (by omega)
    rw [show u * 6 + ((0 : Nat) : Int) = 0 + u * 6 from by omega] at o0
    have e : numW Y 0 6 u = (fst1 X (0 + u * 6)).f_n := by unfold numW fst1; rw [o0]
    rw [e]
    exact nX (0 + u * 6) (by omega) (by omega) (by rw [← o0]; exact wu.1)
  refine ⟨by rw [q1, ← egr]; rfl, gY, q4, q3, q2, ?_, ?_, by rw [← egr]; exact rdn, oth⟩
  · rw [← egr]
    refine Int.le_antisymm (gr_le (by omega) 12 fun i hi e => ?_) ?_
    · rcases tri (0 + i) with h | ⟨j, h1, h2⟩
      · have := nX (0 + i) (by omega) (by omega) (by rw [← h]; exact e)
        have e2 : fst1 Y (0 + i) = fst1 X (0 + i) := by unfold fst1; rw [h]
        rw [e2]; omega
      · have e3 := rdn j h1
        rw [← h2] at e3
        have : fst1 Y (0 + i) = hdD (padB (newS (headD gr bs) bs j)) := by unfold fst1; rw [e3]
        rw [this]; exact (hdn j h1).2
    · have e3 := rdn 0 (by omega)
      have := gr_ge Y 0 12 (t * 6).toNat (by omega)
      rw [show (0 : Int) + (((t * 6).toNat : Nat) : Int) = t * 6 + ((0 : Nat) : Int) from by omega, e3] at this
      have e4 : fst1 Y (t * 6 + ((0 : Nat) : Int)) = hdD (padB (newS (headD gr bs) bs 0)) := by unfold fst1; rw [e3]
      rw [e4, (hdn 0 (by omega)).1 (by omega)] at this
      exact this rfl
  · rcases tt with e | e
    · subst e
      exact .inr (.inl ⟨rfl, w, fun w1 => by have := cmp 1 (.inr rfl) (by omega) w1; omega⟩)
    · subst e
      exact .inr (.inr ⟨rfl, w, fun w0 => by have := cmp 0 (.inl rfl) (by omega) w0; omega⟩)
end Go.Q.Yf
