/- A part of the proof of statements of this seat: lemmas, no statement of their own. -/
import Derived.Test.YtgldbcbnficihaaDoorYdL01
set_option linter.unusedVariables false
set_option linter.unusedSimpArgs false
set_option maxRecDepth 20000
namespace Go.Q.Yd
def gw (w : List Int) (i : Nat) : Int := w.getD i 0
def addAt (w : List Int) (a b : Nat) : List Int := w.set a ((gw w a + gw w b) % 4294967296)
def xorAt (w : List Int) (d a n : Nat) : List Int := w.set d (rotI (bwXor .u32 (gw w d) (gw w a)) n)
def mixL (w : List Int) (a b d n : Nat) : List Int := xorAt (addAt w a b) d a n
def qrL (w : List Int) (a b c d : Nat) : List Int := mixL (mixL (mixL (mixL w a b d 16) c d b 12) a b d 8) c d b 7
structure Wd (w : List Int) : Prop where
  len : w.length = 16
  bd : ∀ x ∈ w, 0 ≤ x ∧ x < 4294967296
theorem Wd.get {w : List Int} (h : Wd w) {i : Nat} (hi : i < 16) : 0 ≤ gw w i ∧ gw w i < 4294967296 ∧ w[i]? = some (gw w i) := by
  have h1 : i < w.length := by rw [h.len]; exact hi
  have h2 := h.bd w[i] (List.getElem_mem h1)
  have h3 : gw w i = w[i] := by simp [gw, List.getD, h1]
  exact ⟨by rw [h3]; exact h2.1, by rw [h3]; exact h2.2, by rw [h3]; simp [h1]⟩
theorem Wd.set {w : List Int} (h : Wd w) {i : Nat} {x : Int} (hx : 0 ≤ x ∧ x < 4294967296) : Wd (w.set i x) :=
  ⟨by rw [List.length_set]; exact h.len, fun y hy => by rcases List.mem_or_eq_of_mem_set hy with h1 | rfl; exact h.bd y h1; exact hx⟩
theorem Wd.add {w : List Int} (h : Wd w) {a b : Nat} : Wd (addAt w a b) := h.set (by omega)
theorem Wd.xor {w : List Int} (h : Wd w) {d a n : Nat} (hn : n ≤ 16) : Wd (xorAt w d a n) :=
  h.set (by have := bwXor_bd32 (gw w d) (gw w a); exact (rot_step this.1 this.2 n (by omega)).2)
theorem Wd.mix {w : List Int} (h : Wd w) {a b d n : Nat} (hn : n ≤ 16) : Wd (mixL w a b d n) := h.add.xor hn
theorem Wd.qr {w : List Int} (h : Wd w) {a b c d : Nat} : Wd (qrL w a b c d) := (((h.mix (by omega)).mix (by omega)).mix (by omega)).mix (by omega)
/-- a cell of words -/
theorem wcell {h : Heap} {B E : Nat} {w : List Int} (K : Blk h B (b32 w) E) (W : Wd w) {i : Int} (i0 : 0 ≤ i) (i1 : i < 16) : cellH h ((⟨B, 0, none⟩ : Addr).add (i.toNat * 1)) = some (.int .u32 (gw w i.toNat)) := by
  rw [add_mk, K.cell, Nat.zero_add, Nat.mul_one, List.getElem?_map, (W.get (i := i.toNat) (by omega)).2.2]; rfl
theorem wset {h : Heap} {B E : Nat} {w : List Int} (K : Blk h B (b32 w) E) {i : Int} {x : Int} : Blk (setH h ((⟨B, 0, none⟩ : Addr).add (i.toNat * 1)) (.int .u32 x)) B (b32 (w.set i.toNat x)) E := by
  rw [add_mk, Nat.zero_add, Nat.mul_one, show b32 (w.set i.toNat x) = (b32 w).set i.toNat (.int .u32 x) from List.map_set]
  exact K.set
theorem wwr {h : Heap} {B E : Nat} {w : List Int} (K : Blk h B (b32 w) E) (W : Wd w) {i : Int} (i0 : 0 ≤ i) (i1 : i < 16) : WrH h ((⟨B, 0, none⟩ : Addr).add (i.toNat * 1)) := by
  rw [add_mk]; exact K.wr (by simp [W.len]; omega)
theorem Upd.set {b : Nat} (h : Heap) {i : Nat} {v : Value} : Upd b h (setH h ((⟨b, 0, none⟩ : Addr).add i) v) := ⟨by rw [setH_size]; exact Nat.le_refl _, fun j hj hne => setH_other (by simpa using hne)⟩
def turnOk (n : Nat) : Prop := n = 16 ∨ n = 12 ∨ n = 8 ∨ n = 7
theorem Rotate_ok {x : Int} {n : Nat} {k : Int → Heap → Prop} {h : Heap} (hn : turnOk n) (x0 : 0 ≤ x) (x1 : x < 4294967296) (H : k (rotI x n) h) : math_bits_RotateLeft32 x n k h := by
  have key : ∀ n m : Nat, 2 ^ n * 2 ^ m = 4294967296 → n ≤ 32 → m ≤ 32 → bwOr .u32 (shl .u32 x n) (shr .u32 x m) = (x * 2 ^ n) % 4294967296 + x / 2 ^ m := by
    intro n m h h1 h2
    have e1 : shl .u32 x n = (x * 2 ^ n) % 4294967296 := by unfold shl; rw [wU32]; simp [IntKind.bits, Nat.min_eq_left h1]
    have e2 : shr .u32 x m = x / 2 ^ m := by
      unfold shr; simp only [IntKind.bits, Nat.min_eq_left h2]
      exact Int.fdiv_eq_ediv_of_nonneg _ (Int.pow_nonneg (by decide))
    rw [e1, e2, rot_or h x0 x1]
  unfold math_bits_RotateLeft32
  rcases hn with rfl | rfl | rfl | rfl
  · refine ⟨16, by decide, by decide, by decide, _, rfl, ?_⟩
    rw [show (IntKind.u64.wrap (32 - 16)).toNat = 16 from by decide, show (16 : Int).toNat = 16 from rfl, key 16 16 (by decide) (by decide) (by decide)]; exact H
  · refine ⟨12, by decide, by decide, by decide, _, rfl, ?_⟩
    rw [show (IntKind.u64.wrap (32 - 12)).toNat = 20 from by decide, show (12 : Int).toNat = 12 from rfl, key 12 20 (by decide) (by decide) (by decide)]; exact H
  · refine ⟨8, by decide, by decide, by decide, _, rfl, ?_⟩
    rw [show (IntKind.u64.wrap (32 - 8)).toNat = 24 from by decide, show (8 : Int).toNat = 8 from rfl, key 8 24 (by decide) (by decide) (by decide)]; exact H
  · refine ⟨7, by decide, by decide, by decide, _, rfl, ?_⟩
    rw [show (IntKind.u64.wrap (32 - 7)).toNat = 25 from by decide, show (7 : Int).toNat = 7 from rfl, key 7 25 (by decide) (by decide) (by decide)]; exact H
theorem mix_ok {B E : Nat} {w : List Int} {a b d : Int} {n : Nat} {k : Unit → Heap → Prop} {h : Heap} (K : Blk h B (b32 w) E) (W : Wd w) (ha : 0 ≤ a ∧ a < 16) (hb : 0 ≤ b ∧ b < 16) (hd : 0 ≤ d ∧ d < 16) (hn : turnOk n)
    (H : ∀ h', Blk h' B (b32 (mixL w a.toNat b.toNat d.toNat n)) E → Upd B h h' → k () h') : chacha_words_mix (some ⟨B, 0, none⟩) a b d n k h := by
  unfold chacha_words_mix
  have K1 := wset K (i := a) (x := (gw w a.toNat + gw w b.toNat) % 4294967296)
  have W1 : Wd (addAt w a.toNat b.toNat) := W.add
  have hx := bwXor_bd32 (gw (addAt w a.toNat b.toNat) d.toNat) (gw (addAt w a.toNat b.toNat) a.toNat)
  refine ⟨_, rfl, ha.1, ha.2, _, wcell K W ha.1 ha.2, hb.1, hb.2, _, wcell K W hb.1 hb.2, ha.1, ha.2, _, wwr K W ha.1 ha.2, rfl, hd.1, hd.2, ?_⟩
  rw [wU32]
  refine ⟨_, wcell K1 W1 hd.1 hd.2, ha.1, ha.2, _, wcell K1 W1 ha.1 ha.2, Rotate_ok hn hx.1 hx.2 ⟨hd.1, hd.2, _, wwr K1 W1 hd.1 hd.2, rfl, H _ (wset K1) ((Upd.set h).trans (Upd.set _))⟩⟩
def tupOk (p : List Int) : Prop := ∃ a b c d : Nat, p = [(a : Int), b, c, d] ∧ a < 16 ∧ b < 16 ∧ c < 16 ∧ d < 16
theorem quarter_ok {B E : Nat} {w : List Int} {a b c d : Nat} {k : Unit → Heap → Prop} {h : Heap} (K : Blk h B (b32 w) E) (W : Wd w) (ha : a < 16) (hb : b < 16) (hc : c < 16) (hd : d < 16)
    (H : ∀ h', Blk h' B (b32 (qrL w a b c d)) E → Upd B h h' → k () h') : chacha_words_quarter (some ⟨B, 0, none⟩) [(a : Int), b, c, d] k h := by
  unfold chacha_words_quarter
  have hB := K.lt
  have T0 := Blk.push h (bi64 [(a : Int), b, c, d]) 42
  have K0 := K.pushed (.cells (bi64 [(a : Int), b, c, d]).toArray 42)
  have cell : ∀ {h' : Heap}, Blk h' h.size (bi64 [(a : Int), b, c, d]) 42 → ∀ i : Nat, ∀ v, [(a : Int), b, c, d][i]? = some v → cellH h' ((⟨h.size, 0, none⟩ : Addr).add (i * 1)) = some (.int .i64 v) := by
    intro h' T i v hv
    rw [add_mk, Nat.zero_add, Nat.mul_one, T.cell, List.getElem?_map, hv]; rfl
  have U0 : Upd B h (h.push (.cells (bi64 [(a : Int), b, c, d]).toArray 42)) := Upd.of_ext (Ext.push h _ (Nat.le_refl _))
  have nb : ∀ x : Nat, x < 16 → (0 : Int) ≤ x ∧ (x : Int) < 16 := fun x hx => by omega
  refine ⟨_, _, rfl, rfl, by decide, by decide, _, cell T0 0 _ rfl, by decide, by decide, _, cell T0 1 _ rfl, by decide, by decide, _, cell T0 3 _ rfl, ?_⟩
  refine mix_ok (n := 16) K0 W (nb a ha) (nb b hb) (nb d hd) (.inl rfl) fun h1 K1 U1 => ?_
  have T1 := U1.blk T0 (by omega)
  have W1 := W.mix (a := a) (b := b) (d := d) (n := 16) (by omega)
  refine ⟨by decide, by decide, _, cell T1 2 _ rfl, by decide, by decide, _, cell T1 3 _ rfl, by decide, by decide, _, cell T1 1 _ rfl, ?_⟩
  refine mix_ok (n := 12) K1 W1 (nb c hc) (nb d hd) (nb b hb) (.inr (.inl rfl)) fun h2 K2 U2 => ?_
  have T2 := U2.blk T1 (by omega)
  have W2 := W1.mix (a := c) (b := d) (d := b) (n := 12) (by omega)
  refine ⟨by decide, by decide, _, cell T2 0 _ rfl, by decide, by decide, _, cell T2 1 _ rfl, by decide, by decide, _, cell T2 3 _ rfl, ?_⟩
  refine mix_ok (n := 8) K2 W2 (nb a ha) (nb b hb) (nb d hd) (.inr (.inr (.inl rfl))) fun h3 K3 U3 => ?_
  have T3 := U3.blk T2 (by omega)
  have W3 := W2.mix (a := a) (b := b) (d := d) (n := 8) (by omega)
  refine ⟨by decide, by decide, _, cell T3 2 _ rfl, by decide, by decide, _, cell T3 3 _ rfl, by decide, by decide, _, cell T3 1 _ rfl, ?_⟩
  refine mix_ok (n := 7) K3 W3 (nb c hc) (nb d hd) (nb b hb) (.inr (.inr (.inr rfl))) fun h4 K4 U4 => ?_
  exact H h4 K4 (U0.trans (U1.trans (U2.trans (U3.trans U4))))
theorem turn_ok {x : Int} {n : Nat} {k : Int → Heap → Prop} {h : Heap} (hn : n ≤ 16) (x0 : 0 ≤ x) (x1 : x < 4294967296) (H : k (rotI x n) h) : ref04_turn x n k h := by
  unfold ref04_turn
  refine ⟨fun q h' => 0 ≤ q.2 ∧ q.2 ≤ n ∧ q.1 = rotI x q.2.toNat ∧ h' = h, fun q _ => (n - q.2).toNat, ⟨by simp, by simp, ?_, rfl⟩, ?_⟩
  · simp only [rotI]; simp; omega
  rintro y i h' ⟨i0, i1, hy, rfl⟩
  simp only at i0 i1 hy
  unfold ref04_turn_l1b
  by_cases hi : i < n
  · rw [if_pos (by simpa using hi)]
    have hs := rot_step x0 x1 i.toNat (by omega)
    rw [← hy] at hs
    have hd : Int.tdiv y 2147483648 = y / 2147483648 := Int.tdiv_eq_ediv_of_nonneg hs.2.1
    refine ⟨_, rfl, _, rfl, _, rfl, ⟨?_, ?_, ?_, rfl⟩, ?_⟩
    all_goals simp only; try rw [wrapI64 (x := i + 1) (by omega) (by omega)]
    · omega
    · omega
    · rw [hd, wrapU32 (x := y / 2147483648) (by omega) (by omega), wU32, wU32, show (i + 1).toNat = i.toNat + 1 from by omega, ← hs.1]
      have := (rot_step x0 x1 (i.toNat + 1) (by omega)).2
      rw [← hs.1] at this
      omega
    · omega
  · rw [if_neg (by simpa using hi)]
    have : i.toNat = n := by omega
    rw [hy, this]; exact H
section
variable {zs : List Value}
theorem wcell' {h : Heap} {B E : Nat} {w : List Int} (K : Blk h B (b32 w ++ zs) E) (W : Wd w) {i : Int} (i0 : 0 ≤ i) (i1 : i < 16) : cellH h ((⟨B, 0, none⟩ : Addr).add (i.toNat * 1)) = some (.int .u32 (gw w i.toNat)) := by
  rw [add_mk, K.cell, Nat.zero_add, Nat.mul_one, List.getElem?_append_left (by simp [W.len]; omega), List.getElem?_map, (W.get (i := i.toNat) (by omega)).2.2]; rfl
theorem wset' {h : Heap} {B E : Nat} {w : List Int} (K : Blk h B (b32 w ++ zs) E) (W : Wd w) {i : Int} {x : Int} (i0 : 0 ≤ i) (i1 : i < 16) : Blk (setH h ((⟨B, 0, none⟩ : Addr).add (i.toNat * 1)) (.int .u32 x)) B (b32 (w.set i.toNat x) ++ zs) E := by
  have e : b32 (w.set i.toNat x) ++ zs = (b32 w ++ zs).set i.toNat (.int .u32 x) := by
    rw [show b32 (w.set i.toNat x) = (b32 w).set i.toNat (.int .u32 x) from List.map_set, List.set_append_left _ _ (by simp [W.len]; omega)]
  rw [add_mk, Nat.zero_add, Nat.mul_one, e]
  exact K.set
theorem wwr' {h : Heap} {B E : Nat} {w : List Int} (K : Blk h B (b32 w ++ zs) E) (W : Wd w) {i : Int} (i0 : 0 ≤ i) (i1 : i < 16) : WrH h ((⟨B, 0, none⟩ : Addr).add (i.toNat * 1)) := by
  rw [add_mk]; exact K.wr (by simp [W.len]; omega)
/-- half a step of the document's -/
def RefMix (s : Slc) (a b d : Int) (n : Nat) (k : Heap → Prop) (h : Heap) : Prop :=
  ∃ a1 : Addr, s.a = some a1 ∧ (0 : Int) ≤ a ∧ a < (s.len : Int) ∧ (∃ v2 : Int, cellH h (a1.add (a.toNat * 1)) = some (.int .u32 v2) ∧ (∃ a3 : Addr, s.a = some a3 ∧ (0 : Int) ≤ b ∧ b < (s.len : Int) ∧ (∃ v4 : Int, cellH h (a3.add (b.toNat * 1)) = some (.int .u32 v4) ∧ (∃ a5 : Addr, s.a = some a5 ∧ (0 : Int) ≤ a ∧ a < (s.len : Int) ∧ (∃ h6 : Heap, WrH h (a5.add (a.toNat * 1)) ∧ h6 = setH h (a5.add (a.toNat * 1)) (.int .u32 (IntKind.u32.wrap (v2 + v4))) ∧ (∃ a7 : Addr, s.a = some a7 ∧ (0 : Int) ≤ d ∧ d < (s.len : Int) ∧ (∃ v8 : Int, cellH h6 (a7.add (d.toNat * 1)) = some (.int .u32 v8) ∧ (∃ a9 : Addr, s.a = some a9 ∧ (0 : Int) ≤ a ∧ a < (s.len : Int) ∧ (∃ v10 : Int, cellH h6 (a9.add (a.toNat * 1)) = some (.int .u32 v10) ∧ (ref04_turn (bwXor .u32 v8 v10) n (fun (r11 : Int) h12 => ∃ a13 : Addr, s.a = some a13 ∧ (0 : Int) ≤ d ∧ d < (s.len : Int) ∧ (∃ h14 : Heap, WrH h12 (a13.add (d.toNat * 1)) ∧ h14 = setH h12 (a13.add (d.toNat * 1)) (.int .u32 r11) ∧ k h14)) h6))))))))))
theorem refMix_ok {B E : Nat} {w : List Int} {a b d : Int} {cp n : Nat} {k : Heap → Prop} {h : Heap} (K : Blk h B (b32 w ++ zs) E) (W : Wd w) (ha : 0 ≤ a ∧ a < 16) (hb : 0 ≤ b ∧ b < 16) (hd : 0 ≤ d ∧ d < 16) (hn : n ≤ 16)
    (H : ∀ h', Blk h' B (b32 (mixL w a.toNat b.toNat d.toNat n) ++ zs) E → Upd B h h' → k h') : RefMix ⟨some ⟨B, 0, none⟩, 16, cp⟩ a b d n k h := by
  have K1 := wset' K W (i := a) (x := (gw w a.toNat + gw w b.toNat) % 4294967296) ha.1 ha.2
  have W1 : Wd (addAt w a.toNat b.toNat) := W.add
  have hx := bwXor_bd32 (gw (addAt w a.toNat b.toNat) d.toNat) (gw (addAt w a.toNat b.toNat) a.toNat)
  refine ⟨_, rfl, ha.1, ha.2, _, wcell' K W ha.1 ha.2, _, rfl, hb.1, hb.2, _, wcell' K W hb.1 hb.2, _, rfl, ha.1, ha.2, _, wwr' K W ha.1 ha.2, rfl, _, rfl, hd.1, hd.2, ?_⟩
  rw [wU32]
  exact ⟨_, wcell' K1 W1 hd.1 hd.2, _, rfl, ha.1, ha.2, _, wcell' K1 W1 ha.1 ha.2, turn_ok hn hx.1 hx.2 ⟨_, rfl, hd.1, hd.2, _, wwr' K1 W1 hd.1 hd.2, rfl, H _ (wset' K1 W1 hd.1 hd.2) ((Upd.set h).trans (Upd.set _))⟩⟩
theorem refQuarter_eq (s : Slc) (a b c d : Int) (k : Unit → Heap → Prop) (h : Heap) : ref04_quarter s a b c d k h ↔ RefMix s a b d 16 (RefMix s c d b 12 (RefMix s a b d 8 (RefMix s c d b 7 (k ())))) h := Iff.rfl
/-- the document's quarter, on a row -/
theorem refQuarter_ok {B E : Nat} {w : List Int} {a b c d : Int} {cp : Nat} {k : Unit → Heap → Prop} {h : Heap} (K : Blk h B (b32 w ++ zs) E) (W : Wd w) (ha : 0 ≤ a ∧ a < 16) (hb : 0 ≤ b ∧ b < 16) (hc : 0 ≤ c ∧ c < 16) (hd : 0 ≤ d ∧ d < 16)
    (H : ∀ h', Blk h' B (b32 (qrL w a.toNat b.toNat c.toNat d.toNat) ++ zs) E → Upd B h h' → k () h') : ref04_quarter ⟨some ⟨B, 0, none⟩, 16, cp⟩ a b c d k h := by
  rw [refQuarter_eq]
  refine refMix_ok K W ha hb hd (by omega) fun h1 K1 U1 => ?_
  have W1 := W.mix (a := a.toNat) (b := b.toNat) (d := d.toNat) (n := 16) (by omega)
  refine refMix_ok K1 W1 hc hd hb (by omega) fun h2 K2 U2 => ?_
  have W2 := W1.mix (a := c.toNat) (b := d.toNat) (d := b.toNat) (n := 12) (by omega)
  refine refMix_ok K2 W2 ha hb hd (by omega) fun h3 K3 U3 => ?_
  have W3 := W2.mix (a := a.toNat) (b := b.toNat) (d := d.toNat) (n := 8) (by omega)
  refine refMix_ok K3 W3 hc hd hb (by omega) fun h4 K4 U4 => ?_
  exact H h4 K4 (U1.trans (U2.trans (U3.trans U4)))
end
end Go.Q.Yd
