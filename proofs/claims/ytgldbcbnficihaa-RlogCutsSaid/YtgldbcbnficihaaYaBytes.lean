/- A part of the proof of statements of this seat: lemmas, no statement of their own. -/
import Derived.Test.YtgldbcbnficihaaYaLease2
import Derived.Test.YtgldbcbnficihaaQArg
set_option linter.unusedVariables false
set_option linter.unusedSimpArgs false
namespace Go.Q.Ya
abbrev by8 (l : List Int) : List Value := l.map (Value.int .u8)
theorem by8_one (l : List Int) : ∀ v ∈ by8 l, v.oneCell' = true := by intro v hv; simp at hv; obtain ⟨a, _, rfl⟩ := hv; rfl
/-- the form of a number: its lowest byte first -/
def formL : Int → Nat → List Int
  | _, 0 => []
  | n, w + 1 => n % 256 :: formL (n / 256) w
theorem formL_length : ∀ (w : Nat) (n : Int), (formL n w).length = w
  | 0, _ => rfl
  | w + 1, n => by simp [formL, formL_length w]
theorem formL_zero : ∀ w, formL 0 w = List.replicate w 0
  | 0 => rfl
  | w + 1 => by simp [formL, formL_zero w, List.replicate_succ]
/-! ### num.Put -/
theorem Clone8_ok {p0 : Slc} {l : List Int} {k : Slc → Heap → Prop} {h : Heap} (hl : p0.len = l.length) (hs : SlcAt h p0 (by8 l)) (hb : ∀ a, p0.a = some a → a.block < h.size) (hsz : l.length ≤ 70368744177664)
    (H : ∀ s' h', Row h.size h' 5 1 s' (by8 l) → Ext h.size h h' → k s' h') : slices_Clone_byte_byte p0 k h := by
  unfold slices_Clone_byte_byte
  cases ha : p0.a with
  | none =>
    rw [if_pos (by simp)]
    have hn : l = [] := by have := hs.1 ha; simpa using this
    subst hn
    exact H _ _ (Row.nil _ _ _ _) (Ext.refl _ _)
  | some a =>
    rw [if_neg (by simp)]
    have hp : ∀ o : Obj, Ext h.size h (h.push o) := fun o => Ext.push h o (Nat.le_refl _)
    refine ⟨_, _, rfl, rfl, by8 l, ⟨fun hn => (by rw [ha] at hn; cases hn), fun a' ha' j v hj => ?_⟩, ?_⟩
    · rw [(hp _).cell (by rw [add_block]; exact hb a' ha')]
      exact hs.2 a' ha' j v hj
    · have R : Row h.size (h.push (.cells ([] : List Value).toArray 5)) 5 1 ⟨some ⟨h.size, 0, none⟩, 0, 0⟩ [] :=
        ⟨by simp, by simp [maxLen], .inr ⟨h.size, [], rfl, Nat.le_refl _, Blk.push _ _ _, Nat.le_refl _, by simp, by simp⟩⟩
      refine App.row R (by simp) rfl (by simp [hl]) (by8_one l) (by simp only; omega) (by simp only [maxLen]; omega) fun s' h' R' _ hsz' ho _ => ?_
      refine H s' h' (by simpa using R') ⟨by simp at hsz'; omega, fun i hi => ?_⟩
      rw [ho i (by simp; omega) (by simp [Slc.blk]; omega), (hp _).block i hi]
theorem wrap_u8 (n : Int) : IntKind.u8.wrap n = n % 256 := by unfold IntKind.wrap; simp [IntKind.signed, IntKind.bits]
theorem shr8 {n : Int} : shr .u64 n (8 : Int).toNat = n / 256 := by
  simp [shr, IntKind.bits]
  rw [Int.fdiv_eq_ediv_of_nonneg _ (by decide)]
theorem Put_l1_ok {B : Nat} {w : Int} {n : Int} {s : Slc} {l L : List Int} {k : Slc → Heap → Prop} {h : Heap} (w0 : 0 ≤ w) (w1 : w ≤ 8) (n0 : 0 ≤ n) (R : Row B h 5 1 s (by8 l)) (hB : B ≤ h.size) (hL : l ++ formL n w.toNat = L) (hsz : L.length ≤ 70368744177664)
    (H : ∀ s' h', Row B h' 5 1 s' (by8 L) → Ext B h h' → k s' h') : num_Put_l1 w n s 0 k h := by
  refine ⟨fun q h' => ∃ l, Row B h' 5 1 q.2.1 (by8 l) ∧ l ++ formL q.1 (w - q.2.2).toNat = L ∧ 0 ≤ q.1 ∧ 0 ≤ q.2.2 ∧ q.2.2 ≤ w ∧ Ext B h h', fun q _ => (w - q.2.2).toNat, ⟨l, R, by simpa using hL, n0, by simp, by simpa using w0, Ext.refl _ _⟩, ?_⟩
  rintro n s i h1 ⟨l, R, hL, n0, i0, i1, X⟩
  simp only at R hL n0 i0 i1
  unfold num_Put_l1b
  by_cases hi : i < w
  · rw [if_pos (by simpa using hi)]
    refine ⟨_, _, rfl, rfl, ?_⟩
    have hll : l.length ≤ L.length := by rw [← hL]; simp
    have hlen := R.len
    simp at hlen
    have hX := X.size
    refine App.row (R.pushed _) (by simp; omega) rfl rfl (by simp [Value.oneCell']) (by omega) (by simp only [maxLen]; omega) fun s' h2 R' _ hs ho _ => ?_
    rw [shr8, wrap_u8, wrapI64 (by omega) (by omega)] at *
    refine ⟨_, rfl, ⟨l ++ [n % 256], by simpa using R', ?_, by simp only; omega, by simp only; omega, by simp only; omega, X.trans ⟨by simp at hs; omega, fun j hj => ?_⟩⟩, ?_⟩
    · simp only
      rw [show (w - i).toNat = (w - (i + 1)).toNat + 1 from by omega] at hL
      simpa [formL] using hL
    · rw [ho j (by simp; omega) (fun e => by have := (R.bd e).1; omega), Array.getElem?_push, if_neg (by omega)]
    · show (w - (i + 1)).toNat < (w - i).toNat
      omega
  · rw [if_neg (by simpa using hi)]
    have : (w - i).toNat = 0 := by omega
    rw [this] at hL
    simp [formL] at hL
    subst hL
    exact H _ _ R X
theorem Put_ok {p0 : Slc} {l : List Int} {n w : Int} {k : Slc → Heap → Prop} {h : Heap} (w0 : 0 ≤ w) (w1 : w ≤ 8) (n0 : 0 ≤ n) (hl : p0.len = l.length) (hs : SlcAt h p0 (by8 l)) (hb : ∀ a, p0.a = some a → a.block < h.size) (hsz : l.length ≤ 70368744177000)
    (H : ∀ s' h', Row h.size h' 5 1 s' (by8 (l ++ formL n w.toNat)) → Ext h.size h h' → k s' h') : num_Put p0 n w k h := by
  unfold num_Put
  refine Clone8_ok hl hs hb (by omega) fun s1 h1 R1 X1 => ?_
  rw [if_neg (by simp; omega)]
  refine Put_l1_ok w0 w1 n0 R1 X1.size rfl (by simp [formL_length]; omega) fun s2 h2 R2 X2 => ?_
  exact H _ _ R2 (X1.trans X2)
/-! ### aead.NonceOf -/
def nonceL (nd n : Int) : List Int := formL n 8 ++ formL nd 2 ++ [0, 0]
theorem nonceL_length (nd n : Int) : (nonceL nd n).length = 12 := by simp [nonceL, formL_length]
theorem NonceOf_ok {nd n : Int} {k : List Int × Int → Heap → Prop} {h : Heap} (d0 : 0 ≤ nd) (d1 : nd < 65536) (n0 : 0 ≤ n) (n1 : n ≤ 4611686018427387904)
    (H : ∀ h', Ext h.size h h' → k (nonceL nd n, 0) h') : aead_NonceOf nd n k h := by
  unfold aead_NonceOf
  refine ⟨_, _, rfl, rfl, ?_⟩
  have L0 := Blk.push h ((List.replicate 12 (0 : Int)).map (Value.int .u8)) 40
  have X0 := Ext.push h (.cells ((List.replicate 12 (0 : Int)).map (Value.int .u8)).toArray 40) (Nat.le_refl _)
  rw [if_neg (by simp; omega)]
  refine Put_ok (l := []) (by decide) (by decide) n0 rfl ⟨fun _ => rfl, fun a ha => by cases ha⟩ (fun a ha => by cases ha) (by simp) fun s1 h1 R1 X1 => ?_
  rw [wrapU64 (by omega) (by omega)]
  refine Put_ok (by decide) (by decide) d0 (by simpa using R1.len) R1.slc R1.lt (by simp [formL_length]) fun s2 h2 R2 X2 => ?_
  refine Put_ok (by decide) (by decide) (by decide) (by simpa using R2.len) R2.slc R2.lt (by simp [formL_length]) fun s3 h3 R3 X3 => ?_
  have hb : ([] ++ formL n (8 : Int).toNat ++ formL nd (2 : Int).toNat ++ formL 0 (2 : Int).toNat) = nonceL nd n := by simp [nonceL, formL_zero]
  rw [hb] at R3
  have hlen := R3.len
  simp [nonceL_length] at hlen
  obtain ⟨a, ha, _⟩ := R3.at (j := 0) (by omega)
  have z1 := X1.size; have z2 := X2.size; have z3 := X3.size
  have z0 : (h.push (.cells ((List.replicate 12 (0 : Int)).map (Value.int .u8)).toArray 40)).size = h.size + 1 := by simp
  have L3 : Blk h3 h.size ((List.replicate 12 (0 : Int)).map (Value.int .u8)) 40 := ((L0.ext X1 (by omega)).ext X2 (by omega)).ext X3 (by omega)
  refine ⟨a, ha, by omega, nonceL nd n, nonceL_length _ _, R3.slc.2 a ha, _, nonceL_length _ _, WrsAt.of_blk L3 (by simp), rfl, ?_⟩
  have L4 := L3.sets_all (vs := by8 (nonceL nd n)) (by simp [nonceL_length])
  refine ⟨nonceL nd n, nonceL_length _ _, CellsAt.of_blk L4, H _ ?_⟩
  refine (X0.trans ((X1.mono (by omega)).trans ((X2.mono (by omega)).trans (X3.mono (by omega))))).trans (Ext.sets _ _ _ (Nat.le_refl _))
/-! ### the document's -/
theorem Form_ok {n w : Int} {k : Slc → Heap → Prop} {h : Heap} (w0 : 0 ≤ w) (w1 : w ≤ 8) (n0 : 0 ≤ n) (n1 : n < 18446744073709551616) (H : ∀ s' h', Row h.size h' 5 1 s' (by8 (formL n w.toNat)) → Ext h.size h h' → k s' h') : ref01_Form n w k h := by
  unfold ref01_Form
  refine ⟨fun q h' => ∃ l, Row h.size h' 5 1 q.2.1 (by8 l) ∧ l ++ formL q.1 (w - q.2.2).toNat = formL n w.toNat ∧ 0 ≤ q.1 ∧ q.1 < 18446744073709551616 ∧ 0 ≤ q.2.2 ∧ q.2.2 ≤ w ∧ Ext h.size h h', fun q _ => (w - q.2.2).toNat, ⟨[], Row.nil _ _ _ _, by simp, n0, n1, by simp, by simpa using w0, Ext.refl _ _⟩, ?_⟩
  rintro n s i h1 ⟨l, R, hL, n0, n1, i0, i1, X⟩
  simp only at R hL n0 n1 i0 i1
  unfold ref01_Form_l1b
  have ht : Int.tmod n 256 = n % 256 := Int.tmod_eq_emod_of_nonneg n0
  have hd : Int.tdiv n 256 = n / 256 := Int.tdiv_eq_ediv_of_nonneg n0
  rw [ht, hd, wrap_u8, show n % 256 % 256 = n % 256 from by omega]
  by_cases hi : i < w
  · rw [if_pos (by simpa using hi)]
    refine ⟨_, _, rfl, rfl, ?_⟩
    have hll : l.length ≤ 8 := by have := congrArg List.length hL; simp [formL_length] at this; omega
    have hlen := R.len
    simp at hlen
    have hX := X.size
    refine App.row (R.pushed _) (by simp; omega) rfl rfl (by simp [Value.oneCell']) (by omega) (by simp only [maxLen]; omega) fun s' h2 R' _ hs ho _ => ?_
    rw [wrapI64 (by omega) (by omega), wrapU64 (by omega) (by omega)]
    refine ⟨_, rfl, _, rfl, ⟨l ++ [n % 256], by simpa using R', ?_, by simp only; omega, by simp only; omega, by simp only; omega, by simp only; omega, X.trans ⟨by simp at hs; omega, fun j hj => ?_⟩⟩, ?_⟩
    · simp only
      rw [show (w - i).toNat = (w - (i + 1)).toNat + 1 from by omega] at hL
      simpa [formL] using hL
    · rw [ho j (by simp; omega) (fun e => by have := (R.bd e).1; omega), Array.getElem?_push, if_neg (by omega)]
    · show (w - (i + 1)).toNat < (w - i).toNat
      omega
  · rw [if_neg (by simpa using hi)]
    have : (w - i).toNat = 0 := by omega
    rw [this] at hL
    simp [formL] at hL
    subst hL
    exact H _ _ R X
end Go.Q.Ya
