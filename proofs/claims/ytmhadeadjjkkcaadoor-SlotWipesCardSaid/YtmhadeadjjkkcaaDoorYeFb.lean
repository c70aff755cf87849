/- A part of the proof of statements of this seat: lemmas, no statement of their own. -/
import Derived.Test.YtmhadeadjjkkcaaDoorYeFa
set_option linter.unusedVariables false
set_option linter.unusedSimpArgs false
set_option maxRecDepth 100000
/- Slot: is a slot whole. -/
namespace Go.Q.Ye
variable {B c : Nat} {h h' : Heap} {d rn rs pr : Nat} {X : DK}
abbrev pcs (d : Nat) (fr kk : Int) : List Value := S_slot_Pair.cs ⟨some ⟨d, 0, none⟩, fr, kk⟩
def PairAt (h : Heap) (pr d : Nat) (fr kk : Int) : Prop := Blk h pr (pcs d fr kk) 50
/-- the bytes of all sectors are bytes -/
def GoodX (X : DK) : Prop := (∀ a, isB (secB ((mget X.now a).getD zSec))) ∧ ∀ a, isB (secB ((mget X.safe a).getD zSec))
theorem read_B (g : GoodX X) (a : Int) : isB (readD X a).1 := by
  unfold readD
  split
  · intro b hb; cases hb
  · split
    · intro b hb; cases hb
    · exact g.1 a
theorem read_len {a : Int} (e : (readD X a).2 = 0) : (readD X a).1.length = 128 := by
  unfold readD at e ⊢
  split at e
  · cases e
  · split at e
    · cases e
    · rename_i h1 h2; rw [if_neg h1, if_neg h2]; exact nrm_len _ _
def prtD (n : Int) : Int := if (n + 103) / 104 > 1 then (n + 103) / 104 else 1
theorem Parts_ok {n : Int} {k : Int → Heap → Prop} (n0 : 0 ≤ n) (n1 : n < 4611686018427387904) (H : k (prtD n) h) : slot_parts n k h := by
  unfold slot_parts
  refine ⟨_, rfl, ?_⟩
  rw [wrapI64 (x := n + 104) (by omega) (by omega), wrapI64 (x := n + 104 - 1) (by omega) (by omega), Int.tdiv_eq_ediv_of_nonneg (by omega), wrapI64 (x := (n + 104 - 1) / 104) (by omega) (by omega)]
  rw [show n + 104 - 1 = n + 103 from by omega]
  exact H
theorem Short_ok {l : List Int} {k : Int → Heap → Prop} (hl : l.length = 32) (hB : isB l) (H : ∀ h', Ext h.size h h' → k (numL (l.take 8)) h') : sha_Short l k h := by
  unfold sha_Short
  refine ⟨_, _, rfl, rfl, ?_⟩
  have ea : arr 32 .u8 l = b8 l := arr_full hl
  have P := Blk.push h (arr 32 .u8 l) 63
  have W := Ext.push h (.cells (arr 32 .u8 l).toArray 63) (Nat.le_refl _)
  generalize h.push (.cells (arr 32 .u8 l).toArray 63) = h2 at *
  rw [ea] at P
  have e : subS ⟨some (⟨h.size, 0, none⟩ : Addr), 32, 32⟩ 1 (0 : Int).toNat (32 : Int).toNat 32 = ⟨some ⟨h.size, 0, none⟩, 32, 32⟩ := by
    unfold subS
    simp
  refine ⟨_, by omega, by omega, by omega, rfl, ?_⟩
  rw [e]
  refine nGet_ok (w := 8) (l' := l) (l := l.take 8) (P.slc (o := 0) (n := 32) ?_) (by rw [hl]) rfl (isB_take hB _) (by omega) (by omega) (by rw [List.length_take, hl]; rfl) (H h2 W)
  rw [List.drop_zero, List.take_of_length_le (by rw [List.length_map, hl]; omega)]
/-- the head of a slot's first sector -/
def fst1 (X : DK) (p : Int) : S_slot_head := hdD (readD X p).1
def GoodF (f : S_slot_head) (kk : Int) : Prop := 1 ≤ f.f_parts ∧ f.f_parts ≤ kk ∧ f.f_parts = prtD f.f_size
def OkI (X : DK) (p : Int) (i : Nat) : Prop := (readD X (p + i)).2 = 0 ∧ hdD (readD X (p + i)).1 = { fst1 X p with f_part := (i : Int) }
def catW (X : DK) (p : Int) (n : Nat) : List Int := ((List.range n).map fun i : Nat => (readD X (p + i)).1.drop 24).flatten
theorem catW_succ (X : DK) (p : Int) (n : Nat) : catW X p (n + 1) = catW X p n ++ (readD X (p + n)).1.drop 24 := by
  unfold catW
  rw [List.range_succ, List.map_append, List.flatten_append]
  simp
theorem catW_len {p : Int} : ∀ n : Nat, (∀ i : Nat, i < n → (readD X (p + i)).2 = 0) → (catW X p n).length = 104 * n
  | 0, _ => rfl
  | n + 1, hh => by
    rw [catW_succ, List.length_append, catW_len n fun i hi => hh i (by omega), List.length_drop, read_len (hh n (by omega))]; omega
def outW (X : DK) (p : Int) : List Int := (catW X p (fst1 X p).f_parts.toNat).take (fst1 X p).f_size.toNat
def WholeC (X : DK) (p kk : Int) : Prop := GoodF (fst1 X p) kk ∧ (∀ i : Nat, i < (fst1 X p).f_parts.toNat → OkI X p i) ∧ numL ((shaD (outW X p)).take 8) = (fst1 X p).f_sum
theorem hd_bd (g : GoodX X) (p : Int) : 0 ≤ (fst1 X p).f_size ∧ (fst1 X p).f_size < 4294967296 ∧ 0 ≤ (fst1 X p).f_parts ∧ (fst1 X p).f_parts < 65536 := by
  have a := fld_bd (read_B g p) 12 4
  have b := fld_bd (read_B g p) 10 2
  rw [show (256 : Int) ^ 4 = 4294967296 from by decide] at a
  rw [show (256 : Int) ^ 2 = 65536 from by decide] at b
  exact ⟨a.1, a.2, b.1, b.2⟩
theorem hd_part (g : GoodX X) (p : Int) : 0 ≤ (fst1 X p).f_part ∧ (fst1 X p).f_part < 65536 := by
  have b := fld_bd (read_B g p) 8 2
  rw [show (256 : Int) ^ 2 = 65536 from by decide] at b
  exact b
theorem part_eq {a b : S_slot_head} : ((a.f_n == b.f_n) && (a.f_part == b.f_part) && (a.f_parts == b.f_parts) && (a.f_size == b.f_size) && (a.f_sum == b.f_sum)) = true ↔ a = b := by
  cases a; cases b; simp [and_assoc]
end Go.Q.Ye
