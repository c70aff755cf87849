/- A part of the proof of statements of this seat: lemmas, no statement of their own. -/
import Derived.Test.YthjafnfadiijgaaQFr
import Derived.Test.YthjafnfadiijgaaQRow
set_option linter.unusedVariables false
set_option linter.unusedSimpArgs false
/- What is one's own, and what stays. -/
namespace Go.Q
abbrev BSet := Nat → Prop
/-- but for the blocks of O all is as it was -/
structure Stp (O : BSet) (h h' : Heap) : Prop where
  size : h.size ≤ h'.size
  block : ∀ g, g < h.size → ¬ O g → h'[g]? = h[g]?
theorem Stp.refl (O : BSet) (h : Heap) : Stp O h h := ⟨Nat.le_refl _, fun _ _ _ => rfl⟩
theorem Stp.trans {O O' : BSet} {a b c : Heap} (p : Stp O a b) (q : Stp O' b c) (hO : ∀ g, O' g → O g ∨ a.size ≤ g) : Stp O a c :=
  ⟨Nat.le_trans p.size q.size, fun g hg hn => (q.block g (Nat.lt_of_lt_of_le hg p.size) fun h' => (hO g h').elim hn fun h2 => by omega).trans (p.block g hg hn)⟩
theorem Stp.trans' {O : BSet} {a b c : Heap} (p : Stp O a b) (q : Stp O b c) : Stp O a c := p.trans q fun _ h => .inl h
theorem Stp.mono {O O' : BSet} {h h' : Heap} (p : Stp O h h') (hO : ∀ g, O g → O' g ∨ h.size ≤ g) : Stp O' h h' :=
  ⟨p.size, fun g hg hn => p.block g hg fun h' => (hO g h').elim hn fun h2 => by omega⟩
theorem Stp.of_ext {O : BSet} {h h' : Heap} (X : Ext h.size h h') : Stp O h h' := ⟨X.size, fun g hg _ => X.block g hg⟩
theorem Stp.of_upd {O : BSet} {b : Nat} {h h' : Heap} (U : Upd b h h') (hb : O b ∨ h.size ≤ b) : Stp O h h' := ⟨U.size, fun g hg hn => U.block g hg fun e => by subst e; exact hb.elim hn fun h2 => by omega⟩
theorem Stp.set {O : BSet} {h : Heap} {a : Addr} {v : Value} (ha : O a.block ∨ h.size ≤ a.block) : Stp O h (setH h a v) :=
  ⟨by rw [setH_size]; exact Nat.le_refl _, fun g hg hn => setH_other fun e => by subst e; exact ha.elim hn fun h2 => by omega⟩
theorem Stp.sets {O : BSet} {h : Heap} {a : Addr} {i : Nat} {vs : List Value} (ha : O a.block ∨ h.size ≤ a.block) : Stp O h (setsH h a i vs) :=
  ⟨by rw [setsH_size]; exact Nat.le_refl _, fun g hg hn => setsH_other _ _ fun e => by subst e; exact ha.elim hn fun h2 => by omega⟩
theorem Stp.push {O : BSet} (h : Heap) (o : Obj) : Stp O h (h.push o) := .of_ext (Ext.push h o (Nat.le_refl _))
theorem Stp.ext {O : BSet} {B : Nat} {h h' : Heap} (p : Stp O h h') (hO : ∀ g, O g → B ≤ g) (hB : B ≤ h.size) : Ext B h h' := ⟨p.size, fun g hg => p.block g (by omega) fun h' => by have := hO g h'; omega⟩
theorem Stp.blk {O : BSet} {b E : Nat} {cs : List Value} {h h' : Heap} (p : Stp O h h') (k : Blk h b cs E) (hb : ¬ O b) : Blk h' b cs E := k.old (p.block b k.lt hb)
theorem Stp.row {O : BSet} {B E w : Nat} {s : Slc} {xs : List Value} {h h' : Heap} (p : Stp O h h') (R : Row B h E w s xs) (hb : ∀ g, s.blk = some g → ¬ O g) : Row B h' E w s xs := R.keep fun g hg => p.block g (R.bd hg).2 (hb g hg)
/-- what holds whatever is done to the blocks of O, and beyond -/
def Imm (O : BSet) (h : Heap) (p : Heap → Prop) : Prop := ∀ h', Stp O h h' → p h'
theorem Imm.now {O : BSet} {h : Heap} {p : Heap → Prop} (I : Imm O h p) : p h := I h (Stp.refl _ _)
theorem Imm.imp {O : BSet} {h : Heap} {p q : Heap → Prop} (I : Imm O h p) (k : ∀ h', p h' → q h') : Imm O h q := fun h' s => k h' (I h' s)
theorem Imm.const {O : BSet} {h : Heap} {p : Prop} (k : p) : Imm O h fun _ => p := fun _ _ => k
theorem Imm.step {O O' : BSet} {h h' : Heap} {p : Heap → Prop} (I : Imm O h p) (s : Stp O h h') (hO : ∀ g, O' g → O g ∨ h.size ≤ g) : Imm O' h' p :=
  fun h2 s2 => I h2 (s.trans s2 hO)
theorem Imm.stp {O : BSet} {h h' : Heap} {p : Heap → Prop} (I : Imm O h p) (s : Stp O h h') : Imm O h' p := I.step s fun _ h => .inl h
theorem Imm.ext {O : BSet} {h h' : Heap} {p : Heap → Prop} (I : Imm O h p) (X : Ext h.size h h') : Imm O h' p := I.stp (.of_ext X)
theorem Imm.mono {O O' : BSet} {h : Heap} {p : Heap → Prop} (I : Imm O h p) (hO : ∀ g, O' g → O g ∨ h.size ≤ g) : Imm O' h p := I.step (Stp.refl _ _) hO
theorem Imm.and {O : BSet} {h : Heap} {p q : Heap → Prop} (I : Imm O h p) (J : Imm O h q) : Imm O h fun h => p h ∧ q h := fun h' s => ⟨I h' s, J h' s⟩
theorem Imm.of_row {O : BSet} {B E w : Nat} {s : Slc} {xs : List Value} {h : Heap} (R : Row B h E w s xs) (hb : ∀ g, s.blk = some g → ¬ O g) : Imm O h fun h' => Row B h' E w s xs := fun h' p => p.row R hb
theorem Imm.of_blk {O : BSet} {b E : Nat} {cs : List Value} {h : Heap} (k : Blk h b cs E) (hb : ¬ O b) : Imm O h fun h' => Blk h' b cs E := fun h' p => p.blk k hb
/-- what stood when the heap was h0, and nothing of it may be written since -/
theorem Imm.of_old {O : BSet} {h0 h : Heap} {p : Heap → Prop} (I : ∀ h', Ext h0.size h0 h' → p h') (X : Ext h0.size h0 h) (hO : ∀ g, O g → h0.size ≤ g) : Imm O h p :=
  fun h' s => I h' (X.trans ⟨s.size, fun g hg => s.block g (Nat.lt_of_lt_of_le hg X.size) fun h2 => by have := hO g h2; omega⟩)
end Go.Q
