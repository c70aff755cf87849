/- A part of the proof of statements of this seat: lemmas, no statement of their own. -/
import Derived.Test.YtcmbgfmbmbgbiaaYbDkB
import Derived.Test.YtcmbgfmbmbgbiaaQRow
set_option linter.unusedVariables false
set_option linter.unusedSimpArgs false
namespace Go.Q.Yb
open Go.Q.Rw (fm_set fm_len ls_of_slc row_setc row_setS fm_take)
/-! ### the document's disk -/
abbrev Pl := S_quaestorref09_Place
abbrev PL := Pl × List Int × List Int
def plcs (q : PL) : List Value := S_quaestorref09_Place.cs q.1
theorem plcs_len (q : PL) : (plcs q).length = 6 := rfl
structure AP where
  at' : Int
  now : List Int
  was : List Int
  torn : Bool
  old : Bool
  opn : Bool
def absP (q : PL) : AP := ⟨q.1.f_At, q.2.1, q.2.2, q.1.f_Torn, q.1.f_Old, q.1.f_Open⟩
structure RD where
  L : List PL
  fuse : Int
  dead : Bool
  ops : Int
structure AR where
  L : List AP
  fuse : Int
  dead : Bool
  ops : Int
def absR (X : RD) : AR := ⟨X.L.map absP, X.fuse, X.dead, X.ops⟩
/-- 128 bytes of their own -/
def ByAt (h : Heap) (s : Slc) (l : List Int) : Prop := ∃ g, s = ⟨some ⟨g, 0, none⟩, 128, 128⟩ ∧ Blk h g (b8 l) 5 ∧ l.length = 128
abbrev rcs (s : Slc) (X : RD) : List Value := S_quaestorref09_Disk.cs ⟨s, X.fuse, X.dead, X.ops⟩
structure RAt (B c : Nat) (h : Heap) (r : Nat) (s : Slc) (X : RD) : Prop where
  P : Blk h r (rcs s X) 105
  R : Row B h 115 6 s (X.L.flatMap plcs)
  Y : ∀ q ∈ X.L, ByAt h q.1.f_Now q.2.1 ∧ ByAt h q.1.f_Was q.2.2
  l : s.len = X.L.length
  bd : B ≤ r
  c : X.L.length ≤ c
structure RF (r : Nat) (s : Slc) (h h' : Heap) : Prop where
  size : h.size ≤ h'.size
  block : ∀ g, g < h.size → g ≠ r → s.blk ≠ some g → h'[g]? = h[g]?
section
variable {B c : Nat} {h h' h'' : Heap} {r : Nat} {s : Slc} {X : RD}
theorem RF.of_ext (E : Ext h.size h h') : RF r s h h' := ⟨E.size, fun g hg _ _ => E.block g hg⟩
theorem RF.trans (p : RF r s h h') (q : RF r s h' h'') : RF r s h h'' := ⟨Nat.le_trans p.size q.size, fun g hg a b => (q.block g (Nat.lt_of_lt_of_le hg p.size) a b).trans (p.block g hg a b)⟩
theorem ByAt.old {t : Slc} {l : List Int} (Y : ByAt h t l) (k : ∀ g, Blk h g (b8 l) 5 → h'[g]? = h[g]?) : ByAt h' t l := by
  obtain ⟨g, e, b, n⟩ := Y
  exact ⟨g, e, b.old (k g b), n⟩
theorem RAt.ext (A : RAt B c h r s X) (E : Ext h.size h h') : RAt B c h' r s X :=
  ⟨A.P.ext E A.P.lt, A.R.ext E fun g hg => (A.R.bd hg).2, fun q hq => ⟨(A.Y q hq).1.old fun g b => E.block g b.lt, (A.Y q hq).2.old fun g b => E.block g b.lt⟩, A.l, A.bd, A.c⟩
theorem RAt.more (A : RAt B c h r s X) {c' : Nat} (hc : c ≤ c') : RAt B c' h r s X := ⟨A.P, A.R, A.Y, A.l, A.bd, Nat.le_trans A.c hc⟩
theorem RF.ext (F : RF r s h h') (A : RAt B c h r s X) (hB : B ≤ h.size) : Ext B h h' := ⟨F.size, fun g hg => F.block g (by omega) (by have := A.bd; omega) fun e => by have := (A.R.bd e).1; omega⟩
theorem RAt.cell (A : RAt B c h r s X) (i : Nat) : cellH h ((⟨r, 0, none⟩ : Addr).add i) = (rcs s X)[i]? := by rw [add_mk, Nat.zero_add, A.P.cell]
theorem RAt.cell0 (A : RAt B c h r s X) : cellH h (⟨r, 0, none⟩ : Addr) = some (Slc.v s) := by rw [A.P.cell]; rfl
theorem RAt.ls (A : RAt B c h r s X) : LsAt plcs 6 h s X.L := ls_of_slc plcs_len A.R.slc A.l (by omega)
theorem RAt.rr (A : RAt B c h r s X) : s.blk ≠ some r := Row.unlike A.R A.P (by decide)
theorem RAt.yr (A : RAt B c h r s X) {g : Nat} {l : List Int} (b : Blk h g (b8 l) 5) : g ≠ r ∧ s.blk ≠ some g := ⟨fun e => Blk.unlike b A.P (by decide) e, Row.unlike A.R b (by decide)⟩
theorem RAt.set (A : RAt B c h r s X) {i : Nat} {v : Value} {Z : RD} (hL : Z.L = X.L) (hcs : (rcs s X).set i v = rcs s Z) : RAt B c (setH h ⟨r, i, none⟩ v) r s Z :=
  ⟨by have := A.P.set (i := i) (v := v); rw [hcs] at this; exact this, by rw [hL]; exact A.R.keep fun g hg => setH_other fun e => A.rr (by rw [hg]; exact congrArg some e),
    fun q hq => by rw [hL] at hq; exact ⟨(A.Y q hq).1.old fun g b => setH_other (A.yr b).1, (A.Y q hq).2.old fun g b => setH_other (A.yr b).1⟩, by rw [hL]; exact A.l, A.bd, by rw [hL]; exact A.c⟩
theorem RF.set {i : Nat} {v : Value} : RF r s h (setH h ⟨r, i, none⟩ v) := ⟨by rw [setH_size]; exact Nat.le_refl _, fun g _ hr _ => setH_other hr⟩
theorem RAt.addr (A : RAt B c h r s X) {i : Nat} (hi : i < X.L.length) : ∃ g, s.a = some ⟨g, 0, none⟩ ∧ s.blk = some g := by
  obtain ⟨g, zs, e, _, _, _, b⟩ := A.R.opened (by rw [A.l]; omega)
  exact ⟨g, by rw [e], b⟩
/-- a field of a place is written -/
theorem RAt.setf (A : RAt B c h r s X) {i j : Nat} {q q' : PL} {v : Value} (hq : X.L[i]? = some q) (hj : j < 6) (he : plcs q' = (plcs q).set j v) (hy : ByAt h q'.1.f_Now q'.2.1 ∧ ByAt h q'.1.f_Was q'.2.2) :
    ∃ a, s.a = some a ∧ WrH h ((a.add (i * 6)).add j) ∧ RAt B c (setH h ((a.add (i * 6)).add j) v) r s { X with L := X.L.set i q' } ∧ RF r s h (setH h ((a.add (i * 6)).add j) v) := by
  have hi := (List.getElem?_eq_some_iff.1 hq).1
  obtain ⟨g, ha, hb⟩ := A.addr hi
  have hl := A.l
  obtain ⟨w1, w2, w3⟩ := row_setc (v := v) A.R ha (j := i * 6 + j) (by omega)
  refine ⟨_, ha, by rw [add_mk, add_mk, Nat.zero_add]; exact w1, ?_, ?_⟩
  · rw [add_mk, add_mk, Nat.zero_add]
    have o : ∀ g', s.blk ≠ some g' → (setH h ⟨g, i * 6 + j, none⟩ v)[g']? = h[g']? := fun g' hg => setH_other fun e => hg (by rw [hb]; exact congrArg some e.symm)
    rw [fm_set plcs_len X.L i j q q' v hj hq he] at w2
    refine ⟨A.P.old (o _ A.rr), w2, fun p hp => ?_, by rw [List.length_set]; exact hl, A.bd, by rw [List.length_set]; exact A.c⟩
    have y : ByAt h p.1.f_Now p.2.1 ∧ ByAt h p.1.f_Was p.2.2 := by
      rcases List.mem_or_eq_of_mem_set hp with hp | rfl
      · exact A.Y p hp
      · exact hy
    exact ⟨y.1.old fun g b => o _ (A.yr b).2, y.2.old fun g b => o _ (A.yr b).2⟩
  · rw [add_mk, add_mk, Nat.zero_add]
    exact ⟨by rw [setH_size]; exact Nat.le_refl _, fun g' _ _ hg => setH_other fun e => hg (by rw [hb]; exact congrArg some e.symm)⟩
theorem RAt.place (A : RAt B c h r s X) {i : Nat} {q : PL} (hq : X.L[i]? = some q) : ∃ a, s.a = some a ∧ CellsAt h (a.add (i * 6)) (plcs q) := A.ls.at' i q hq
theorem place_at {a : Addr} {i : Nat} {q : PL} (C : CellsAt h (a.add (i * 6)) (plcs q)) : cellH h (a.add (i * 6)) = some (.int .i64 q.1.f_At) := by
  have := C 0 _ rfl
  rw [show (a.add (i * 6)).add 0 = a.add (i * 6) from by simp [Addr.add]] at this
  exact this
set_option maxRecDepth 100000 in
theorem zrep : zrow [Value.int .u8 0] 128 = b8 (List.replicate 128 0) := by rfl
theorem RZero_ok {k : Slc → Heap → Prop} (H : ∀ g h', h' = h.push (.cells (b8 (List.replicate 128 0)).toArray 5) → g = h.size → k ⟨some ⟨g, 0, none⟩, 128, 128⟩ h') : ref09_zero k h := by
  unfold ref09_zero
  refine ⟨_, _, by omega, by omega, by omega, by omega, rfl, rfl, ?_⟩
  exact H _ _ (by rw [show ((128 : Int)).toNat = 128 from rfl, zrep]) rfl
theorem RFind_ok {a : Int} {k : Int → Heap → Prop} (A : RAt B c h r s X) (hc : c ≤ 1000000)
    (H1 : ∀ (i : Nat) q, X.L[i]? = some q → q.1.f_At = a → (∀ j q', j < i → X.L[j]? = some q' → q'.1.f_At ≠ a) → k (i : Int) h) (H2 : (∀ q ∈ X.L, q.1.f_At ≠ a) → k (-1) h) : ref09_Disk_find (some ⟨r, 0, none⟩) a k h := by
  have hl := A.l
  have hcl := A.c
  unfold ref09_Disk_find
  refine ⟨fun i h' => 0 ≤ i ∧ i ≤ X.L.length ∧ (∀ j q', j < i.toNat → X.L[j]? = some q' → q'.1.f_At ≠ a) ∧ h' = h, fun i _ => (X.L.length - i).toNat, ⟨by omega, by omega, fun j q' hj => by simp at hj, rfl⟩, ?_⟩
  rintro i h' ⟨i0, i1, ha, e⟩
  subst e
  unfold ref09_Disk_find_l1b
  refine ⟨_, rfl, s, A.cell0, ?_⟩
  by_cases hi : i < X.L.length
  · rw [if_pos (by rw [decide_eq_true_eq]; omega)]
    have hx : X.L[i.toNat]? = some (X.L[i.toNat]'(by omega)) := by simp
    generalize X.L[i.toNat]'(by omega) = q at *
    obtain ⟨b, hb, C⟩ := A.place hx
    refine ⟨s, A.cell0, b, hb, i0, by omega, q.1.f_At, place_at C, ?_⟩
    by_cases hq : q.1.f_At = a
    · rw [if_pos (by simpa using hq)]
      have := H1 i.toNat q hx hq ha
      rw [Int.toNat_of_nonneg i0] at this; exact this
    · rw [if_neg (by simpa using hq)]
      refine ⟨_, rfl, ?_⟩
      rw [wrapI64 (by omega) (by omega)]
      refine ⟨⟨by omega, by omega, fun j q' hj hq' => ?_, rfl⟩, by dsimp only; omega⟩
      rcases Nat.lt_or_ge j i.toNat with h1 | h1
      · exact ha j q' h1 hq'
      · have : j = i.toNat := by omega
        subst this
        rw [hx] at hq'; cases hq'; exact hq
  · rw [if_neg (by rw [decide_eq_true_eq]; omega)]
    refine ⟨_, rfl, H2 fun q hq => ?_⟩
    obtain ⟨j, hj⟩ := List.getElem?_of_mem hq
    have := (List.getElem?_eq_some_iff.1 hj).1
    exact ha j q (by omega) hj
/-! ### what is done to it, plainly -/
def burnA (X : AR) : Bool × AR :=
  if X.fuse > 0 then (IntKind.i64.wrap (X.fuse - 1) == 0, { X with ops := IntKind.i64.wrap (X.ops + 1), fuse := IntKind.i64.wrap (X.fuse - 1), dead := if IntKind.i64.wrap (X.fuse - 1) = 0 then true else X.dead })
  else (false, { X with ops := IntKind.i64.wrap (X.ops + 1) })
theorem RBurn_ok {k : Bool → Heap → Prop} (A : RAt B c h r s X) (H : ∀ X' h', RAt B c h' r s X' → absR X' = (burnA (absR X)).2 → RF r s h h' → k (burnA (absR X)).1 h') : ref09_Disk_burn (some ⟨r, 0, none⟩) k h := by
  unfold ref09_Disk_burn
  refine ⟨_, rfl, X.ops, by rw [A.cell]; rfl, _, by rw [add0]; exact A.P.wr (show 3 < 4 by omega), rfl, ?_⟩
  rw [add0, add0, add0]
  have A1 : RAt B c (setH h ⟨r, 3, none⟩ (.int .i64 (IntKind.i64.wrap (X.ops + 1)))) r s { X with ops := IntKind.i64.wrap (X.ops + 1) } := A.set rfl rfl
  have F1 : RF r s h (setH h ⟨r, 3, none⟩ (.int .i64 (IntKind.i64.wrap (X.ops + 1)))) := RF.set
  generalize setH h ⟨r, 3, none⟩ (.int .i64 (IntKind.i64.wrap (X.ops + 1))) = h1 at *
  unfold burnA at H
  have ef : (absR X).fuse = X.fuse := rfl
  have ed : (absR X).dead = X.dead := rfl
  rw [ef] at H
  refine ⟨X.fuse, by rw [A1.P.cell]; rfl, ?_⟩
  by_cases hf : X.fuse > 0
  · rw [if_pos (by simpa using hf)]
    rw [if_pos hf] at H
    refine ⟨X.fuse, by rw [A1.P.cell]; rfl, _, A1.P.wr (show 1 < 4 by omega), rfl, ?_⟩
    have A2 : RAt B c (setH h1 ⟨r, 1, none⟩ (.int .i64 (IntKind.i64.wrap (X.fuse - 1)))) r s { X with ops := IntKind.i64.wrap (X.ops + 1), fuse := IntKind.i64.wrap (X.fuse - 1) } := A1.set rfl rfl
    have F2 : RF r s h1 (setH h1 ⟨r, 1, none⟩ (.int .i64 (IntKind.i64.wrap (X.fuse - 1)))) := RF.set
    generalize setH h1 ⟨r, 1, none⟩ (.int .i64 (IntKind.i64.wrap (X.fuse - 1))) = h2 at *
    refine ⟨IntKind.i64.wrap (X.fuse - 1), by rw [A2.P.cell]; rfl, ?_⟩
    by_cases h0 : IntKind.i64.wrap (X.fuse - 1) = 0
    · rw [if_pos (by simpa using h0)]
      refine ⟨_, A2.P.wr (show 2 < 4 by omega), rfl, ?_⟩
      have A3 : RAt B c (setH h2 ⟨r, 2, none⟩ (.bool true)) r s { X with ops := IntKind.i64.wrap (X.ops + 1), fuse := IntKind.i64.wrap (X.fuse - 1), dead := true } := A2.set rfl rfl
      have := H _ _ A3 (by rw [if_pos h0]; rfl) (F1.trans (F2.trans RF.set))
      rw [show (IntKind.i64.wrap (X.fuse - 1) == 0) = true from by simpa using h0] at this
      exact this
    · rw [if_neg (by simpa using h0)]
      unfold ref09_Disk_burn_j1
      have := H _ _ A2 (by rw [if_neg h0]; rfl) (F1.trans F2)
      rw [show (IntKind.i64.wrap (X.fuse - 1) == 0) = false from by simpa using h0] at this
      exact this
  · rw [if_neg (by simpa using hf)]
    rw [if_neg hf] at H
    unfold ref09_Disk_burn_j1
    exact H _ _ A1 rfl F1
end
end Go.Q.Yb
