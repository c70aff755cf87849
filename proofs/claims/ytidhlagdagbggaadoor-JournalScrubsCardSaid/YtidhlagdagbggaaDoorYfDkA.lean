/- A part of the proof of statements of this seat: lemmas, no statement of their own. -/
import Derived.Test.YtidhlagdagbggaaDoorYfDisk1
import Derived.Test.YtidhlagdagbggaaDoorQFr
import Derived.Test.YtidhlagdagbggaaDoorQLs
set_option linter.unusedVariables false
set_option linter.unusedSimpArgs false
namespace Go.Q.Yf
/-! ### keys and what they have -/
theorem mget_put {K V : Type} [DecidableEq K] (k j : K) (v : V) : ∀ l : List (K × V), mget (mput l k v) j = if j = k then some v else mget l j
  | [] => by
    show mget [(k, v)] j = _
    unfold mget
    by_cases h : j = k
    · rw [if_pos h.symm, if_pos h]
    · rw [if_neg (fun e => h e.symm), if_neg h]; rfl
  | p :: r => by
    have ih := mget_put k j v r
    unfold mput
    by_cases hp : p.1 = k
    · rw [if_pos hp]
      unfold mget
      by_cases h : j = k
      · rw [if_pos h.symm, if_pos h]
      · rw [if_neg (fun e => h e.symm), if_neg h, if_neg (fun e => h (e.symm.trans hp))]
    · rw [if_neg hp]
      unfold mget
      by_cases h : p.1 = j
      · rw [if_pos h, if_pos h, if_neg (fun e => hp (h.trans e))]
      · rw [if_neg h, if_neg h, ih]
theorem mput_le {K V : Type} [DecidableEq K] (k : K) (v : V) : ∀ l : List (K × V), (mput l k v).length ≤ l.length + 1
  | [] => Nat.le_refl _
  | p :: r => by
    have ih := mput_le k v r
    unfold mput
    split
    · simp
    · simp only [List.length_cons]; omega
theorem mput_in {K V : Type} [DecidableEq K] {k : K} {v : V} {q : K × V} : ∀ {l : List (K × V)}, q ∈ mput l k v → q = (k, v) ∨ q ∈ l
  | [], h => .inl (by simpa [mput] using h)
  | p :: r, h => by
    unfold mput at h
    split at h
    · rcases List.mem_cons.1 h with h | h
      · exact .inl h
      · exact .inr (List.mem_cons_of_mem _ h)
    · rcases List.mem_cons.1 h with h | h
      · exact .inr (by rw [h]; simp)
      · rcases mput_in h with h | h
        · exact .inl h
        · exact .inr (List.mem_cons_of_mem _ h)
/-! ### a disk -/
abbrev Sec := S_disk_sector
abbrev zSec : Sec := ⟨[], false⟩
abbrev secB (x : Sec) : List Int := nrm 128 x.f_b
structure DK where
  now : List (Int × Sec)
  safe : List (Int × Sec)
  fuse : Int
  dead : Bool
  ops : Int
abbrev dcs (rn rs : Nat) (X : DK) : List Value := S_disk_Disk.cs ⟨some rn, some rs, X.fuse, X.dead, X.ops⟩
structure DAt (B c : Nat) (h : Heap) (d rn rs : Nat) (X : DK) : Prop where
  P : Blk h d (dcs rn rs X) 44
  N : MapI h (some rn) X.now
  S : MapI h (some rs) X.safe
  ne : rn ≠ rs
  bd : B ≤ d ∧ B ≤ rn ∧ B ≤ rs
  ks : ∀ p ∈ X.safe, 0 ≤ p.1 ∧ p.1 < 1024
  c : X.safe.length ≤ c
/-- whatever but the disk is as it was -/
structure DF (d rn rs : Nat) (h h' : Heap) : Prop where
  size : h.size ≤ h'.size
  block : ∀ g, g < h.size → g ≠ d → g ≠ rn → g ≠ rs → h'[g]? = h[g]?
section
variable {B c : Nat} {h h' h'' : Heap} {d rn rs : Nat} {X : DK}
theorem DF.of_ext (E : Ext h.size h h') : DF d rn rs h h' := ⟨E.size, fun g hg _ _ _ => E.block g hg⟩
theorem DF.trans (p : DF d rn rs h h') (q : DF d rn rs h' h'') : DF d rn rs h h'' :=
  ⟨Nat.le_trans p.size q.size, fun g hg a b c => (q.block g (Nat.lt_of_lt_of_le hg p.size) a b c).trans (p.block g hg a b c)⟩
theorem blk_map {r : Nat} {cs : List Value} {E : Nat} {dd : TypeDesc} {l : List (Value × Value)} (P : Blk h d cs E) (M : MapH dd h r l) : d ≠ r := fun e => by
  subst e
  obtain ⟨_, _, p, _⟩ := P
  obtain ⟨_, _, m, _⟩ := M
  rw [p] at m; cases m
theorem DAt.dn (D : DAt B c h d rn rs X) : d ≠ rn := blk_map D.P D.N
theorem DAt.ds (D : DAt B c h d rn rs X) : d ≠ rs := blk_map D.P D.S
theorem DAt.keep (D : DAt B c h d rn rs X) (hd : h'[d]? = h[d]?) (hn : h'[rn]? = h[rn]?) (hs : h'[rs]? = h[rs]?) : DAt B c h' d rn rs X := ⟨D.P.old hd, D.N.old hn, D.S.old hs, D.ne, D.bd, D.ks, D.c⟩
theorem DAt.ext (D : DAt B c h d rn rs X) (E : Ext h.size h h') : DAt B c h' d rn rs X := D.keep (E.block d D.P.lt) (E.block rn D.N.lt) (E.block rs D.S.lt)
theorem DF.ext (F : DF d rn rs h h') (D : DAt B c h d rn rs X) (hB : B ≤ h.size) : Ext B h h' := ⟨F.size, fun g hg => F.block g (by omega) (by have := D.bd.1; omega) (by have := D.bd.2.1; omega) (by have := D.bd.2.2; omega)⟩
theorem DAt.more (D : DAt B c h d rn rs X) {c' : Nat} (hc : c ≤ c') : DAt B c' h d rn rs X := ⟨D.P, D.N, D.S, D.ne, D.bd, D.ks, Nat.le_trans D.c hc⟩
theorem DAt.fz (D : DAt B c h d rn rs X) {i : Nat} (hi : i < 5) : WrH h ⟨d, i, none⟩ := D.P.wr hi
theorem DF.set {i : Nat} {v : Value} : DF d rn rs h (setH h ⟨d, i, none⟩ v) := ⟨by rw [setH_size]; exact Nat.le_refl _, fun g _ hd _ _ => setH_other hd⟩
theorem DAt.set (D : DAt B c h d rn rs X) {i : Nat} {v : Value} {Y : DK} (hN : Y.now = X.now) (hS : Y.safe = X.safe) (hcs : (dcs rn rs X).set i v = dcs rn rs Y) : DAt B c (setH h ⟨d, i, none⟩ v) d rn rs Y :=
  ⟨by have := D.P.set (i := i) (v := v); rw [hcs] at this; exact this, by rw [hN]; exact D.N.old (setH_other fun e => D.dn e.symm), by rw [hS]; exact D.S.old (setH_other fun e => D.ds e.symm), D.ne, D.bd, by rw [hS]; exact D.ks, by rw [hS]; exact D.c⟩
theorem DAt.putN (D : DAt B c h d rn rs X) (a : Int) (v : Sec) : DAt B c (setM h rn (.int .i64 a) (.agg (S_disk_sector.cs v).toArray)) d rn rs { X with now := mput X.now a v } :=
  ⟨D.P.old (setM_other D.dn), D.N.put (kInt .i64) a v, D.S.old (setM_other fun e => D.ne e.symm), D.ne, D.bd, D.ks, D.c⟩
theorem DF.putN {k v : Value} : DF d rn rs h (setM h rn k v) := ⟨by rw [setM_size]; exact Nat.le_refl _, fun g _ _ hn _ => setM_other hn⟩
theorem DAt.putS (D : DAt B c h d rn rs X) (a : Int) (v : Sec) (ha : 0 ≤ a ∧ a < 1024) : DAt B (c + 1) (setM h rs (.int .i64 a) (.agg (S_disk_sector.cs v).toArray)) d rn rs { X with safe := mput X.safe a v } :=
  ⟨D.P.old (setM_other D.ds), D.N.old (setM_other D.ne), D.S.put (kInt .i64) a v, D.ne, D.bd, fun p hp => by
    rcases mput_in hp with rfl | hp
    · exact ha
    · exact D.ks p hp, Nat.le_trans (mput_le _ _ _) (Nat.succ_le_succ D.c)⟩
theorem DF.putS {k v : Value} : DF d rn rs h (setM h rs k v) := ⟨by rw [setM_size]; exact Nat.le_refl _, fun g _ _ _ hs => setM_other hs⟩
theorem DAt.clr (D : DAt B c h d rn rs X) : DAt B c (clrM h rs) d rn rs { X with safe := [] } :=
  ⟨D.P.old (clrM_other D.ds), D.N.old (clrM_other D.ne), D.S.clr, D.ne, D.bd, fun p hp => by simp at hp, Nat.zero_le _⟩
theorem DF.clr : DF d rn rs h (clrM h rs) := ⟨by rw [clrM_size]; exact Nat.le_refl _, fun g _ _ _ hs => clrM_other hs⟩
theorem DAt.cell (D : DAt B c h d rn rs X) (i : Nat) : cellH h ((⟨d, 0, none⟩ : Addr).add i) = (dcs rn rs X)[i]? := by rw [add_mk, Nat.zero_add, D.P.cell]
theorem DAt.cell0 (D : DAt B c h d rn rs X) : cellH h (⟨d, 0, none⟩ : Addr) = some (.map (some rn)) := by rw [D.P.cell]; rfl
end
theorem add0 (d i : Nat) : (⟨d, 0, none⟩ : Addr).add i = ⟨d, i, none⟩ := by rw [add_mk, Nat.zero_add]
/-! ### what is done to it, plainly -/
def burnD (X : DK) : Bool × DK :=
  if X.fuse = 0 then (false, { X with ops := IntKind.i64.wrap (X.ops + 1) })
  else (IntKind.i64.wrap (X.fuse - 1) == 0, { X with ops := IntKind.i64.wrap (X.ops + 1), fuse := IntKind.i64.wrap (X.fuse - 1), dead := (IntKind.i64.wrap (X.fuse - 1) == 0) })
def padB (bs : List Int) : List Int := bs ++ List.replicate (128 - bs.length) 0
def laidD (X : DK) (a : Int) (bs : List Int) : DK :=
  { X with now := mput X.now a ⟨padB bs, false⟩, safe := if (mget X.safe a).isSome = true then X.safe else mput X.safe a ((mget X.now a).getD zSec) }
def endD (b : Bool) : Int := if b = true then 10 else 0
def writeD (X : DK) (a : Int) (bs : List Int) : Int × DK :=
  if X.dead = true then (10, X) else if a < 0 ∨ a ≥ 1024 then (1, X) else if bs.length > 128 then (3, X) else (endD (burnD (laidD X a bs)).1, (burnD (laidD X a bs)).2)
def syncD (X : DK) : Int × DK :=
  if X.dead = true then (10, X) else if (burnD X).1 = true then (10, (burnD X).2) else (0, { (burnD X).2 with safe := [] })
def readD (X : DK) (a : Int) : List Int × Int := if a < 0 ∨ a ≥ 1024 then ([], 1) else if ((mget X.now a).getD zSec).f_torn = true then ([], 9) else (secB ((mget X.now a).getD zSec), 0)
def fuseD (X : DK) (n : Int) : Int × DK := if X.dead = true then (10, X) else (0, { X with fuse := if 0 > n then 0 else n })
section
variable {B c : Nat} {h : Heap} {d rn rs : Nat} {X : DK}
theorem DNew_ok {k : Option Addr → Heap → Prop} (hB : B ≤ h.size) (H : ∀ d rn rs h', DAt B 0 h' d rn rs ⟨[], [], 0, false, 0⟩ → Ext h.size h h' → k (some ⟨d, 0, none⟩) h') : disk_New k h := by
  unfold disk_New
  refine ⟨_, _, rfl, rfl, _, _, rfl, rfl, _, _, rfl, rfl, ?_⟩
  have M1 : MapI (h.push (.map #[] 0)) (some h.size) [] := MapAt.mk0
  have M2 : MapI ((h.push (.map #[] 0)).push (.map #[] 0)) (some (h.push (.map #[] 0)).size) [] := MapAt.mk0
  have X1 := Ext.push h (.map #[] 0) (Nat.le_refl _)
  have X2 := Ext.push (h.push (.map #[] 0)) (.map #[] 0) (Nat.le_refl _)
  have z1 : (h.push (.map #[] 0)).size = h.size + 1 := by simp
  generalize h.push (.map #[] 0) = h1 at *
  have z2 : (h1.push (.map #[] 0)).size = h1.size + 1 := by simp
  generalize h1.push (.map #[] 0) = h2 at *
  have X3 := Ext.push h2 (.cells (S_disk_Disk.cs ⟨some h.size, some h1.size, 0, false, 0⟩).toArray 44) (Nat.le_refl _)
  refine H h2.size h.size h1.size _ ⟨Blk.push _ _ _, (M1.ext X2 M1.lt).ext X3 (by omega), M2.ext X3 M2.lt, by omega, ⟨by omega, hB, by omega⟩, fun p hp => by simp at hp, Nat.le_refl _⟩ (X1.trans ((X2.trans (X3.mono (by omega))).mono (by omega)))
theorem DPower_ok {k : Bool → Heap → Prop} (D : DAt B c h d rn rs X) (H : k (!X.dead) h) : disk_Disk_power (some ⟨d, 0, none⟩) k h := by
  unfold disk_Disk_power
  rw [if_pos (by rfl)]
  refine ⟨_, rfl, X.dead, by rw [D.cell]; rfl, ?_⟩
  unfold disk_Disk_power_g1
  exact H
theorem DPower_nil {k : Bool → Heap → Prop} (H : k false h) : disk_Disk_power none k h := by
  unfold disk_Disk_power
  rw [if_neg (by simp)]
  exact H
theorem DBurn_ok {k : Bool → Heap → Prop} (D : DAt B c h d rn rs X) (H : ∀ h', DAt B c h' d rn rs (burnD X).2 → DF d rn rs h h' → k (burnD X).1 h') : disk_Disk_burn (some ⟨d, 0, none⟩) k h := by
  unfold disk_Disk_burn
  refine ⟨_, rfl, X.ops, by rw [D.cell]; rfl, _, by rw [add0]; exact D.fz (by omega), rfl, ?_⟩
  rw [add0, add0, add0]
  have D1 : DAt B c (setH h ⟨d, 4, none⟩ (.int .i64 (IntKind.i64.wrap (X.ops + 1)))) d rn rs { X with ops := IntKind.i64.wrap (X.ops + 1) } := D.set rfl rfl rfl
  have F1 : DF d rn rs h (setH h ⟨d, 4, none⟩ (.int .i64 (IntKind.i64.wrap (X.ops + 1)))) := DF.set
  generalize setH h ⟨d, 4, none⟩ (.int .i64 (IntKind.i64.wrap (X.ops + 1))) = h1 at *
  unfold burnD at H
  refine ⟨X.fuse, by rw [D1.P.cell]; rfl, ?_⟩
  by_cases hf : X.fuse = 0
  · rw [if_pos (by simp [hf])]
    rw [if_pos hf] at H
    exact H h1 D1 F1
  · rw [if_neg (by simpa using hf)]
    rw [if_neg hf] at H
    refine ⟨X.fuse, by rw [D1.P.cell]; rfl, _, D1.fz (by omega), rfl, ?_⟩
    have D2 : DAt B c (setH h1 ⟨d, 2, none⟩ (.int .i64 (IntKind.i64.wrap (X.fuse - 1)))) d rn rs { X with ops := IntKind.i64.wrap (X.ops + 1), fuse := IntKind.i64.wrap (X.fuse - 1) } := D1.set rfl rfl rfl
    have F2 : DF d rn rs h1 (setH h1 ⟨d, 2, none⟩ (.int .i64 (IntKind.i64.wrap (X.fuse - 1)))) := DF.set
    generalize setH h1 ⟨d, 2, none⟩ (.int .i64 (IntKind.i64.wrap (X.fuse - 1))) = h2 at *
    refine ⟨IntKind.i64.wrap (X.fuse - 1), by rw [D2.P.cell]; rfl, _, D2.fz (by omega), rfl, ?_⟩
    have D3 : DAt B c (setH h2 ⟨d, 3, none⟩ (.bool (IntKind.i64.wrap (X.fuse - 1) == 0))) d rn rs { X with ops := IntKind.i64.wrap (X.ops + 1), fuse := IntKind.i64.wrap (X.fuse - 1), dead := (IntKind.i64.wrap (X.fuse - 1) == 0) } := D2.set rfl rfl rfl
    have F3 : DF d rn rs h2 (setH h2 ⟨d, 3, none⟩ (.bool (IntKind.i64.wrap (X.fuse - 1) == 0))) := DF.set
    refine ⟨(IntKind.i64.wrap (X.fuse - 1) == 0), by rw [D3.P.cell]; rfl, ?_⟩
    exact H _ D3 (F1.trans (F2.trans F3))
theorem DEnded_ok {b : Bool} {k : Int → Heap → Prop} (H : k (endD b) h) : disk_ended b k h := by
  unfold disk_ended
  unfold endD at H
  cases b <;> exact H
theorem sec_cs (x : Sec) : S_disk_sector.cs x = b8 (secB x) ++ [.bool x.f_torn] := by
  show arr 128 .u8 x.f_b ++ _ = _
  rw [arr_nrm]
theorem sec_len (x : Sec) : (S_disk_sector.cs x).length = 129 := by
  rw [sec_cs, List.length_append, List.length_map, nrm_len]; rfl
theorem pad_len {bs : List Int} (h : bs.length ≤ 128) : (padB bs).length = 128 := by
  unfold padB; rw [List.length_append, List.length_replicate]; omega
theorem nrm_nil : nrm 128 [] = List.replicate 128 (0 : Int) := by decide
theorem sec_laid {bs : List Int} (hl : bs.length ≤ 128) : b8 bs ++ (S_disk_sector.cs zSec).drop bs.length = S_disk_sector.cs ⟨padB bs, false⟩ := by
  rw [sec_cs, sec_cs]
  have e1 : secB ⟨padB bs, false⟩ = padB bs := nrm_id (pad_len hl)
  have e2 : secB zSec = List.replicate 128 0 := nrm_nil
  rw [e1, e2]
  unfold padB
  rw [List.drop_append_of_le_length (by simp; omega)]
  simp only [List.map_append, List.map_replicate, List.drop_replicate, List.append_assoc]
theorem DWrite_j1_ok {a : Int} {s : Slc} {bs : List Int} {k : Int → Heap → Prop} (D : DAt B c h d rn rs X) (hs : SlcAt h s (b8 bs)) (sl : s.len = bs.length) (hl : bs.length ≤ 128)
    (H : ∀ h', DAt B c h' d rn rs (burnD { X with now := mput X.now a ⟨padB bs, false⟩ }).2 → DF d rn rs h h' → k (endD (burnD { X with now := mput X.now a ⟨padB bs, false⟩ }).1) h') : disk_Disk_Write_j1 (some ⟨d, 0, none⟩) a s k h := by
  unfold disk_Disk_Write_j1
  refine ⟨_, _, rfl, rfl, ?_⟩
  have P := Blk.push h (S_disk_sector.cs zSec) 67
  have W := Ext.push h (.cells (S_disk_sector.cs zSec).toArray 67) (Nat.le_refl _)
  generalize h.push (.cells (S_disk_sector.cs zSec).toArray 67) = h2 at *
  have z2 := W.size
  have hs2 := hs.ext W
  refine ⟨_, by omega, by omega, by omega, rfl, b8 bs, ?_⟩
  have e : subS ⟨some (⟨h.size, 0, none⟩ : Addr), 128, 128⟩ 1 (0 : Int).toNat (128 : Int).toNat 128 = ⟨some ⟨h.size, 0, none⟩, 128, 128⟩ := by
    unfold subS; simp [Addr.add]
  rw [e]
  refine ⟨⟨b8 bs, hs2, by rw [List.length_map]; omega, by rw [List.take_of_length_le (by rw [List.length_map]; simp only; omega)]⟩, b8_one bs, fun hn => (by cases hn), fun a ha => by cases ha; exact WrsAt.of_blk P (by rw [sec_len, List.length_map]; omega), ?_⟩
  dsimp only
  have P3 : Blk (setsH h2 ⟨h.size, 0, none⟩ 0 (b8 bs)) h.size (S_disk_sector.cs ⟨padB bs, false⟩) 67 := by
    have := P.sets (b8 bs) 0 0 (by rw [sec_len, List.length_map]; omega)
    rw [← sec_laid hl]
    simpa using this
  have W3 : Ext h.size h2 (setsH h2 ⟨h.size, 0, none⟩ 0 (b8 bs)) := Ext.sets _ _ _ (Nat.le_refl _)
  generalize setsH h2 ⟨h.size, 0, none⟩ 0 (b8 bs) = h3 at *
  have X3 : Ext h.size h h3 := W.trans W3
  have D3 := D.ext X3
  refine ⟨_, rfl, some rn, D3.cell0, ⟨padB bs, false⟩, CellsAt.of_blk P3, rn, X.now, _, rfl, D3.N, rfl, ?_⟩
  have D4 := D3.putN a ⟨padB bs, false⟩
  refine DBurn_ok D4 fun h5 D5 F5 => DEnded_ok (H h5 D5 ((DF.of_ext X3).trans (DF.putN.trans F5)))
theorem DWrite_ok {a : Int} {s : Slc} {bs : List Int} {k : Int → Heap → Prop} (D : DAt B c h d rn rs X) (hs : SlcAt h s (b8 bs)) (sl : s.len = bs.length)
    (H : ∀ h', DAt B (c + 1) h' d rn rs (writeD X a bs).2 → DF d rn rs h h' → k (writeD X a bs).1 h') : disk_Disk_Write (some ⟨d, 0, none⟩) a s k h := by
  have R : DF d rn rs h h := DF.of_ext (Ext.refl _ _)
  have D' := D.more (Nat.le_succ c)
  unfold disk_Disk_Write
  refine DPower_ok D ?_
  unfold writeD at H
  cases hd : X.dead with
  | true =>
    rw [hd, if_pos rfl] at H
    rw [if_pos (by simp)]
    exact H h D' R
  | false =>
  rw [hd, if_neg (by simp)] at H
  rw [if_neg (by simp)]
  by_cases ha : a < 0 ∨ a ≥ 1024
  · rw [if_pos ha] at H
    rw [if_pos (by simpa using ha)]
    exact H h D' R
  rw [if_neg ha] at H
  rw [if_neg (by simpa using ha)]
  by_cases hl : bs.length > 128
  · rw [if_pos hl] at H
    rw [if_pos (by rw [decide_eq_true_eq]; omega)]
    exact H h D' R
  rw [if_neg hl] at H
  rw [if_neg (by rw [decide_eq_true_eq]; omega)]
  refine ⟨_, rfl, some rs, by rw [D.cell]; rfl, X.safe, D.S, _, _, rfl, rfl, ?_⟩
  have P := Blk.push h (S_disk_sector.cs zSec) 67
  have W := Ext.push h (.cells (S_disk_sector.cs zSec).toArray 67) (Nat.le_refl _)
  have W2 := W.trans (Ext.sets (h.push (.cells (S_disk_sector.cs zSec).toArray 67)) (a := ⟨h.size, 0, none⟩) 0 (S_disk_sector.cs ((mget X.safe a).getD zSec)) (Nat.le_refl _))
  refine ⟨_, WrsAt.of_blk P (by rw [sec_len]; omega), rfl, ?_⟩
  generalize setsH (h.push (.cells (S_disk_sector.cs zSec).toArray 67)) ⟨h.size, 0, none⟩ 0 (S_disk_sector.cs ((mget X.safe a).getD zSec)) = h3 at *
  have D3 := D.ext W2
  have hs3 := hs.ext W2
  unfold laidD at H
  cases hm : (mget X.safe a).isSome with
  | true =>
    rw [if_neg (by simp)]
    simp only [hm, if_true] at H
    exact DWrite_j1_ok D3 hs3 sl (by omega) fun h5 D5 F5 => H h5 (D5.more (Nat.le_succ c)) ((DF.of_ext W2).trans F5)
  | false =>
    rw [if_pos (by simp)]
    simp only [hm, Bool.false_eq_true, if_false] at H
    refine ⟨some rs, by rw [D3.cell]; rfl, some rn, D3.cell0, X.now, D3.N, rs, X.safe, _, rfl, D3.S, rfl, ?_⟩
    have D4 := D3.putS a ((mget X.now a).getD zSec) (by omega)
    have hs4 : SlcAt (setM h3 rs (.int .i64 a) (.agg (S_disk_sector.cs ((mget X.now a).getD zSec)).toArray)) s (b8 bs) := ⟨hs3.1, fun b hb j w hj => by
      have := hs3.2 b hb j w hj
      rw [← this]
      refine cellH_of (setM_other fun e => ?_)
      unfold cellH at this
      obtain ⟨_, _, m, _⟩ := D3.S
      rw [e, m] at this; cases this⟩
    exact DWrite_j1_ok D4 hs4 sl (by omega) fun h5 D5 F5 => H h5 D5 ((DF.of_ext W2).trans (DF.putS.trans F5))
theorem DWrite_nil {a : Int} {s : Slc} {k : Int → Heap → Prop} (H : k 10 h) : disk_Disk_Write none a s k h := by
  unfold disk_Disk_Write
  refine DPower_nil ?_
  rw [if_pos (by simp)]; exact H
theorem DSync_ok {k : Int → Heap → Prop} (D : DAt B c h d rn rs X) (H : ∀ h', DAt B c h' d rn rs (syncD X).2 → DF d rn rs h h' → k (syncD X).1 h') : disk_Disk_Sync (some ⟨d, 0, none⟩) k h := by
  unfold disk_Disk_Sync
  refine DPower_ok D ?_
  unfold syncD at H
  cases hd : X.dead with
  | true =>
    rw [hd, if_pos rfl] at H
    rw [if_pos (by simp)]
    exact H h D (DF.of_ext (Ext.refl _ _))
  | false =>
    rw [hd, if_neg (by simp)] at H
    rw [if_neg (by simp)]
    refine DBurn_ok D fun h2 D2 F2 => ?_
    cases hb : (burnD X).1 with
    | true =>
      rw [hb, if_pos rfl] at H
      rw [if_neg (by simp)]
      unfold disk_Disk_Sync_j1
      exact DEnded_ok (H h2 D2 F2)
    | false =>
      rw [hb, if_neg (by simp)] at H
      rw [if_pos (by simp)]
      refine ⟨_, rfl, some rs, by rw [D2.cell]; rfl, rs, _, _, rfl, D2.S, rfl, ?_⟩
      unfold disk_Disk_Sync_j1
      exact DEnded_ok (H _ D2.clr (F2.trans DF.clr))
theorem DSync_nil {k : Int → Heap → Prop} (H : k 10 h) : disk_Disk_Sync none k h := by
  unfold disk_Disk_Sync
  refine DPower_nil ?_
  rw [if_pos (by simp)]; exact H
theorem DRead_ok {a : Int} {k : Slc × Int → Heap → Prop} (D : DAt B c h d rn rs X) (H : ∀ s h', SlcAt h' s (b8 (readD X a).1) → s.len = (readD X a).1.length → s.len = s.cap → (∀ b, s.a = some b → h.size ≤ b.block) → Ext h.size h h' → k (s, (readD X a).2) h') : disk_Disk_Read (some ⟨d, 0, none⟩) a k h := by
  have nil : ∀ h' : Heap, SlcAt h' ⟨none, 0, 0⟩ (b8 []) := fun h' => ⟨fun _ => rfl, fun a ha => by cases ha⟩
  unfold disk_Disk_Read
  unfold readD at H
  by_cases ha : a < 0 ∨ a ≥ 1024
  · rw [if_pos ha] at H
    rw [if_pos (by simpa using ha)]
    exact H _ h (nil h) rfl rfl (fun b hb => by cases hb) (Ext.refl _ _)
  rw [if_neg ha] at H
  rw [if_neg (by simpa using ha)]
  refine ⟨_, rfl, some rn, D.cell0, X.now, D.N, _, _, rfl, rfl, ?_⟩
  have P := Blk.push h (S_disk_sector.cs zSec) 67
  have W := Ext.push h (.cells (S_disk_sector.cs zSec).toArray 67) (Nat.le_refl _)
  have P2 := P.sets_all (vs := S_disk_sector.cs ((mget X.now a).getD zSec)) (by rw [sec_len, sec_len])
  have W2 := W.trans (Ext.sets (h.push (.cells (S_disk_sector.cs zSec).toArray 67)) (a := ⟨h.size, 0, none⟩) 0 (S_disk_sector.cs ((mget X.now a).getD zSec)) (Nat.le_refl _))
  refine ⟨_, WrsAt.of_blk P (by rw [sec_len]; omega), rfl, ?_⟩
  generalize setsH (h.push (.cells (S_disk_sector.cs zSec).toArray 67)) ⟨h.size, 0, none⟩ 0 (S_disk_sector.cs ((mget X.now a).getD zSec)) = h3 at *
  generalize (mget X.now a).getD zSec = x at *
  refine ⟨x.f_torn, by
    rw [add0, P2.cell, sec_cs, List.getElem?_append_right (by rw [List.length_map, nrm_len]; exact Nat.le_refl _), List.length_map, nrm_len]; rfl, ?_⟩
  cases ht : x.f_torn with
  | true =>
    rw [ht, if_pos rfl] at H
    rw [if_pos rfl]
    exact H _ h3 (nil h3) rfl rfl (fun b hb => by cases hb) W2
  | false =>
    rw [ht, if_neg (by simp)] at H
    rw [if_neg (by simp)]
    refine ⟨_, by omega, by omega, by omega, rfl, ?_⟩
    have e : subS ⟨some (⟨h.size, 0, none⟩ : Addr), 128, 128⟩ 1 (0 : Int).toNat (128 : Int).toNat 128 = ⟨some ⟨h.size, 0, none⟩, 128, 128⟩ := by
      unfold subS; simp [Addr.add]
    rw [e]
    refine H _ h3 (P2.slc (n := 128) (o := 0) ?_) (by show 128 = _; rw [nrm_len]) rfl (fun b hb => by cases hb; exact Nat.le_refl _) W2
    rw [List.drop_zero, sec_cs, List.take_append_of_le_length (by rw [List.length_map, nrm_len]; exact Nat.le_refl _), List.take_of_length_le (by rw [List.length_map, nrm_len]; exact Nat.le_refl _)]
theorem DRead_nil {a : Int} {k : Slc × Int → Heap → Prop} (H : k (⟨none, 0, 0⟩, 1) h) : disk_Disk_Read none a k h := by
  unfold disk_Disk_Read
  rw [if_pos (by simp)]; exact H
theorem DFuse_ok {n : Int} {k : Int → Heap → Prop} (D : DAt B c h d rn rs X) (H : ∀ h', DAt B c h' d rn rs (fuseD X n).2 → DF d rn rs h h' → k (fuseD X n).1 h') : disk_Disk_Fuse (some ⟨d, 0, none⟩) n k h := by
  unfold disk_Disk_Fuse
  refine DPower_ok D ?_
  unfold fuseD at H
  cases hd : X.dead with
  | true =>
    rw [hd, if_pos rfl] at H
    rw [if_pos (by simp)]
    exact H h D (DF.of_ext (Ext.refl _ _))
  | false =>
    rw [hd, if_neg (by simp)] at H
    rw [if_neg (by simp)]
    refine ⟨_, rfl, _, by rw [add0]; exact D.fz (by omega), rfl, ?_⟩
    rw [add0]
    exact H _ (D.set rfl rfl (by show [_, _, _, Value.bool X.dead, _] = _; rw [hd]; rfl)) DF.set
theorem DFuse_nil {n : Int} {k : Int → Heap → Prop} (H : k 10 h) : disk_Disk_Fuse none n k h := by
  unfold disk_Disk_Fuse
  refine DPower_nil ?_
  rw [if_pos (by simp)]; exact H
theorem DDead_ok {k : Bool → Heap → Prop} (D : DAt B c h d rn rs X) (H : k X.dead h) : disk_Disk_Dead (some ⟨d, 0, none⟩) k h := by
  unfold disk_Disk_Dead
  rw [if_pos (by rfl)]
  refine ⟨_, rfl, X.dead, by rw [D.cell]; rfl, ?_⟩
  unfold disk_Disk_Dead_g1
  exact H
theorem DDead_nil {k : Bool → Heap → Prop} (H : k false h) : disk_Disk_Dead none k h := by
  unfold disk_Disk_Dead
  rw [if_neg (by simp)]
  exact H
end
end Go.Q.Yf
