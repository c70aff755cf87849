/- A part of the proof of statements of this seat: lemmas, no statement of their own. -/
import Derived.Test.YtidhlagdagbggaaDoorYfDkA
set_option linter.unusedVariables false
set_option linter.unusedSimpArgs false
namespace Go.Q.Yf
/-! ### the power comes back -/
def fateD (fs : List Int) (j : Nat) : Int := if fs.length > 0 then Int.tmod (fs.getD (j % fs.length) 0) 3 else 0
def bootOne (fs : List Int) (safe : List (Int × Sec)) (j : Nat) (a : Int) (now : List (Int × Sec)) : List (Int × Sec) :=
  if fateD fs j = 0 then mput now a ((mget safe a).getD zSec) else if fateD fs j = 2 then mput now a ⟨[], true⟩ else now
def bootGo (fs : List Int) (safe : List (Int × Sec)) (ks : List Int) : Nat → List (Int × Sec) → List (Int × Sec)
  | 0, m => m
  | n + 1, m => bootOne fs safe n (ks.getD n 0) (bootGo fs safe ks n m)
def keysD (X : DK) : List Int := srtI (X.safe.map (·.1))
def bootD (X : DK) (fs : List Int) : DK := { now := bootGo fs X.safe (keysD X) X.safe.length X.now, safe := [], fuse := 0, dead := false, ops := X.ops }
section
variable {B c : Nat} {h h' : Heap} {d rn rs : Nat} {X : DK}
theorem map_cell {r : Nat} {dd : TypeDesc} {l : List (Value × Value)} (M : MapH dd h r l) {a : Addr} {v : Value} (hc : cellH h a = some v) : a.block ≠ r := fun e => by
  obtain ⟨_, _, m, _⟩ := M
  unfold cellH at hc
  rw [e, m] at hc; cases hc
theorem SlcAt.df {s : Slc} {vs : List Value} (hs : SlcAt h s vs) (D : DAt B c h d rn rs X) (F : DF d rn rs h h') (hd : ∀ a, s.a = some a → a.block ≠ d) : SlcAt h' s vs := ⟨hs.1, fun a ha j w hj => by
  have cc := hs.2 a ha j w hj
  have lt := cellH_lt cc
  have n1 := map_cell D.N cc
  have n2 := map_cell D.S cc
  rw [cellH_of (F.block _ lt (by rw [add_block]; exact hd a ha) n1 n2)]; exact cc⟩
theorem wf_key {a : Int} (h : 0 ≤ a ∧ a < 1024) : (Lit.int .i64 a).wf = true := by
  simp [Lit.wf, IntKind.min, IntKind.max, IntKind.signed, IntKind.bits]; omega
theorem keysD_len : (keysD X).length = X.safe.length := by unfold keysD srtI; rw [List.length_mergeSort, List.length_map]
theorem tmod_nat (j n : Nat) : Int.tmod (j : Int) (n : Int) = ((j % n : Nat) : Int) := by rw [Int.tmod_eq_emod_of_nonneg (by omega)]; rfl
theorem DBoot_ok {s : Slc} {fs : List Int} {k : Unit → Heap → Prop} (D : DAt B c h d rn rs X) (hs : SlcAt h s (b8 fs)) (sl : s.len = fs.length) (hd : ∀ h', DF d rn rs h h' → SlcAt h' s (b8 fs)) (hc : c ≤ 1000000)
    (H : ∀ h', DAt B c h' d rn rs (bootD X fs) → DF d rn rs h h' → k () h') : disk_Disk_Boot (some ⟨d, 0, none⟩) s k h := by
  unfold disk_Disk_Boot
  rw [if_neg (by simp)]
  refine ⟨_, rfl, some rs, by rw [D.cell]; rfl, ?_⟩
  unfold maps_Keys_map_int_disk_sector_int_disk_sector
  have W := Ext.push h (.cells #[.map (some rs)] 42) (Nat.le_refl _)
  have Q := Blk.push h [.map (some rs)] 42
  have Q' : Blk (h.push (.cells #[.map (some rs)] 42)) h.size [.map (some rs)] 42 := Q
  generalize h.push (.cells #[.map (some rs)] 42) = h2 at *
  have z2 := W.size
  have D2 := D.ext W
  refine ⟨h.size, rs, X.safe, rfl, by rw [Q'.cell]; rfl, D2.S, fun p hp => wf_key (D.ks p hp), by have := D.c; omega, fun sk h6 R6 skl X6 => ?_⟩
  have z6 := X6.size
  have X06 : Ext h.size h h6 := W.trans (X6.mono z2)
  have D6 := D.ext X06
  have hs6 := hs.ext X06
  have kl : (keysD X).length = X.safe.length := keysD_len
  have D6' : DAt B c h6 d rn rs { X with now := bootGo fs X.safe (keysD X) 0 X.now } := D6
  refine ⟨fun i h' => 0 ≤ i ∧ i ≤ X.safe.length ∧ DAt B c h' d rn rs { X with now := bootGo fs X.safe (keysD X) i.toNat X.now } ∧ DF d rn rs h6 h', fun i _ => (X.safe.length - i).toNat, ⟨by omega, by omega, D6', DF.of_ext (Ext.refl _ _)⟩, ?_⟩
  rintro i h7 ⟨i0, i1, D7, F7⟩
  have z7 := F7.size
  have R7 : Row h2.size h7 3 1 sk ((keysD X).map (Value.int .i64)) := Row.keep R6 fun g hg => F7.block g (R6.bd hg).2 (by have := (R6.bd hg).1; have := D2.P.lt; omega) (by have := (R6.bd hg).1; have := D2.N.lt; omega) (by have := (R6.bd hg).1; have := D2.S.lt; omega)
  have hs7 := hd h7 ((DF.of_ext X06).trans F7)
  unfold disk_Disk_Boot_l1b
  by_cases hi : i < X.safe.length
  · rw [if_pos (by rw [decide_eq_true_eq]; omega)]
    have hx : (keysD X)[i.toNat]? = some ((keysD X).getD i.toNat 0) := by
      rw [List.getD_eq_getElem?_getD]
      have : i.toNat < (keysD X).length := by omega
      rw [List.getElem?_eq_getElem this]; rfl
    generalize hk : (keysD X).getD i.toNat 0 = a at *
    obtain ⟨ad, ha, hcell⟩ := R7.at (j := i.toNat) (by omega)
    rw [List.getElem?_map, hx] at hcell
    refine ⟨ad, ha, i0, by omega, a, by rw [Nat.mul_one]; exact hcell, ?_⟩
    have j2 : ∀ {h'}, DAt B c h' d rn rs { X with now := bootGo fs X.safe (keysD X) (i.toNat + 1) X.now } → DF d rn rs h7 h' → disk_Disk_Boot_j2 (some ⟨d, 0, none⟩) s sk (sk.len : Int) i k (fun q h' => (0 ≤ q ∧ q ≤ (X.safe.length : Int) ∧ DAt B c h' d rn rs { X with now := bootGo fs X.safe (keysD X) q.toNat X.now } ∧ DF d rn rs h6 h') ∧ ((X.safe.length : Int) - q).toNat < ((X.safe.length : Int) - i).toNat) h' := fun D' F' => by
      have := D.c
      unfold disk_Disk_Boot_j2
      rw [wrapI64 (by omega) (by omega)]
      exact ⟨⟨by omega, by omega, by rw [show (i + 1).toNat = i.toNat + 1 from by omega]; exact D', F7.trans F'⟩, by omega⟩
    have j3 : ∀ f : Int, f = fateD fs i.toNat → disk_Disk_Boot_j3 (some ⟨d, 0, none⟩) s a sk (sk.len : Int) i f k (fun q h' => (0 ≤ q ∧ q ≤ (X.safe.length : Int) ∧ DAt B c h' d rn rs { X with now := bootGo fs X.safe (keysD X) q.toNat X.now } ∧ DF d rn rs h6 h') ∧ ((X.safe.length : Int) - q).toNat < ((X.safe.length : Int) - i).toNat) h7 := fun f hf => by
      have go : bootGo fs X.safe (keysD X) (i.toNat + 1) X.now = bootOne fs X.safe i.toNat a (bootGo fs X.safe (keysD X) i.toNat X.now) := by
        show bootOne fs X.safe i.toNat ((keysD X).getD i.toNat 0) _ = _
        rw [hk]
      unfold bootOne at go
      unfold disk_Disk_Boot_j3
      by_cases f0 : f = 0
      · rw [if_pos (by simp [f0])]
        rw [if_pos (hf ▸ f0)] at go
        refine ⟨_, rfl, some rn, D7.cell0, some rs, by rw [D7.cell]; rfl, X.safe, D7.S, rn, _, _, rfl, D7.N, rfl, ?_⟩
        have D8 := D7.putN a ((mget X.safe a).getD zSec)
        refine j2 ?_ DF.putN
        rw [go]; exact D8
      · rw [if_neg (by simpa using f0)]
        rw [if_neg (fun e => f0 (hf.trans e))] at go
        by_cases f2 : f = 2
        · rw [if_pos (by simp [f2])]
          rw [if_pos (hf ▸ f2)] at go
          refine ⟨_, rfl, some rn, D7.cell0, rn, _, _, rfl, D7.N, rfl, ?_⟩
          have D8 := D7.putN a ⟨[], true⟩
          refine j2 ?_ DF.putN
          rw [go]; exact D8
        · rw [if_neg (by simpa using f2)]
          rw [if_neg (fun e => f2 (hf.trans e))] at go
          refine j2 ?_ (DF.of_ext (Ext.refl _ _))
          rw [go]; exact D7
    by_cases hf : fs.length > 0
    · rw [if_pos (by rw [decide_eq_true_eq]; omega)]
      have ei : Int.tmod i (s.len : Int) = ((i.toNat % fs.length : Nat) : Int) := by
        rw [sl, ← tmod_nat, Int.toNat_of_nonneg i0]
      have lt : i.toNat % fs.length < fs.length := Nat.mod_lt _ hf
      obtain ⟨b, hb⟩ : ∃ b, s.a = some b := by
        cases hb : s.a with
        | some b => exact ⟨b, rfl⟩
        | none => have := hs.1 hb; simp at this; rw [this] at hf; simp at hf
      have hv : fs[i.toNat % fs.length]? = some (fs.getD (i.toNat % fs.length) 0) := by
        rw [List.getD_eq_getElem?_getD, List.getElem?_eq_getElem lt]; rfl
      refine ⟨by omega, b, hb, by rw [ei]; omega, by rw [ei]; omega, fs.getD (i.toNat % fs.length) 0, ?_, _, rfl, j3 _ ?_⟩
      · rw [ei, Nat.mul_one, show (((i.toNat % fs.length : Nat) : Int)).toNat = i.toNat % fs.length from rfl]
        exact hs7.2 b hb _ _ (by rw [List.getElem?_map, hv]; rfl)
      · unfold fateD; rw [if_pos hf]
    · rw [if_neg (by rw [decide_eq_true_eq]; omega)]
      exact j3 0 (by unfold fateD; rw [if_neg hf])
  · rw [if_neg (by rw [decide_eq_true_eq]; omega)]
    have hn : i.toNat = X.safe.length := by omega
    rw [hn] at D7
    refine ⟨_, rfl, some rs, by rw [D7.cell]; rfl, rs, _, _, rfl, D7.S, rfl, ?_⟩
    have D8 := D7.clr
    have F8 : DF d rn rs h7 (clrM h7 rs) := DF.clr
    generalize clrM h7 rs = h8 at *
    refine ⟨_, by rw [add0]; exact D8.fz (by omega), rfl, ?_⟩
    rw [add0, add0]
    have D9 : DAt B c (setH h8 ⟨d, 2, none⟩ (.int .i64 0)) d rn rs { X with now := bootGo fs X.safe (keysD X) X.safe.length X.now, safe := [], fuse := 0 } := D8.set rfl rfl rfl
    have F9 : DF d rn rs h8 (setH h8 ⟨d, 2, none⟩ (.int .i64 0)) := DF.set
    generalize setH h8 ⟨d, 2, none⟩ (.int .i64 0) = h9 at *
    refine ⟨_, D9.fz (by omega), rfl, ?_⟩
    exact H _ (D9.set rfl rfl rfl) ((DF.of_ext X06).trans (F7.trans (F8.trans (F9.trans DF.set))))
theorem DBoot_nil {s : Slc} {k : Unit → Heap → Prop} (H : k () h) : disk_Disk_Boot none s k h := by
  unfold disk_Disk_Boot
  rw [if_pos (by simp)]; exact H
end
end Go.Q.Yf
