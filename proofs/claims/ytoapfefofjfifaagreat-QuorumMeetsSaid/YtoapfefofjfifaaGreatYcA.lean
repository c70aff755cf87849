/- A part of the proof of statements of this seat: lemmas, no statement of their own. -/
import Derived.Test.YtoapfefofjfifaaGreatYc0
import Derived.Test.YtoapfefofjfifaaGreatQLs
set_option linter.unusedVariables false
set_option linter.unusedSimpArgs false
/- Quorum: rows of numbers, their copies, who stands in them. -/
namespace Go.Q.Yc
abbrev ints (l : List Int) : List Value := l.map (Value.int .i64)
theorem ints_one (l : List Int) : ∀ v ∈ ints l, v.oneCell' = true := fun v hv => by obtain ⟨a, _, rfl⟩ := List.mem_map.1 hv; rfl
theorem slc_get {h : Heap} {s : Slc} {vs : List Value} (S : SlcAt h s vs) {i : Nat} {v : Value} (hv : vs[i]? = some v) : ∃ a, s.a = some a ∧ cellH h (a.add i) = some v := by
  cases ha : s.a with
  | none => have := S.1 ha; subst this; simp at hv
  | some a => exact ⟨a, rfl, S.2 a ha i v hv⟩
/-- a row of numbers, in memory -/
def Ints (h : Heap) (s : Slc) (l : List Int) : Prop := SlcAt h s (ints l) ∧ s.len = l.length ∧ s.len ≤ s.cap
theorem Ints.ext {h h' : Heap} {s : Slc} {l : List Int} (A : Ints h s l) (X : Ext h.size h h') : Ints h' s l := ⟨A.1.ext X, A.2⟩
theorem Ints.nil (h : Heap) : Ints h ⟨none, 0, 0⟩ [] := ⟨⟨fun _ => rfl, fun a ha => by cases ha⟩, rfl, Nat.le_refl _⟩
theorem Ints.row {B : Nat} {h : Heap} {s : Slc} {l : List Int} (R : Row B h 3 1 s (ints l)) : Ints h s l := ⟨R.slc, by have := R.len; simpa using this, R.cap⟩
theorem Clone_ok {p0 : Slc} {l : List Int} {k : Slc → Heap → Prop} {h : Heap} (A : Ints h p0 l) (hsz : l.length ≤ 1000000)
    (H : ∀ s' h', Row h.size h' 3 1 s' (ints l) → Ext h.size h h' → k s' h') : slices_Clone_int_int p0 k h := by
  obtain ⟨hs, hl, _⟩ := A
  unfold slices_Clone_int_int
  cases ha : p0.a with
  | none =>
    rw [if_pos (by simp)]
    have hn : l = [] := by have := hs.1 ha; simpa using this
    subst hn
    exact H _ _ (Row.nil _ _ _ _) (Ext.refl _ _)
  | some a =>
    rw [if_neg (by simp)]
    have hp : ∀ o : Obj, Ext h.size h (h.push o) := fun o => Ext.push h o (Nat.le_refl _)
    refine ⟨_, _, rfl, rfl, ints l, hs.ext (hp _), ?_⟩
    have R : Row h.size (h.push (.cells ([] : List Value).toArray 3)) 3 1 ⟨some ⟨h.size, 0, none⟩, 0, 0⟩ [] :=
      ⟨by simp, by simp [maxLen], .inr ⟨h.size, [], rfl, Nat.le_refl _, Blk.push _ _ _, Nat.le_refl _, by simp, by simp⟩⟩
    refine App.row R (by simp) rfl (by simp [hl]) (ints_one l) (by simp only; omega) (by simp only [maxLen]; omega) fun s' h' R' _ hsz' ho _ => ?_
    refine H s' h' (by simpa using R') ⟨by simp at hsz'; omega, fun i hi => ?_⟩
    rw [ho i (by simp; omega) (by simp [Slc.blk]; omega), (hp _).block i hi]
theorem Index_ok {p0 : Slc} {l : List Int} {x : Int} {k : Int → Heap → Prop} {h : Heap} (A : Ints h p0 l) (m : l.length ≤ 1000000) (H : ∀ r : Int, (decide (r ≥ 0)) = decide (x ∈ l) → k r h) : slices_Index_int_int p0 x k h := by
  obtain ⟨S, n, _⟩ := A
  unfold slices_Index_int_int slices_Index_int_int_l1
  refine ⟨fun i h' => h' = h ∧ 0 ≤ i ∧ i ≤ l.length ∧ x ∉ l.take i.toNat, fun i _ => (l.length - i.toNat), ⟨rfl, by omega, by omega, by simp⟩, ?_⟩
  rintro i h' ⟨rfl, i0, i1, nx⟩
  unfold slices_Index_int_int_l1b
  by_cases c : i < l.length
  · rw [if_pos (by rw [decide_eq_true_eq]; omega)]
    have hi : i.toNat < l.length := by omega
    obtain ⟨a, ha, hc⟩ := slc_get S (i := i.toNat) (v := .int .i64 l[i.toNat]) (by simp [hi])
    refine ⟨a, ha, i0, by omega, l[i.toNat], by rw [Nat.mul_one]; exact hc, ?_⟩
    by_cases e : x = l[i.toNat]
    · rw [if_pos (by simpa using e)]
      exact H i (by rw [decide_eq_true (show i ≥ 0 from i0), decide_eq_true]; rw [e]; exact List.getElem_mem _)
    · rw [if_neg (by simpa using e), wrapI64 (by omega) (by omega)]
      refine ⟨⟨rfl, by omega, by omega, ?_⟩, by dsimp only; omega⟩
      rw [show (i + 1).toNat = i.toNat + 1 from by omega, List.take_add_one, List.getElem?_eq_getElem hi]
      simp only [Option.toList_some, List.mem_append, List.mem_singleton]
      rintro (h1 | h1)
      · exact nx h1
      · exact e h1
  · rw [if_neg (by rw [decide_eq_true_eq]; omega)]
    have e : i.toNat = l.length := by omega
    rw [e, List.take_length] at nx
    exact ⟨_, rfl, H _ (by rw [decide_eq_false nx]; rfl)⟩
theorem Has_ok {p0 : Slc} {l : List Int} {x : Int} {k : Bool → Heap → Prop} {h : Heap} (A : Ints h p0 l) (m : l.length ≤ 1000000) (H : k (decide (x ∈ l)) h) : slices_Contains_int_int p0 x k h := by
  unfold slices_Contains_int_int
  exact Index_ok A m fun r hr => by rw [hr]; exact H
theorem Twice_ok {p0 : Slc} {l : List Int} {k : Bool → Heap → Prop} {h : Heap} (A : Ints h p0 l) (m : l.length ≤ 1000000) (H : k (decide ¬ l.Nodup) h) : quorum_twice p0 k h := by
  obtain ⟨S, n, nc⟩ := A
  unfold quorum_twice quorum_twice_l1
  refine ⟨fun i h' => h' = h ∧ 0 ≤ i ∧ i ≤ l.length ∧ (l.take i.toNat).Nodup, fun i _ => (l.length - i.toNat), ⟨rfl, by omega, by omega, by simp⟩, ?_⟩
  rintro i h' ⟨rfl, i0, i1, nx⟩
  unfold quorum_twice_l1b
  by_cases c : i < l.length
  · rw [if_pos (by rw [decide_eq_true_eq]; omega)]
    have hi : i.toNat < l.length := by omega
    obtain ⟨a, ha, hc⟩ := slc_get S (i := i.toNat) (v := .int .i64 l[i.toNat]) (by simp [hi])
    refine ⟨a, ha, i0, by omega, l[i.toNat], by rw [Nat.mul_one]; exact hc, _, by omega, i0, by omega, by omega, rfl, ?_⟩
    have S3 : Ints h' (subS p0 1 (0 : Int).toNat i.toNat ((p0.cap : Int)).toNat) (l.take i.toNat) := by
      refine ⟨⟨fun hn => ?_, fun b hb j v hj => ?_⟩, ?_, ?_⟩
      · unfold subS at hn
        have : p0.a = none := by
          simp only at hn
          split at hn
          · exact hn
          · rw [ha] at hn; cases hn
        rw [ha] at this; cases this
      · have eb : b = a := by
          unfold subS at hb
          simp only at hb
          split at hb
          · rw [ha] at hb; exact (Option.some.inj hb).symm
          · rw [ha] at hb; simp only [Option.map_some, Int.toNat_zero, Nat.zero_mul, Option.some.injEq] at hb; rw [← hb]; rfl
        rw [eb]
        refine S.2 a ha j v ?_
        simp only [ints, List.map_take, List.getElem?_take] at hj
        split at hj
        · exact hj
        · cases hj
      · show i.toNat - (0 : Int).toNat = (l.take i.toNat).length
        rw [List.length_take]; simp only [Int.toNat_zero]; omega
      · show i.toNat - (0 : Int).toNat ≤ ((p0.cap : Int)).toNat - (0 : Int).toNat
        simp only [Int.toNat_zero, Int.toNat_natCast]; omega
    refine Has_ok S3 (by rw [List.length_take]; omega) ?_
    by_cases e : l[i.toNat] ∈ l.take i.toNat
    · rw [decide_eq_true e, if_pos rfl]
      rw [show (decide ¬ l.Nodup) = true from decide_eq_true fun nd => ?_] at H
      · exact H
      · have h1 := List.nodup_iff_pairwise_ne.1 nd
        obtain ⟨j, hj, ej⟩ := List.mem_iff_getElem.1 e
        rw [List.length_take] at hj
        rw [List.getElem_take] at ej
        have h2 := (List.pairwise_iff_getElem.1 h1) j i.toNat (by omega) hi (by omega)
        exact h2 ej
    · rw [decide_eq_false e, if_neg (by simp), wrapI64 (by omega) (by omega)]
      refine ⟨⟨rfl, by omega, by omega, ?_⟩, by dsimp only; omega⟩
      rw [show (i + 1).toNat = i.toNat + 1 from by omega, List.take_add_one, List.getElem?_eq_getElem hi, Option.toList_some, List.nodup_append]
      exact ⟨nx, by simp, fun x hx y hy => by rw [List.mem_singleton] at hy; rw [hy]; exact fun e2 => e (e2 ▸ hx)⟩
  · rw [if_neg (by rw [decide_eq_true_eq]; omega)]
    have e : i.toNat = l.length := by omega
    rw [e, List.take_length] at nx
    rw [show (decide ¬ l.Nodup) = false from decide_eq_false fun h => h nx] at H
    exact H
/-- how many nodes an op needs -/
def needs (kind n : Int) : Int := if kind = 1 then (if n < 2 then n else 2) else if kind = 2 then (if n - 1 > 1 then n - 1 else 1) else if kind = 3 then 1 else 0
theorem Needs_ok {x : S_api_Op} {k : Int → Heap → Prop} {h : Heap} (m : x.f_Nodes.len ≤ maxLen) (H : ∀ h', Ext h.size h h' → k (needs x.f_Kind x.f_Nodes.len) h') : quorum_Needs x k h := by
  unfold quorum_Needs
  refine ⟨_, _, rfl, rfl, x.f_Kind, ?_⟩
  have P := Blk.push h (S_api_Op.cs x) 40
  have H' := H _ (Ext.push h (.cells (S_api_Op.cs x).toArray 40) (Nat.le_refl _))
  unfold needs at H'
  simp only [maxLen] at m
  refine ⟨by rw [add_mk, P.cell]; rfl, ?_⟩
  have c27 : cellH (h.push (.cells (S_api_Op.cs x).toArray 40)) ((⟨h.size, 0, none⟩ : Addr).add 27) = some (Slc.v x.f_Nodes) := by rw [add_mk, P.cell]; rfl
  by_cases k1 : x.f_Kind = 1
  · rw [if_pos (by simpa using k1)]; rw [if_pos k1] at H'
    exact ⟨_, c27, _, rfl, H'⟩
  rw [if_neg (by simpa using k1)]; rw [if_neg k1] at H'
  by_cases k2 : x.f_Kind = 2
  · rw [if_pos (by simpa using k2)]; rw [if_pos k2] at H'
    refine ⟨_, c27, _, rfl, ?_⟩
    rw [wrapI64 (by omega) (by omega)]
    exact H'
  rw [if_neg (by simpa using k2)]; rw [if_neg k2] at H'
  by_cases k3 : x.f_Kind = 3
  · rw [if_pos (by simpa using k3)]; rw [if_pos k3] at H'; exact H'
  rw [if_neg (by simpa using k3)]; rw [if_neg k3] at H'; exact H'
/-- is it told that there is more than is looked at: it reads alone -/
theorem Great_ok {p0 : Slc} {ys : List S_api_Piece} {n : Int} {k : Bool → Heap → Prop} {h : Heap} (L : LsAt S_api_Piece.cs 5 h p0 ys) (n1 : n ≤ 1000) (H : ∀ r, k r h) : ref13_Great p0 n k h := by
  have l := L.l
  unfold ref13_Great ref13_Great_l1
  refine ⟨fun i h' => h' = h ∧ 0 ≤ i ∧ i ≤ 1000, fun i _ => (1000 - i).toNat, ⟨rfl, by omega, by omega⟩, ?_⟩
  rintro i h' ⟨rfl, i0, i1⟩
  unfold ref13_Great_l1b
  by_cases c : i < p0.len ∧ i < n
  · rw [if_pos (by simpa using c)]
    have hi : i.toNat < ys.length := by omega
    obtain ⟨a, ha, hc⟩ := L.at' i.toNat ys[i.toNat] (by simp [hi])
    have c0 := hc 0 _ rfl
    rw [show (a.add (i.toNat * 5)).add 0 = a.add (i.toNat * 5) from rfl] at c0
    refine ⟨a, ha, i0, c.1, _, c0, ?_⟩
    by_cases e : (ys[i.toNat].f_Series.size : Int) > 400
    · rw [if_pos (by simpa using e)]; exact H _
    · rw [if_neg (by simpa using e)]
      refine ⟨_, rfl, ?_⟩
      rw [wrapI64 (by omega) (by omega)]
      exact ⟨⟨rfl, by omega, by omega⟩, by dsimp only; omega⟩
  · rw [if_neg (by simpa using c)]
    exact H _
end Go.Q.Yc
