/- A part of the proof of statements of this seat: lemmas, no statement of their own. -/
import Derived.Test.YtcmbgfmbmbgbiaaYbRg3
import Derived.Test.YtcmbgfmbmbgbiaaYbRgS
import Derived.Test.YtcmbgfmbmbgbiaaQPure
set_option linter.unusedVariables false
set_option linter.unusedSimpArgs false
namespace Go.Q.Yb
theorem Lent_ok {p0 : Slc} {l : List Int} {k : Slc → Heap → Prop} {h : Heap} (h0 : SlcAt h p0 (b8 l)) (l0 : p0.len = l.length) (hl : l.length ≤ 70368744177664)
    (H : ∀ h', Blk h' h.size (b8 (l ++ List.replicate 8 165)) 5 → Ext h.size h h' → h'.size = h.size + 1 → k ⟨some ⟨h.size, 0, none⟩, l.length, l.length + 8⟩ h') : ref01_Lent p0 k h := by
  unfold ref01_Lent
  have hw : IntKind.i64.wrap ((p0.len : Int) + 8) = (l.length + 8 : Nat) := by rw [wrapI64 (by omega) (by omega)]; omega
  rw [hw]
  refine ⟨_, _, by omega, Int.le_refl _, by omega, by omega, rfl, rfl, ?_⟩
  rw [Int.toNat_natCast]
  have e0 : zrow [.int .u8 0] (l.length + 8) = b8 (List.replicate (l.length + 8) 0) := by
    unfold zrow b8; rw [List.map_replicate, List.flatten_replicate_singleton]
  rw [e0]
  have B0 := Blk.push h (b8 (List.replicate (l.length + 8) 0)) 5
  have X0 := Ext.push h (.cells (b8 (List.replicate (l.length + 8) 0)).toArray 5) (Nat.le_refl _)
  refine ⟨fun i h' => ∃ m : List Int, 0 ≤ i ∧ i ≤ l.length + 8 ∧ m.length = l.length + 8 ∧ m.take i.toNat = (l ++ List.replicate 8 165).take i.toNat ∧ Blk h' h.size (b8 m) 5 ∧ Ext h.size h h' ∧ h'.size = h.size + 1, fun i _ => (l.length + 8 - i).toNat, ⟨_, by omega, by omega, by simp, by simp, B0, X0, by simp⟩, ?_⟩
  rintro i h1 ⟨m, i0, i1, hm, ht, B, X, hs⟩
  unfold ref01_Lent_l1b
  by_cases hi : i < l.length + 8
  · rw [if_pos (by simp; omega)]
    have step : ∀ v : Int, (l ++ List.replicate 8 165)[i.toNat]? = some v → ref01_Lent_j2 p0 ⟨some ⟨h.size, 0, none⟩, l.length + 8, l.length + 8⟩ i k (fun s h' => (∃ m : List Int, 0 ≤ s ∧ s ≤ l.length + 8 ∧ m.length = l.length + 8 ∧ m.take s.toNat = (l ++ List.replicate 8 165).take s.toNat ∧ Blk h' h.size (b8 m) 5 ∧ Ext h.size h h' ∧ h'.size = h.size + 1) ∧ (l.length + 8 - s).toNat < (l.length + 8 - i).toNat) (setH h1 ⟨h.size, i.toNat, none⟩ (.int .u8 v)) := by
      intro v hv
      unfold ref01_Lent_j2
      rw [wrapI64 (by omega) (by omega)]
      refine ⟨_, rfl, ⟨m.set i.toNat v, by omega, by omega, by simpa using hm, ?_, ?_, X.trans (Ext.set _ _ (Nat.le_refl _)), by rw [setH_size]; exact hs⟩, by omega⟩
      · rw [show (i + 1).toNat = i.toNat + 1 from by omega, List.take_succ_eq_append_getElem (by simp; omega), List.take_add_one (l := l ++ List.replicate 8 165), hv]
        simp [List.take_set]
        rw [List.set_eq_of_length_le (by simp; omega)]
        simpa using ht
      · have := B.set (i := i.toNat) (v := .int .u8 v)
        rw [← List.map_set] at this
        exact this
    by_cases hi2 : i < l.length
    · rw [if_pos (by simp [l0]; omega)]
      have n0 : p0.a ≠ none := fun hn => by have := h0.1 hn; simp at this; simp [this] at hi2; omega
      obtain ⟨a, ha⟩ := Option.ne_none_iff_exists'.1 n0
      have hla : i.toNat < l.length := by omega
      refine ⟨a, ha, i0, by omega, l[i.toNat], ?_, _, rfl, i0, by simp only; omega, _, ?_, rfl, ?_⟩
      · rw [Nat.mul_one]; exact X.cellAt (h0.2 a ha i.toNat _ (by simp [hla]))
      · rw [add_mk]; exact B.wr (by simp; omega)
      · rw [add_mk, Nat.zero_add, Nat.mul_one]
        exact step _ (by rw [List.getElem?_append_left hla]; simp [hla])
    · rw [if_neg (by simp [l0]; omega)]
      refine ⟨_, rfl, i0, by simp only; omega, _, ?_, rfl, ?_⟩
      · rw [add_mk]; exact B.wr (by simp; omega)
      · rw [add_mk, Nat.zero_add, Nat.mul_one]
        exact step _ (by rw [List.getElem?_append_right (by omega), List.getElem?_replicate, if_pos (by omega)])
  · rw [if_neg (by simp; omega)]
    have hm2 : m = l ++ List.replicate 8 165 := by
      rw [List.take_of_length_le (by omega), List.take_of_length_le (by simp; omega)] at ht
      exact ht
    subst hm2
    refine ⟨_, by omega, by omega, by simp only; omega, by simp only; omega, rfl, ?_⟩
    have := H h1 B X hs
    have e : ((l.length : Int) + 8).toNat = l.length + 8 := by omega
    simpa [subS, l0, e] using this
theorem Kept_ok {g : Nat} {p1 : Slc} {l m : List Int} {k : Bool → Heap → Prop} {h : Heap} (B : Blk h g (b8 (l ++ List.replicate 8 165)) 5) (h1 : SlcAt h p1 (b8 m)) (l1 : p1.len = m.length) (hl : l.length ≤ 70368744177664) (H : k (decide (l = m)) h) :
    ref01_Kept ⟨some ⟨g, 0, none⟩, l.length, l.length + 8⟩ p1 k h := by
  unfold ref01_Kept
  have cell : ∀ i : Nat, cellH h ((⟨g, 0, none⟩ : Addr).add i) = (b8 (l ++ List.replicate 8 165))[i]? := fun i => by rw [add_mk, Nat.zero_add, B.cell]
  have hs : SlcAt h ⟨some ⟨g, 0, none⟩, l.length, l.length + 8⟩ (b8 l) := SlcAt.of_blk (ys := b8 (List.replicate 8 165)) (by rw [← List.map_append]; exact B)
  refine Same_ok (l := l) (m := m) hs rfl h1 l1 (by omega) ?_
  · by_cases hlm : l = m
    · have hd : decide (l = m) = true := by simpa using hlm
      rw [hd] at H ⊢
      show (if (!true) = true then _ else _)
      rw [if_neg (by simp)]
      have hw : IntKind.i64.wrap ((l.length : Int) + 8) = (l.length + 8 : Nat) := by rw [wrapI64 (by omega) (by omega)]; omega
      simp only [hw]
      refine ⟨_, by omega, by omega, by omega, by omega, rfl, _, rfl, ?_⟩
      have he : subS ⟨some ⟨g, 0, none⟩, l.length, l.length + 8⟩ 1 (0 : Int).toNat ((l.length + 8 : Nat) : Int).toNat ((l.length + 8 : Nat) : Int).toNat = ⟨some ⟨g, 0, none⟩, l.length + 8, l.length + 8⟩ := by simp [subS]; omega
      rw [he]
      refine ⟨fun i h' => (l.length : Int) ≤ i ∧ i ≤ l.length + 8 ∧ h' = h, fun i _ => (l.length + 8 - i).toNat, ⟨by omega, by omega, rfl⟩, ?_⟩
      rintro i h' ⟨i0, i1, rfl⟩
      unfold ref01_Kept_l1b
      by_cases hi : i < l.length + 8
      · rw [if_pos (by simp; omega)]
        refine ⟨_, rfl, by omega, by simp only; omega, 165, ?_, ?_⟩
        · rw [Nat.mul_one, cell, List.getElem?_map, List.getElem?_append_right (by omega), List.getElem?_replicate, if_pos (by omega)]; rfl
        · rw [if_neg (by simp), wrapI64 (by omega) (by omega)]
          exact ⟨_, rfl, ⟨by omega, by omega, rfl⟩, by dsimp only; omega⟩
      · rw [if_neg (by simp; omega)]
        exact H
    · have hd : decide (l = m) = false := by simpa using hlm
      rw [hd] at H ⊢
      show (if (!false) = true then _ else _)
      rw [if_pos (by simp)]
      exact H
end Go.Q.Yb
