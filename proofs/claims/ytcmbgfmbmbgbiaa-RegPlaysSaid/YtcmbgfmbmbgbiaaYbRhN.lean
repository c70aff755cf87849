/- A part of the proof of statements of this seat: lemmas, no statement of their own. -/
import Derived.Test.YtcmbgfmbmbgbiaaYbRhKx
import Derived.Test.YtcmbgfmbmbgbiaaYbRhE
set_option linter.unusedVariables false
set_option linter.unusedSimpArgs false
namespace Go.Q.Yb
theorem IsReg.wf {l : List Int} {A : AG} (I : IsReg l A) : tenL A = A ∧ l = regF A ∧ (∀ p ∈ A, Wf p) ∧ ∀ p ∈ A, p.1.size ≤ 24 :=
  ⟨tenL_sorted I.2.1, I.2.2.2, fun p hp => (I.2.2.1 p hp).wf, fun p hp => by
    have h := (I.2.2.1 p hp).1
    unfold nameOk at h
    rw [Bool.and_eq_true, Bool.and_eq_true, decide_eq_true_eq, decide_eq_true_eq] at h
    omega⟩
theorem absL_mem {L : List (ByteArray × TZ)} {p : ByteArray × TZ} (h : p ∈ L) : (p.1, absT p.2) ∈ absL L := List.mem_map.2 ⟨p, h, rfl⟩
theorem RReads_ok {p0 : Slc} {l : List Int} {k : Bool → Heap → Prop} {h : Heap} (S : SlcAt h p0 (b8 l)) (hl : p0.len = l.length) (hB : isB l)
    (H : ∀ h', Ext h.size h h' → k true h') : law25_RegReads p0 k h := by
  unfold law25_RegReads
  by_cases hg : (p0.len : Int) > 1000
  · rw [if_pos (by simpa using hg)]
    exact awake25_ok H
  rw [if_neg (by simpa using hg)]
  refine Lent_ok S hl (by omega) fun h4 B4 X4 z4 => ?_
  have z4' := X4.size
  have S4 : SlcAt h4 ⟨some ⟨h.size, 0, none⟩, l.length, l.length + 8⟩ (b8 l) := SlcAt.of_blk (ys := b8 (List.replicate 8 165)) (by rw [← List.map_append]; exact B4)
  have keep : ∀ {k' : Bool → Heap → Prop} {h6 : Heap}, Ext h4.size h4 h6 → k' true h6 → ref01_Kept ⟨some ⟨h.size, 0, none⟩, l.length, l.length + 8⟩ p0 k' h6 := fun {k' h6} X6 H6 => by
    refine Kept_ok (B4.ext X6 B4.lt) (S.ext (X4.trans (X6.mono z4'))) hl (by omega) ?_
    rw [show decide (l = l) = true from by simp]; exact H6
  refine From_ok S4 rfl (by show l.length ≤ l.length + 8; omega) hB (by omega) (fun rr m L h6 R6 I X6 => ?_) fun h6 X6 _ => ?_
  · have X06 := X4.trans (X6.mono z4')
    obtain ⟨i1, i2, i3, i4⟩ := I.wf
    refine keep X6 ?_
    rw [if_neg (by simp), if_neg (by simp)]
    have nm : ∀ p ∈ L, p.1.size ≤ 100000 := fun p hp => Nat.le_trans (i4 _ (absL_mem hp)) (by omega)
    refine Bytes_ok R6 nm (by rw [i1]; exact i3) fun s h8 R8 X8 => ?_
    rw [i1, ← i2] at R8
    have X08 := X06.trans (X8.mono X06.size)
    refine Same_ok R8.slc R8.pb (S.ext X08) hl (by omega) ?_
    rw [show decide (l = l) = true from by simp, if_pos rfl]
    refine Tenants_ok (R6.ext X8) nm fun st h9 T9 X9 => ?_
    have sl := T9.len
    rw [i1] at sl
    have := I.1
    have X09 := X08.trans (X9.mono X08.size)
    unfold law25_RegReads_g2
    rw [if_pos (by rw [decide_eq_true_eq]; omega)]
    refine awake25_ok fun h10 X10 => ?_
    unfold law25_RegReads_g3
    exact H h10 (X09.trans (X10.mono X09.size))
  · have X06 := X4.trans (X6.mono z4')
    refine keep X6 ?_
    rw [if_neg (by simp), if_pos (by decide), if_pos (by decide)]
    refine awake25_ok fun h7 X7 => ?_
    unfold law25_RegReads_g1
    exact H h7 (X06.trans (X7.mono X06.size))
theorem RReads_all {p0 : Slc} {l : List Int} {k : Bool → Heap → Prop} {h : Heap} (S : SlcAt h p0 (l.map (Value.int .u8))) (hl : p0.len = l.length) (hB : ∀ n ∈ l, (Lit.int .u8 n).wf = true)
    (H : ∀ h', Ext h.size h h' → k true h') : law25_RegReads p0 k h := RReads_ok S hl (wf_isB hB) H
end Go.Q.Yb
