/- A part of the proof of statements of this seat: lemmas, no statement of their own. -/
import Derived.Test.YtgldbcbnficihaaYaLease3Law
set_option linter.unusedVariables false
set_option linter.unusedSimpArgs false
namespace Go.Q.Ya
theorem boxed {h : Heap} {l : List Int} (hl : l.length = 12) : WrsAt (h.push (.cells ((List.replicate 12 (0 : Int)).map (Value.int .u8)).toArray 40)) ⟨h.size, 0, none⟩ 12 ∧
    Ext h.size h (setsH (h.push (.cells ((List.replicate 12 (0 : Int)).map (Value.int .u8)).toArray 40)) ⟨h.size, 0, none⟩ 0 (l.map (Value.int .u8))) :=
  ⟨WrsAt.of_blk (Blk.push _ _ _) (by simp), (Ext.push _ _ (Nat.le_refl _)).trans (Ext.sets _ _ _ (Nat.le_refl _))⟩
theorem LeaseEnds_ok {p0 p1 p2 : Int} {h : Heap} (n0 : 0 ≤ p0) (n1 : p0 < 65536) (c0 : 0 ≤ p1) (c1 : p1 < 256) (d0 : 0 ≤ p2) :
    law12_LeaseEnds p0 p1 p2 (fun r h' => r = true ∧ Ext h.size h h') h := by
  unfold law12_LeaseEnds
  have hm : Int.tmod p1 10 = p1 % 10 := Int.tmod_eq_emod_of_nonneg c0
  rw [hm, wrapU64 (x := p1 % 10) (by omega) (by omega), wrapU64 (by omega) (by omega)]
  refine New_ok fun h1 L1 s1 x1 => ?_
  have hmn : mn (4611686018427387904 - p1 % 10) = 4611686018427387904 - p1 % 10 := by unfold mn; rw [if_neg (by omega)]
  rw [hmn] at L1
  refine Grant_ok L1 (by omega) (by omega) fun h2 L2 s2 x2 => ?_
  have X2 : Ext h.size h h2 := x1.trans x2
  have B2 : h.size ≤ h2.size := by omega
  generalize hb : h.size = b at *
  refine ⟨fun i h' => 0 ≤ i ∧ i ≤ p1 % 10 ∧ Lz h' b p0 (4611686018427387904 - p1 % 10 + i) 4611686018427387904 ∧ Ext b h h' ∧ b ≤ h'.size, fun i _ => (p1 % 10 - i).toNat, ⟨by omega, by omega, by simpa using L2, X2, B2⟩, ?_⟩
  rintro i h3 ⟨i0, i1, L, X, B⟩
  unfold law12_LeaseEnds_l1b
  rw [hm, wrapI64 (by omega) (by omega)]
  by_cases hi : i < p1 % 10
  · rw [if_pos (by simpa using hi)]
    refine lease_Nonce_ok L n0 n1 (by omega) (by omega) (fun hlt h4 L4 u4 => ?_) (fun q => by omega) (fun q => by omega)
    obtain ⟨w5, x5⟩ := boxed (h := h4) (nonceL_length p0 (4611686018427387904 - p1 % 10 + i))
    refine ⟨_, _, rfl, rfl, _, nonceL_length _ _, w5, rfl, ?_⟩
    rw [if_neg (by simp)]
    have sz := u4.size
    refine ⟨_, rfl, ?_⟩
    rw [wrapI64 (by omega) (by omega)]
    refine ⟨⟨by omega, by omega, ?_, X.trans ((u4.ext (Nat.le_refl _) B).trans (x5.mono (by omega))), by dsimp only; have := x5.size; omega⟩, ?_⟩
    · have := Blk.ext L4 x5 L4.lt
      rw [show 4611686018427387904 - p1 % 10 + i + 1 = 4611686018427387904 - p1 % 10 + (i + 1) from by omega] at this
      exact this
    · show (p1 % 10 - (i + 1)).toNat < (p1 % 10 - i).toNat
      omega
  · rw [if_neg (by simpa using hi)]
    refine lease_Nonce_ok L n0 n1 (by omega) (by omega) (fun hlt => by omega) (fun q r h4 x4 => ?_) (fun q r => absurd rfl r)
    obtain ⟨w5, x5⟩ := boxed (h := h4) (l := List.replicate 12 0) rfl
    refine ⟨_, _, rfl, rfl, _, rfl, w5, rfl, ?_⟩
    have L5 := Blk.ext (Blk.ext L x4 L.lt) x5 (by have := x4.size; have := Blk.lt L; omega)
    have sz4 := x4.size; have sz5 := x5.size
    generalize setsH (h4.push (.cells ((List.replicate 12 (0 : Int)).map (Value.int .u8)).toArray 40)) ⟨h4.size, 0, none⟩ 0 ((List.replicate 12 (0 : Int)).map (Value.int .u8)) = h5 at *
    refine Wants_ok L5 (by omega) (by omega) (by omega) ?_
    rw [if_pos (by omega)]
    refine New_ok fun h6 L6 s6 x6 => ?_
    unfold lease_Lease_Take
    rw [if_pos (by simp)]
    refine lease_nil fun h7 x7 => ?_
    obtain ⟨w8, x8⟩ := boxed (h := h7) (l := List.replicate 12 0) rfl
    refine ⟨_, _, rfl, rfl, _, rfl, w8, rfl, ?_⟩
    have sz7 := x7.size; have sz8 := x8.size
    have L8 := Blk.ext (Blk.ext L6 x7 L6.lt) x8 (by have := Blk.lt L6; omega)
    generalize setsH (h7.push (.cells ((List.replicate 12 (0 : Int)).map (Value.int .u8)).toArray 40)) ⟨h7.size, 0, none⟩ 0 ((List.replicate 12 (0 : Int)).map (Value.int .u8)) = h8 at *
    unfold lease_Lease_Wants
    rw [if_pos (by simp)]
    show (if _ then _ else _)
    rw [if_pos (by simp)]
    have mb : 0 ≤ mn p2 ∧ mn p2 ≤ 4611686018427387904 := by unfold mn; split <;> omega
    refine Left_ok L8 mb.1 (by omega) mb.2 ?_
    rw [show ((mn p2 - mn p2 == 0) = true) from by simp]
    unfold law12_LeaseEnds_g2
    rw [if_pos rfl]
    unfold lease_Lease_Left
    rw [if_pos (by simp)]
    unfold law12_LeaseEnds_g3
    show (if _ then _ else _)
    rw [if_pos (by simp)]
    unfold lease_Lease_Grant
    rw [if_pos (by simp)]
    unfold law12_LeaseEnds_g4
    show (if _ then _ else _)
    rw [if_pos (by simp)]
    have X8 : Ext b h h8 := X.trans ((x4.mono B).trans ((x5.mono (by omega)).trans ((x6.mono (by omega)).trans ((x7.mono (by omega)).trans (x8.mono (by omega))))))
    refine awake12 fun h' x => ⟨rfl, X8.trans (x.mono (by omega))⟩
end Go.Q.Ya
