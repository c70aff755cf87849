/- A part of the proof of statements of this seat: lemmas, no statement of their own. -/
import Derived.Test.YtgldbcbnficihaaYaMatch3
set_option linter.unusedVariables false
set_option linter.unusedSimpArgs false
namespace Go.Q.Ya
theorem l3_ok {B0 B b9 : Nat} {bs : Nat → Nat} {sl : Nat → Slc} {es : Nat → List Ent} {p1 rs : Slc} {picks : List Int} {ss : List Slc} {rows : List (List Ent)} {nx1 : (Slc × Slc × Int) → Heap → Prop} {k : Bool → Heap → Prop} {h0 hA h : Heap}
    (A : ArgI .u16 h0.size h0 p1 picks) (hp : picks.length ≤ 40) (X0 : Ext h0.size h0 hA) (R : RI B0 hA rs ss rows) (hr : rows.length ≤ 6) (XA : Ext B hA h) (hBA : B = hA.size) (L : LS rows B h b9 bs sl es) (hB : B ≤ h.size)
    (H : ∀ h', Ext B hA h' → k true h') : law23_RlogMatches_l3 p1 rs ⟨some ⟨b9, 0, none⟩, 3, 3⟩ 0 k nx1 h := by
  have rk : ∀ q ∈ rows, esOk q ∧ q.length ≤ 18 := fun q hq => ⟨(R.k q hq).1, by have := (R.k q hq).2; omega⟩
  refine ⟨fun i h' => 0 ≤ i ∧ i ≤ picks.length ∧ (∃ sl es, LS rows B h' b9 bs sl es) ∧ Ext B hA h', fun i _ => (picks.length - i).toNat, ⟨by omega, by omega, ⟨sl, es, L⟩, XA⟩, ?_⟩
  rintro i h1 ⟨i0, i1, ⟨sl, es, L1⟩, X1⟩
  have z1 : B ≤ h1.size := by have := X1.size; omega
  have R1 : RI B0 h1 rs ss rows := R.ext (by rw [← hBA]; exact X1)
  have A1 : ArgI .u16 h0.size h1 p1 picks := (A.ext X0).ext (X1.mono (by have := X0.size; omega))
  have lrs := R1.r.len
  rw [List.length_map, R.l] at lrs
  unfold law23_RlogMatches_l3b
  by_cases hc : i < picks.length ∧ 0 < rows.length
  · rw [if_pos (by simp [A.1, lrs]; omega)]
    obtain ⟨a, ha, hv⟩ := A1.get (i := i.toNat) (by omega)
    have hpv : 0 ≤ picks.getD i.toNat 0 ∧ picks.getD i.toNat 0 < 65536 := by
      have hi : i.toNat < picks.length := by omega
      have : picks.getD i.toNat 0 = picks[i.toNat] := by simp [List.getD, hi]
      rw [this]
      exact wf_u16 (A.2.1 _ (List.getElem_mem hi))
    generalize picks.getD i.toNat 0 = p at hv hpv
    obtain ⟨p0, p1'⟩ := hpv
    refine ⟨a, ha, i0, by rw [A.1]; exact hc.1, p, by rw [Nat.mul_one]; exact hv, _, rfl, by omega, ?_⟩
    rw [wrapI64 (x := p) (by omega) (by omega)]
    simp only [Int.tdiv_eq_ediv_of_nonneg p0, lrs]
    rw [wrapI64 (x := p / 16) (by omega) (by omega), wrapI64 (x := p / 3) (by omega) (by omega)]
    simp only [Int.tmod_eq_emod_of_nonneg (show 0 ≤ p / 16 by omega), Int.tmod_eq_emod_of_nonneg (show 0 ≤ p / 3 by omega)]
    have m0 := Int.emod_nonneg (p / 16) (show (rows.length : Int) ≠ 0 by omega)
    have m1 := Int.emod_lt_of_pos (p / 16) (show 0 < (rows.length : Int) by omega)
    obtain ⟨x, hx⟩ : ∃ x : Nat, (x : Int) = p / 16 % (rows.length : Int) := ⟨(p / 16 % (rows.length : Int)).toNat, by omega⟩
    rw [← hx, Int.toNat_natCast]
    rw [← hx] at m0 m1
    obtain ⟨b, hb, hs⟩ := R1.r.at (j := x) (by omega)
    have sx : ss[x]? = some (ss[x]'(by rw [R.l]; omega)) := by simp
    have rx : rows[x]? = some (rows[x]'(by omega)) := by simp
    obtain ⟨vs, O⟩ := R1.e x _ _ sx rx
    have mr : rows[x]'(by omega) ∈ rows := List.getElem_mem _
    have Gr := R.g _ mr
    have kr := rk _ mr
    generalize ss[x]'(by rw [R.l]; omega) = s at sx O
    generalize rows[x]'(by omega) = r at rx O mr Gr kr
    refine ⟨b, hb, by omega, by omega, s, ?_, ?_⟩
    · rw [Nat.mul_one, hs, List.getElem?_map, sx]; rfl
    have ls := O.len
    have cs := O.r.cap
    rw [ls, wrapI64 (x := (r.length : Int) + 1) (by omega) (by omega)]
    have f0 := Int.emod_nonneg (p / 3) (show (r.length : Int) + 1 ≠ 0 by omega)
    have f1 := Int.emod_lt_of_pos (p / 3) (show 0 < (r.length : Int) + 1 by omega)
    obtain ⟨f, hf⟩ : ∃ f : Nat, (f : Int) = p / 3 % ((r.length : Int) + 1) := ⟨(p / 3 % ((r.length : Int) + 1)).toNat, by omega⟩
    refine ⟨by omega, _, rfl, ?_⟩
    rw [← hf] at f0 f1 ⊢
    have go : ∀ t, (f = 0 ∨ ∃ e, r[f - 1]? = some e ∧ t = e.1) → law23_RlogMatches_j4 p1 rs ⟨some ⟨b9, 0, none⟩, 3, 3⟩ i p s f t k nx1 (fun s h' => (0 ≤ s ∧ s ≤ picks.length ∧ (∃ sl es, LS rows B h' b9 bs sl es) ∧ Ext B hA h') ∧ (picks.length - s).toNat < (picks.length - i).toNat) h1 := fun t ht => by
      unfold law23_RlogMatches_j4
      simp only [Int.tmod_eq_emod_of_nonneg p0]
      rw [wrapI64 (x := (f : Int) + 1) (by omega) (by omega), wrapI64 (x := (f : Int) + 1 + p % 3) (by omega) (by omega), wrapU64 (x := (f : Int)) (by omega) (by omega), wrapI64 (x := i + 1) (by omega) (by omega), ls]
      obtain ⟨u, hu⟩ : ∃ u : Nat, (u : Int) = (if (r.length : Int) < (f : Int) + 1 + p % 3 then (r.length : Int) else (f : Int) + 1 + p % 3) := ⟨(if (r.length : Int) < (f : Int) + 1 + p % 3 then (r.length : Int) else (f : Int) + 1 + p % 3).toNat, by split <;> omega⟩
      have u1 : u ≤ r.length := by split at hu <;> omega
      have u2 : f ≤ u := by split at hu <;> omega
      obtain ⟨j, hj⟩ : ∃ j : Nat, (j : Int) = p % 3 := ⟨(p % 3).toNat, by omega⟩
      refine ⟨u, hu, ?_⟩
      have hmx : (if (u : Int) > (f : Int) then (u : Int) else (f : Int)) = u := by split <;> omega
      rw [hmx, ← hj]
      refine ⟨_, rfl, by omega, (by (try dsimp only); omega), _, by rw [Int.toNat_natCast]; exact L1.ptr (by omega), _, by omega, by omega, by omega, by omega, rfl, ?_⟩
      rw [Int.toNat_natCast, Int.toNat_natCast, Int.toNat_natCast]
      refine L1.app z1 rk (by omega) (p := f) (m := u - f) Gr kr.2 kr.1 (by omega) ht (fun h' X => ?_) fun h' sl' es' r' L' X => ?_
      · have XA' : Ext hA.size hA h' := by rw [← hBA]; exact X1.trans X
        obtain ⟨vs', O'⟩ := (R.ext XA').e x _ _ sx rx
        exact O'.ents.sub u2 u1 (by omega)
      · exact ⟨_, rfl, ⟨by omega, by omega, ⟨sl', es', L'⟩, X1.trans X⟩, by omega⟩
    by_cases h0 : (f : Int) > 0
    · rw [if_pos (by simpa using h0)]
      have hfl : f - 1 < r.length := by omega
      have he : r[f - 1]? = some r[f - 1] := by simp [hfl]
      obtain ⟨c, v, c1, c2, _⟩ := O.ents.get he
      rw [wrapI64 (x := (f : Int) - 1) (by omega) (by omega)]
      refine ⟨c, c1, by omega, by omega, _, by rw [show ((f : Int) - 1).toNat = f - 1 from by omega]; exact c2, ?_⟩
      exact go _ (.inr ⟨_, he, rfl⟩)
    · rw [if_neg (by simpa using h0)]
      exact go 0 (.inl (by omega))
  · rw [if_neg (by simp only [A.1, lrs, Bool.and_eq_true, decide_eq_true_eq]; omega)]
    exact l5_ok L1 z1 rk fun h' X => H h' (X1.trans X)
theorem RlogMatches_ok {p0 p1 : Slc} {cuts picks : List Int} {k : Bool → Heap → Prop} {h0 : Heap} (A : ArgI .u8 h0.size h0 p0 cuts) (C : ArgI .u16 h0.size h0 p1 picks) (H : ∀ h', Ext h0.size h0 h' → k true h') : law23_RlogMatches p0 p1 k h0 := by
  unfold law23_RlogMatches
  by_cases hc : cuts.length > 6 ∨ picks.length > 40
  · rw [if_pos (by simp [A.1, C.1]; omega)]
    exact awake23_ok H
  · rw [if_neg (by simp [A.1, C.1]; omega)]
    refine rowl1_ok A (by omega) fun rs row hA ss rows R hr X nx => ?_
    unfold law23_RlogMatches_l1b
    rw [if_neg (by simp [A.1])]
    have E0 : ∀ h, EntsAt h ⟨none, 0, 0⟩ [] := fun h => ⟨rfl, fun _ => rfl, fun a ha => by cases ha⟩
    have ok0 : esOk ([] : List Ent) := fun e he => by cases he
    refine New_ok (E0 _) ok0 (by simp) fun b1 h1 s1 v1 L1 X1 => ?_
    refine New_ok (E0 _) ok0 (by simp) fun b2 h2 s2 v2 L2 X2 => ?_
    refine New_ok (E0 _) ok0 (by simp) fun b3 h3 s3 v3 L3 X3 => ?_
    have z1 := X1.size
    have z2 := X2.size
    have z3 := X3.size
    refine ⟨_, _, rfl, rfl, ?_⟩
    have P4 := Blk.push h3 [.pointer (some ⟨b1, 0, none⟩), .pointer (some ⟨b2, 0, none⟩), .pointer (some ⟨b3, 0, none⟩)] 54
    have X4 := Ext.push h3 (.cells ([.pointer (some ⟨b1, 0, none⟩), .pointer (some ⟨b2, 0, none⟩), .pointer (some ⟨b3, 0, none⟩)] : List Value).toArray 54) (Nat.le_refl _)
    obtain ⟨h4, e4⟩ : ∃ x, x = h3.push (.cells ([.pointer (some ⟨b1, 0, none⟩), .pointer (some ⟨b2, 0, none⟩), .pointer (some ⟨b3, 0, none⟩)] : List Value).toArray 54) := ⟨_, rfl⟩
    rw [← e4] at P4 X4 ⊢
    have z4 := X4.size
    have b1l := L1.k.lt
    have b2l := L2.k.lt
    have b3l := L3.k.lt
    have hb1 := L1.hb
    have hb2 := L2.hb
    have hb3 := L3.hb
    have M1 := ((L1.ext X2).ext X3).ext X4
    have M2 := ((L2.ext X3).ext X4).mono z1
    have M3 := (L3.ext X4).mono (show hA.size ≤ h2.size by omega)
    have r1 : ∀ g, s1.blk = some g → g < h1.size := fun g hg => (L1.o.r.bd hg).2
    have r2 : ∀ g, s2.blk = some g → h1.size ≤ g ∧ g < h2.size := fun g hg => L2.o.r.bd hg
    have r3 : ∀ g, s3.blk = some g → h2.size ≤ g := fun g hg => (L3.o.r.bd hg).1
    have XA : Ext hA.size hA h4 := X1.trans ((X2.mono z1).trans ((X3.mono (by omega)).trans (X4.mono (by omega))))
    have L : LS rows hA.size h4 h3.size (fun j => if j = 0 then b1 else if j = 1 then b2 else b3) (fun j => if j = 0 then s1 else if j = 1 then s2 else s3) (fun _ => []) := by
      refine ⟨P4, by omega, fun j hj => ?_, fun i j hi hj hne => ?_, fun i j hi hj hne g hg hh => ?_, fun _ _ => Good.nil⟩
      · have : j = 0 ∨ j = 1 ∨ j = 2 := by omega
        rcases this with rfl | rfl | rfl
        · exact ⟨v1, M1⟩
        · exact ⟨v2, M2⟩
        · exact ⟨v3, M3⟩
      · have h1 : i = 0 ∨ i = 1 ∨ i = 2 := by omega
        have h2 : j = 0 ∨ j = 1 ∨ j = 2 := by omega
        rcases h1 with rfl | rfl | rfl <;> rcases h2 with rfl | rfl | rfl <;> simp at hne ⊢ <;> omega
      · have h1 : i = 0 ∨ i = 1 ∨ i = 2 := by omega
        have h2 : j = 0 ∨ j = 1 ∨ j = 2 := by omega
        rcases h1 with rfl | rfl | rfl <;> rcases h2 with rfl | rfl | rfl <;> simp at hne hg hh
        · have := r1 g hg; have := r2 g hh; omega
        · have := r1 g hg; have := r3 g hh; omega
        · have := r2 g hg; have := r1 g hh; omega
        · have := r2 g hg; have := r3 g hh; omega
        · have := r3 g hg; have := r1 g hh; omega
        · have := r3 g hg; have := r2 g hh; omega
    exact l3_ok C (by omega) X R hr XA rfl L (by omega) fun h' X' => H h' (X.trans (X'.mono X.size))
end Go.Q.Ya
