/- A part of the proof of statements of this seat: lemmas, no statement of their own. -/
import Derived.Test.YtidhlagdagbggaaGreatYzCm
import Derived.Test.YtidhlagdagbggaaGreatQSem
set_option linter.unusedVariables false
set_option maxRecDepth 100000
/- The order of pieces. -/
namespace Go.Q.Yz
def cI (a b : Int) : Int := if a < b then -1 else if a > b then 1 else 0
def cS (a b : ByteArray) : Int := if Op.bytesLess a.toList b.toList = true then -1 else if (!(Op.bytesLess a.toList b.toList || a.toList == b.toList)) = true then 1 else 0
def orL : List Int → Int
  | [] => 0
  | x :: r => if x ≠ 0 then x else orL r
def idsP (x y : S_api_Id) : Int := orL [cI x.f_N y.f_N, cI x.f_Node y.f_Node]
def cmpP (x y : S_api_Piece) : Int := orL [cS x.f_Series y.f_Series, cI x.f_T y.f_T, idsP x.f_Id y.f_Id]
theorem CmpI_ok {a b : Int} {k : Int → Heap → Prop} {h : Heap} (H : k (cI a b) h) : cmp_Compare_int64 a b k h := by
  unfold cmp_Compare_int64 cmp_isNaN_int64
  unfold cI at H
  simp
  by_cases h1 : a < b
  · simpa [h1] using H
  · by_cases h2 : a > b
    · simpa [h1, h2] using H
    · simpa [h1, h2] using H
theorem CmpU_ok {a b : Int} {k : Int → Heap → Prop} {h : Heap} (H : k (cI a b) h) : cmp_Compare_uint64 a b k h := by
  unfold cmp_Compare_uint64 cmp_isNaN_uint64
  unfold cI at H
  simp
  by_cases h1 : a < b
  · simpa [h1] using H
  · by_cases h2 : a > b
    · simpa [h1, h2] using H
    · simpa [h1, h2] using H
theorem CmpN_ok {a b : Int} {k : Int → Heap → Prop} {h : Heap} (H : k (cI a b) h) : cmp_Compare_uint16 a b k h := by
  unfold cmp_Compare_uint16 cmp_isNaN_uint16
  unfold cI at H
  simp
  by_cases h1 : a < b
  · simpa [h1] using H
  · by_cases h2 : a > b
    · simpa [h1, h2] using H
    · simpa [h1, h2] using H
theorem CmpS_ok {a b : ByteArray} {k : Int → Heap → Prop} {h : Heap} (H : k (cS a b) h) : cmp_Compare_string a b k h := by
  unfold cmp_Compare_string cmp_isNaN_string
  unfold cS at H
  have e1 : (!(a.toList == a.toList)) = false := by simp
  have e2 : (!(b.toList == b.toList)) = false := by simp
  rw [e1, e2]
  dsimp only
  rw [if_neg Bool.false_ne_true, if_neg Bool.false_ne_true]
  by_cases h1 : Op.bytesLess a.toList b.toList = true
  · rw [if_pos h1] at H ⊢
    exact ⟨_, rfl, H⟩
  · rw [if_neg h1] at H ⊢
    by_cases h2 : (!(Op.bytesLess a.toList b.toList || a.toList == b.toList)) = true
    · rw [if_pos h2] at H ⊢; exact H
    · rw [if_neg h2] at H ⊢; exact H
theorem Or_ok {b E c : Nat} {xs : List Int} {k : Int → Heap → Prop} {h : Heap} (B : Blk h b (xs.map (Value.int .i64)) E) (hl : xs.length ≤ 1000) (H : k (orL xs) h) : cmp_Or_int ⟨some ⟨b, 0, none⟩, xs.length, c⟩ k h := by
  unfold cmp_Or_int cmp_Or_int_l1
  refine ⟨fun i h' => h' = h ∧ 0 ≤ i ∧ i ≤ xs.length ∧ orL xs = orL (xs.drop i.toNat), fun i _ => xs.length - i.toNat, ⟨rfl, Int.le_refl _, by omega, by simp⟩, ?_⟩
  rintro i h' ⟨rfl, h0, h1, h2⟩
  unfold cmp_Or_int_l1b
  by_cases hi : i < (xs.length : Int)
  · rw [if_pos (by simpa using hi)]
    have hlt : i.toNat < xs.length := by omega
    refine ⟨_, rfl, h0, hi, xs[i.toNat], ?_, ?_⟩
    · rw [show ((⟨b, 0, none⟩ : Addr).add (i.toNat * 1)) = ⟨b, i.toNat, none⟩ from by rw [Nat.mul_one, add_mk, Nat.zero_add], B.cell]
      simp [List.getElem?_eq_getElem hlt]
    · have hd : xs.drop i.toNat = xs[i.toNat] :: xs.drop (i.toNat + 1) := (List.drop_eq_getElem_cons hlt)
      rw [hd, orL] at h2
      by_cases hz : xs[i.toNat] ≠ 0
      · rw [if_pos (by simpa using hz)]
        rw [if_pos hz] at h2
        rw [← h2]; exact H
      · rw [if_neg (by simpa using hz)]
        rw [if_neg hz] at h2
        have hw : IntKind.i64.wrap (i + 1) = i + 1 := wrapI64 (by omega) (by omega)
        rw [hw]
        refine ⟨⟨rfl, by omega, by omega, ?_⟩, ?_⟩
        · rw [show (i + 1).toNat = i.toNat + 1 from by omega]; exact h2
        · show xs.length - (i + 1).toNat < xs.length - i.toNat
          omega
  · rw [if_neg (by simpa using hi)]
    rw [show i.toNat = xs.length from by omega, List.drop_length] at h2
    rw [h2] at H
    exact H
theorem add0 (b i j : Nat) : (⟨b, i, none⟩ : Addr).add j = ⟨b, i + j, none⟩ := add_mk ..
theorem Ids_ok {x y : S_api_Id} {k : Int → Heap → Prop} {h : Heap} (H : ∀ h', Ext h.size h h' → k (idsP x y) h') : piece_ids x y k h := by
  unfold piece_ids
  refine ⟨_, _, rfl, rfl, _, _, rfl, rfl, ?_⟩
  have P0 := Blk.push h (S_api_Id.cs x) 44
  have P := P0.pushed (.cells (S_api_Id.cs y).toArray 44)
  have Q := Blk.push (h.push (.cells (S_api_Id.cs x).toArray 44)) (S_api_Id.cs y) 44
  have X : Ext h.size h ((h.push (.cells (S_api_Id.cs x).toArray 44)).push (.cells (S_api_Id.cs y).toArray 44)) := (Ext.push h _ (Nat.le_refl _)).trans (Ext.push _ _ (by simp))
  generalize hg : ((h.push (.cells (S_api_Id.cs x).toArray 44)).push (.cells (S_api_Id.cs y).toArray 44)) = g at *
  refine ⟨x.f_N, P.cell, y.f_N, Q.cell, x.f_Node, P.cell, y.f_Node, Q.cell, ?_⟩
  refine CmpU_ok ⟨Q.cell, P.cell, CmpN_ok ⟨_, _, rfl, rfl, ?_⟩⟩
  exact Or_ok (xs := [cI x.f_N y.f_N, cI x.f_Node y.f_Node]) (Blk.push g [Value.int .i64 (cI x.f_N y.f_N), Value.int .i64 (cI x.f_Node y.f_Node)] _) (by simp) (H _ (X.trans (Ext.push g _ X.size)))
theorem Compare_ok {x y : S_api_Piece} {k : Int → Heap → Prop} {h : Heap} (H : ∀ h', Ext h.size h h' → k (cmpP x y) h') : piece_compare x y k h := by
  unfold piece_compare
  refine ⟨_, _, rfl, rfl, _, _, rfl, rfl, ?_⟩
  have P0 := Blk.push h (S_api_Piece.cs x) 46
  have P := P0.pushed (.cells (S_api_Piece.cs y).toArray 46)
  have Q := Blk.push (h.push (.cells (S_api_Piece.cs x).toArray 46)) (S_api_Piece.cs y) 46
  have X : Ext h.size h ((h.push (.cells (S_api_Piece.cs x).toArray 46)).push (.cells (S_api_Piece.cs y).toArray 46)) := (Ext.push h _ (Nat.le_refl _)).trans (Ext.push _ _ (by simp))
  generalize hg : ((h.push (.cells (S_api_Piece.cs x).toArray 46)).push (.cells (S_api_Piece.cs y).toArray 46)) = g at *
  have ci : ∀ {b : Nat} {z : S_api_Piece}, Blk g b (S_api_Piece.cs z) 46 → CellsAt g ((⟨b, 0, none⟩ : Addr).add 3) (S_api_Id.cs z.f_Id) := fun {b z} R j v hj => by
    rw [add0, add0, R.cell]
    match j, hj with
    | 0, hj => exact hj
    | 1, hj => exact hj
    | j + 2, hj => simp [S_api_Id.cs] at hj
  refine ⟨x.f_Series, P.cell, y.f_Series, Q.cell, x.f_T, P.cell, y.f_T, Q.cell, x.f_Id, ci P, y.f_Id, ci Q, ?_⟩
  refine CmpS_ok ⟨ci Q, ci P, Q.cell, P.cell, CmpI_ok ⟨ci Q, ci P, Ids_ok fun g2 X2 => ⟨_, _, rfl, rfl, ?_⟩⟩⟩
  exact Or_ok (xs := [cS x.f_Series y.f_Series, cI x.f_T y.f_T, idsP x.f_Id y.f_Id]) (Blk.push g2 [Value.int .i64 (cS x.f_Series y.f_Series), Value.int .i64 (cI x.f_T y.f_T), Value.int .i64 (idsP x.f_Id y.f_Id)] _) (by simp)
    (H _ ((X.trans (X2.mono X.size)).trans (Ext.push g2 _ (Nat.le_trans X.size X2.size))))
end Go.Q.Yz
