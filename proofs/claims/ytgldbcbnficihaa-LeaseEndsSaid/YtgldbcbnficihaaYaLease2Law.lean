/- A part of the proof of statements of this seat: lemmas, no statement of their own. -/
import Derived.Test.YtgldbcbnficihaaYaBytes
import Derived.Test.YtgldbcbnficihaaYaLeaseLaw
set_option linter.unusedVariables false
set_option linter.unusedSimpArgs false
namespace Go.Q.Ya
/-- all blocks but b stay -/
structure Upd (b : Nat) (h h' : Heap) : Prop where
  size : h.size ≤ h'.size
  block : ∀ i, i < h.size → i ≠ b → h'[i]? = h[i]?
theorem Upd.of_ext {b : Nat} {h h' : Heap} (x : Ext h.size h h') : Upd b h h' := ⟨x.size, fun i hi _ => x.block i hi⟩
theorem Upd.trans {b : Nat} {x y z : Heap} (p : Upd b x y) (q : Upd b y z) : Upd b x z :=
  ⟨Nat.le_trans p.size q.size, fun i hi hb => (q.block i (Nat.lt_of_lt_of_le hi p.size) hb).trans (p.block i hi hb)⟩
theorem Upd.refl (b : Nat) (h : Heap) : Upd b h h := ⟨Nat.le_refl _, fun _ _ _ => rfl⟩
theorem Upd.ext {b B : Nat} {h h' : Heap} (p : Upd b h h') (hB : B ≤ b) (hs : B ≤ h.size) : Ext B h h' := ⟨p.size, fun i hi => p.block i (by omega) (by omega)⟩
theorem Upd.blk {b c E : Nat} {h h' : Heap} {cs : List Value} (p : Upd b h h') (k : Blk h c cs E) (hc : c ≠ b) : Blk h' c cs E := k.old (p.block c k.lt hc)
theorem lease_Nonce_ok {b : Nat} {nd nx bd : Int} {k : List Int × Int → Heap → Prop} {h : Heap} (L : Lz h b nd nx bd) (d0 : 0 ≤ nd) (d1 : nd < 65536) (h0 : 0 ≤ nx) (h1 : bd ≤ 4611686018427387904)
    (H1 : nx < bd → ∀ h', Lz h' b nd (nx + 1) bd → Upd b h h' → k (nonceL nd nx, 0) h')
    (H2 : bd ≤ nx → bd = 4611686018427387904 → ∀ h', Ext h.size h h' → k (List.replicate 12 0, 12) h') (H3 : bd ≤ nx → bd ≠ 4611686018427387904 → ∀ h', Ext h.size h h' → k (List.replicate 12 0, 14) h') : lease_Lease_Nonce (some ⟨b, 0, none⟩) k h := by
  unfold lease_Lease_Nonce
  refine ⟨_, _, rfl, rfl, ?_⟩
  have L0 := Blk.push h ((List.replicate 12 (0 : Int)).map (Value.int .u8)) 40
  have X0 := Ext.push h (.cells ((List.replicate 12 (0 : Int)).map (Value.int .u8)).toArray 40) (Nat.le_refl _)
  have hb := L.lt
  refine Take_ok (L.pushed _) h0 h1 (fun hlt h2 L2 s2 x2 o2 => ?_) (fun q r => ?_) (fun q r => ?_)
  · rw [if_neg (by simp)]
    refine ⟨_, rfl, nd, by simp [L2.cell], ?_⟩
    refine NonceOf_ok d0 d1 h0 (by omega) fun h3 x3 => ?_
    have e0 : (h.push (.cells ((List.replicate 12 (0 : Int)).map (Value.int .u8)).toArray 40)).size = h.size + 1 := by simp
    have L3 : Blk h3 h.size ((List.replicate 12 (0 : Int)).map (Value.int .u8)) 40 := (L0.old (o2 h.size (by omega))).ext x3 (by omega)
    refine ⟨_, nonceL_length _ _, WrsAt.of_blk L3 (by simp), rfl, nonceL nd nx, nonceL_length _ _, CellsAt.of_blk (L3.sets_all (by simp [nonceL_length])), H1 hlt _ ?_ ?_⟩
    · exact Blk.old (L2.ext x3 (by omega)) (setsH_other _ _ (by simp; omega))
    · have u1 : Upd b h (h.push (.cells ((List.replicate 12 (0 : Int)).map (Value.int .u8)).toArray 40)) := .of_ext X0
      have u2 : Upd b (h.push (.cells ((List.replicate 12 (0 : Int)).map (Value.int .u8)).toArray 40)) h2 := ⟨by omega, fun i _ hi => o2 i hi⟩
      have u3 : Upd b h2 h3 := .of_ext x3
      refine ⟨?_, fun i hi hb => ?_⟩
      · rw [setsH_size]; exact ((u1.trans u2).trans u3).size
      · rw [setsH_other _ _ (by simp; omega)]; exact ((u1.trans u2).trans u3).block i hi hb
  · rw [if_pos (by simp)]
    refine ⟨_, rfl, WrsAt.of_blk L0 (by simp), rfl, List.replicate 12 0, by simp, ?_, H2 q r _ (X0.trans (Ext.sets _ _ _ (Nat.le_refl _)))⟩
    exact CellsAt.of_blk (L0.sets_all rfl)
  · rw [if_pos (by simp)]
    refine ⟨_, rfl, WrsAt.of_blk L0 (by simp), rfl, List.replicate 12 0, by simp, ?_, H3 q r _ (X0.trans (Ext.sets _ _ _ (Nat.le_refl _)))⟩
    exact CellsAt.of_blk (L0.sets_all rfl)
theorem lease_nil {k : List Int × Int → Heap → Prop} {h : Heap} (H : ∀ h', Ext h.size h h' → k (List.replicate 12 0, 14) h') : lease_Lease_Nonce none k h := by
  unfold lease_Lease_Nonce
  refine ⟨_, _, rfl, rfl, ?_⟩
  have L0 := Blk.push h ((List.replicate 12 (0 : Int)).map (Value.int .u8)) 40
  have X0 := Ext.push h (.cells ((List.replicate 12 (0 : Int)).map (Value.int .u8)).toArray 40) (Nat.le_refl _)
  unfold lease_Lease_Take
  rw [if_pos (by simp)]
  show (if _ then _ else _)
  rw [if_pos (by simp)]
  refine ⟨_, rfl, WrsAt.of_blk L0 (by simp), rfl, List.replicate 12 0, by simp, ?_, H _ (X0.trans (Ext.sets _ _ _ (Nat.le_refl _)))⟩
  exact CellsAt.of_blk (L0.sets_all rfl)
/-! ### the document's lease -/
def Lr (h : Heap) (b : Nat) (nd nx bd : Int) : Prop := Blk h b [.int .u16 nd, .int .u64 nx, .int .u64 bd] 49
theorem rNew_ok {p0 p1 : Int} {k : Option Addr → Heap → Prop} {h : Heap} (H : ∀ h', Lr h' h.size p0 (mn p1) (mn p1) → h'.size = h.size + 1 → Ext h.size h h' → k (some ⟨h.size, 0, none⟩) h') : ref12_New p0 p1 k h := by
  unfold ref12_New
  have key : ∀ q, q = mn p1 → ref12_New_j1 p0 q k h := fun q hq => by
    subst hq
    exact ⟨_, _, rfl, rfl, H _ (Blk.push _ _ _) (by simp) (Ext.push _ _ (Nat.le_refl _))⟩
  split
  · exact key _ (by unfold mn; rw [if_pos (by simp at *; omega)])
  · exact key _ (by unfold mn; rw [if_neg (by simp at *; omega)])
theorem rWants_ok {b : Nat} {nd nx bd p1 : Int} {k : Int × Int → Heap → Prop} {h : Heap} (L : Lr h b nd nx bd) (h0 : 0 ≤ bd) (h1 : bd ≤ 4611686018427387904) (h2 : 0 ≤ p1) (h3 : p1 < 18446744073709551616)
    (H : if 4611686018427387904 - bd < p1 then k (0, 12) h else k (bd + p1, 0) h) : ref12_Lease_Wants (some ⟨b, 0, none⟩) p1 k h := by
  unfold ref12_Lease_Wants
  by_cases hp : p1 > 4611686018427387904
  · rw [if_pos (by simpa using hp)]
    unfold ref12_Lease_Wants_g1
    rw [if_pos rfl]
    rw [if_pos (by omega)] at H
    exact H
  · rw [if_neg (by simpa using hp)]
    refine ⟨_, rfl, bd, by simp [L.cell], ?_⟩
    rw [wrapU64 (by omega) (by omega)]
    unfold ref12_Lease_Wants_g1
    split at H
    · rw [if_pos (by simp; omega)]; exact H
    · rw [if_neg (by simp; omega)]
      exact ⟨_, rfl, bd, by simp [L.cell], _, rfl, by rw [wrapU64 (by omega) (by omega)]; exact H⟩
theorem rGrant_ok {b : Nat} {nd nx bd p1 : Int} {k : Int → Heap → Prop} {h : Heap} (L : Lr h b nd nx bd)
    (H1 : p1 < bd → k 13 h) (H2 : bd ≤ p1 → 4611686018427387904 < p1 → k 12 h)
    (H : bd ≤ p1 → p1 ≤ 4611686018427387904 → ∀ h', Lr h' b nd nx p1 → h'.size = h.size → (∀ i, i ≠ b → h'[i]? = h[i]?) → k 0 h') : ref12_Lease_Grant (some ⟨b, 0, none⟩) p1 k h := by
  unfold ref12_Lease_Grant
  refine ⟨_, rfl, bd, by simp [L.cell], ?_⟩
  by_cases c1 : p1 < bd
  · rw [if_pos (by simpa using c1)]; exact H1 c1
  · rw [if_neg (by simpa using c1)]
    by_cases c2 : p1 > 4611686018427387904
    · rw [if_pos (by simpa using c2)]; exact H2 (by omega) c2
    · rw [if_neg (by simpa using c2)]
      refine ⟨_, by simpa using L.wr (by simp), rfl, H (by omega) (by omega) _ ?_ setH_size (fun i hi => setH_other (by simpa using hi))⟩
      have := Blk.set (i := 2) (v := .int .u64 p1) L
      simpa [Lr] using this
/-- Grant of the program, in all cases -/
theorem Grant_all {b : Nat} {nd nx bd p1 : Int} {k : Int → Heap → Prop} {h : Heap} (L : Lz h b nd nx bd)
    (H1 : p1 < bd → k 13 h) (H2 : bd ≤ p1 → 4611686018427387904 < p1 → k 12 h)
    (H : bd ≤ p1 → p1 ≤ 4611686018427387904 → ∀ h', Lz h' b nd nx p1 → h'.size = h.size → (∀ i, i ≠ b → h'[i]? = h[i]?) → k 0 h') : lease_Lease_Grant (some ⟨b, 0, none⟩) p1 k h := by
  unfold lease_Lease_Grant
  simp only [Option.isNone_some, Bool.false_eq_true, if_false]
  refine ⟨_, rfl, bd, by simp [L.cell], ?_⟩
  by_cases c1 : p1 < bd
  · rw [if_pos (by simpa using c1)]; exact H1 c1
  · rw [if_neg (by simpa using c1)]
    by_cases c2 : p1 > 4611686018427387904
    · rw [if_pos (by simpa using c2)]; exact H2 (by omega) c2
    · rw [if_neg (by simpa using c2)]
      refine ⟨_, by simpa using L.wr (by simp), rfl, H (by omega) (by omega) _ ?_ setH_size (fun i hi => setH_other (by simpa using hi))⟩
      have := Blk.set (i := 2) (v := .int .u64 p1) L
      simpa [Lz] using this
theorem rTake_ok {b : Nat} {nd nx bd : Int} {k : Int × Int → Heap → Prop} {h : Heap} (L : Lr h b nd nx bd) (h0 : 0 ≤ nx) (h1 : bd ≤ 4611686018427387904)
    (H1 : nx < bd → ∀ h', Lr h' b nd (nx + 1) bd → h'.size = h.size → (∀ i, i ≠ b → h'[i]? = h[i]?) → k (nx, 0) h')
    (H2 : bd ≤ nx → bd = 4611686018427387904 → k (0, 12) h) (H3 : bd ≤ nx → bd ≠ 4611686018427387904 → k (0, 14) h) : ref12_Lease_Take (some ⟨b, 0, none⟩) k h := by
  unfold ref12_Lease_Take
  refine ⟨_, rfl, nx, by simp [L.cell], bd, by simp [L.cell], ?_⟩
  by_cases hlt : nx < bd
  · rw [if_pos (by simpa using hlt)]
    have S := Blk.set (i := 1) (v := .int .u64 (nx + 1)) L
    refine ⟨nx, by simp [L.cell], _, by simpa using L.wr (by simp), rfl, nx + 1, ?_, _, rfl, ?_⟩
    · rw [wrapU64 (by omega) (by omega)]
      simp [S.cell]
    · rw [wrapU64 (by omega) (by omega), wrapU64 (by omega) (by omega)]
      rw [show nx + 1 - 1 = nx from by omega]
      exact H1 hlt _ (by simpa [Lr] using S) setH_size (fun i hi => setH_other (by simpa using hi))
  · rw [if_neg (by simpa using hlt)]
    refine ⟨bd, by simp [L.cell], ?_⟩
    by_cases hc : bd = 4611686018427387904
    · rw [if_pos (by simpa using hc)]; exact H2 (by omega) hc
    · rw [if_neg (by simpa using hc)]; exact H3 (by omega) hc
/-- the nonce of the document's layer 6 -/
theorem rNonce6_ok {nd n : Int} {k : List Int → Heap → Prop} {h : Heap} (d0 : 0 ≤ nd) (d1 : nd < 65536) (n0 : 0 ≤ n) (n1 : n < 18446744073709551616)
    (H : ∀ h', Ext h.size h h' → k (nonceL nd n) h') : ref06_Nonce nd n k h := by
  unfold ref06_Nonce
  refine ⟨_, _, rfl, rfl, _, _, rfl, rfl, ?_⟩
  have La := Blk.push h ((List.replicate 12 (0 : Int)).map (Value.int .u8)) 39
  have Xa := Ext.push h (.cells ((List.replicate 12 (0 : Int)).map (Value.int .u8)).toArray 39) (Nat.le_refl _)
  generalize ha : h.push (.cells ((List.replicate 12 (0 : Int)).map (Value.int .u8)).toArray 39) = ha' at *
  have sa : ha'.size = h.size + 1 := by rw [← ha]; simp
  have Lb := Blk.push ha' ((List.replicate 12 (0 : Int)).map (Value.int .u8)) 39
  have La2 := La.pushed (.cells ((List.replicate 12 (0 : Int)).map (Value.int .u8)).toArray 39)
  have Xb := Ext.push ha' (.cells ((List.replicate 12 (0 : Int)).map (Value.int .u8)).toArray 39) (Nat.le_refl _)
  generalize hb : ha'.push (.cells ((List.replicate 12 (0 : Int)).map (Value.int .u8)).toArray 39) = hb' at *
  have sb : hb'.size = h.size + 2 := by rw [← hb]; simp [sa]
  refine Form_ok (by decide) (by decide) n0 n1 fun s1 h1 R1 X1 => ?_
  rw [wrapU64 (by omega) (by omega)]
  refine Form_ok (by decide) (by decide) d0 (by omega) fun s2 h2 R2 X2 => ?_
  have z1 := X1.size; have z2 := X2.size
  have l1 := R1.len; have l2 := R2.len
  simp [formL_length] at l1 l2
  refine ⟨_, R2.slc, ?_⟩
  refine App.row (R1.ext X2 (fun g hg => (R1.bd hg).2)) (by omega) rfl (by simp [formL_length, l2]) (by8_one _) (by omega) (by simp only [maxLen]; omega) fun s3 h3 R3 ls3 z3 o3 _ => ?_
  rw [← List.map_append] at R3
  have X3 : Ext hb'.size h2 h3 := ⟨z3, fun i hi => o3 i (by omega) (fun e => by have := (R1.bd e).1; omega)⟩
  have La4 : Blk h3 h.size (by8 (List.replicate 12 0)) 39 := ((La2.ext X1 (by omega)).ext X2 (by omega)).ext X3 (by omega)
  have Lb4 : Blk h3 ha'.size (by8 (List.replicate 12 0)) 39 := ((Lb.ext X1 (by omega)).ext X2 (by omega)).ext X3 (by omega)
  have X4 : Ext h.size h h3 := Xa.trans ((Xb.mono (by omega)).trans ((X1.mono (by omega)).trans ((X2.mono (by omega)).trans (X3.mono (by omega)))))
  have lb : (formL n (8 : Int).toNat ++ formL nd (2 : Int).toNat).length = 10 := by simp [formL_length]
  have eN : nonceL nd n = (formL n (8 : Int).toNat ++ formL nd (2 : Int).toNat) ++ [0, 0] := by simp [nonceL]
  generalize formL n (8 : Int).toNat ++ formL nd (2 : Int).toNat = bs at *
  refine ⟨fun i h' => 0 ≤ i ∧ i ≤ 10 ∧ Blk h' ha'.size (by8 (bs.take i.toNat ++ List.replicate (12 - i.toNat) 0)) 39 ∧ (∀ j, j ≠ ha'.size → h'[j]? = h3[j]?) ∧ h'.size = h3.size, fun i _ => 10 - i.toNat, ⟨by simp, by simp, by simpa using Lb4, fun _ _ => rfl, rfl⟩, ?_⟩
  rintro i h4 ⟨i0, i1, B4, o4, z4⟩
  unfold ref06_Nonce_l1b
  by_cases hi : i < 10
  · rw [if_pos (by simpa using hi)]
    have l3 := R3.len
    simp [lb] at l3
    have R4 : Row hb'.size h4 5 1 s3 (by8 bs) := R3.keep fun g hg => o4 g (by have := (R3.bd hg).1; omega)
    obtain ⟨a, ha, hc⟩ := R4.at (j := i.toNat) (by omega)
    have hil : i.toNat < bs.length := by omega
    refine ⟨a, ha, i0, by omega, bs[i.toNat], by rw [Nat.mul_one, hc]; simp [hil], i0, by omega, _, ?_, rfl, _, rfl, ?_⟩
    · simp only [add_mk, Nat.mul_one, Nat.zero_add]
      exact B4.wr (by simp; omega)
    · rw [wrapI64 (by omega) (by omega)]
      refine ⟨⟨by omega, by omega, ?_, fun j hj => ?_, by rw [setH_size]; exact z4⟩, ?_⟩
      · simp only [add_mk, Nat.mul_one, Nat.zero_add]
        have := B4.set (i := i.toNat) (v := .int .u8 bs[i.toNat])
        have e : (by8 (bs.take i.toNat ++ List.replicate (12 - i.toNat) 0)).set i.toNat (.int .u8 bs[i.toNat]) = by8 (bs.take (i + 1).toNat ++ List.replicate (12 - (i + 1).toNat) 0) := by
          unfold by8
          rw [← List.map_set]
          congr 1
          rw [List.set_append_right _ _ (by simp; omega)]
          rw [show (i + 1).toNat = i.toNat + 1 from by omega, List.take_succ_eq_append_getElem hil]
          simp only [List.length_take]
          rw [show i.toNat - min i.toNat bs.length = 0 from by omega, show 12 - i.toNat = (12 - (i.toNat + 1)) + 1 from by omega, List.replicate_succ]
          simp only [List.set_cons_zero, List.append_assoc, List.cons_append, List.nil_append]
        rw [e] at this
        exact this
      · rw [setH_other (by simpa using hj)]; exact o4 j hj
      · show 10 - (i + 1).toNat < 10 - i.toNat
        omega
  · rw [if_neg (by simpa using hi)]
    have e10 : i = 10 := by omega
    subst e10
    have e : bs.take (10 : Int).toNat ++ List.replicate (12 - (10 : Int).toNat) 0 = nonceL nd n := by rw [eN, List.take_of_length_le (by rw [lb]; decide)]; rfl
    rw [e] at B4
    have La5 : Blk h4 h.size (by8 (List.replicate 12 0)) 39 := La4.old (o4 _ (by omega))
    refine ⟨nonceL nd n, nonceL_length _ _, CellsAt.of_blk B4, _, nonceL_length _ _, WrsAt.of_blk La5 (by simp), rfl, nonceL nd n, nonceL_length _ _, CellsAt.of_blk (La5.sets_all (by simp [nonceL_length])), H _ ?_⟩
    refine ⟨by rw [setsH_size]; have := X4.size; omega, fun j hj => ?_⟩
    rw [setsH_other _ _ (by simp; omega), o4 j (by omega), X4.block j hj]
theorem rNonce_ok {b : Nat} {nd nx bd : Int} {k : List Int × Int → Heap → Prop} {h : Heap} (L : Lr h b nd nx bd) (d0 : 0 ≤ nd) (d1 : nd < 65536) (h0 : 0 ≤ nx) (h1 : bd ≤ 4611686018427387904)
    (H1 : nx < bd → ∀ h', Lr h' b nd (nx + 1) bd → Upd b h h' → k (nonceL nd nx, 0) h')
    (H2 : bd ≤ nx → bd = 4611686018427387904 → ∀ h', Ext h.size h h' → k (List.replicate 12 0, 12) h') (H3 : bd ≤ nx → bd ≠ 4611686018427387904 → ∀ h', Ext h.size h h' → k (List.replicate 12 0, 14) h') : ref12_Lease_Nonce (some ⟨b, 0, none⟩) k h := by
  unfold ref12_Lease_Nonce
  refine ⟨_, _, rfl, rfl, ?_⟩
  have L0 := Blk.push h ((List.replicate 12 (0 : Int)).map (Value.int .u8)) 39
  have X0 := Ext.push h (.cells ((List.replicate 12 (0 : Int)).map (Value.int .u8)).toArray 39) (Nat.le_refl _)
  have hb := L.lt
  refine rTake_ok (L.pushed _) h0 h1 (fun hlt h2 L2 s2 o2 => ?_) (fun q r => ?_) (fun q r => ?_)
  · rw [if_neg (by simp)]
    refine ⟨_, rfl, nd, by simp [L2.cell], ?_⟩
    refine rNonce6_ok d0 d1 h0 (by omega) fun h3 x3 => ?_
    have e0 : (h.push (.cells ((List.replicate 12 (0 : Int)).map (Value.int .u8)).toArray 39)).size = h.size + 1 := by simp
    have L3 : Blk h3 h.size ((List.replicate 12 (0 : Int)).map (Value.int .u8)) 39 := (L0.old (o2 h.size (by omega))).ext x3 (by omega)
    refine ⟨_, nonceL_length _ _, WrsAt.of_blk L3 (by simp), rfl, nonceL nd nx, nonceL_length _ _, CellsAt.of_blk (L3.sets_all (by simp [nonceL_length])), H1 hlt _ ?_ ?_⟩
    · exact Blk.old (L2.ext x3 (by omega)) (setsH_other _ _ (by simp; omega))
    · have u1 : Upd b h (h.push (.cells ((List.replicate 12 (0 : Int)).map (Value.int .u8)).toArray 39)) := .of_ext X0
      have u2 : Upd b (h.push (.cells ((List.replicate 12 (0 : Int)).map (Value.int .u8)).toArray 39)) h2 := ⟨by omega, fun i _ hi => o2 i hi⟩
      have u3 : Upd b h2 h3 := .of_ext x3
      refine ⟨?_, fun i hi hb => ?_⟩
      · rw [setsH_size]; exact ((u1.trans u2).trans u3).size
      · rw [setsH_other _ _ (by simp; omega)]; exact ((u1.trans u2).trans u3).block i hi hb
  · rw [if_pos (by simp)]
    refine ⟨_, rfl, WrsAt.of_blk L0 (by simp), rfl, List.replicate 12 0, by simp, ?_, H2 q r _ (X0.trans (Ext.sets _ _ _ (Nat.le_refl _)))⟩
    exact CellsAt.of_blk (L0.sets_all rfl)
  · rw [if_pos (by simp)]
    refine ⟨_, rfl, WrsAt.of_blk L0 (by simp), rfl, List.replicate 12 0, by simp, ?_, H3 q r _ (X0.trans (Ext.sets _ _ _ (Nat.le_refl _)))⟩
    exact CellsAt.of_blk (L0.sets_all rfl)
end Go.Q.Ya
