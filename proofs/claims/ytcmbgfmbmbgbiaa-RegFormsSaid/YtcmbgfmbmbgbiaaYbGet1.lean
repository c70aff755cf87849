/- A part of the proof of statements of this seat: lemmas, no statement of their own. -/
import Derived.Test.YtcmbgfmbmbgbiaaYbRd3
set_option linter.unusedVariables false
set_option linter.unusedSimpArgs false
namespace Go.Q.Yb
theorem S2B_ok {t : ByteArray} {k : Slc → Heap → Prop} {h : Heap} (H : ∀ s' h', Row h.size h' 5 1 s' (b8 (sB t)) → Ext h.size h h' → k s' h') : S2B 5 h t k := by
  intro c hc hm
  have hl : (b8 (sB t) ++ List.replicate (c - t.size) (Value.int .u8 0)).length = c := by simp [sB_len]; omega
  have P := Blk.pushM h (b8 (sB t) ++ List.replicate (c - t.size) (Value.int .u8 0)) 5 (lo := c) (hi := c + 1) (by omega)
  refine H _ _ ⟨by simp [sB_len], hm, .inr ⟨h.size, _, rfl, Nat.le_refl _, P, hc, by rw [hl, Nat.mul_one]; exact Nat.le_refl _, ?_⟩⟩ (Ext.push h _ (Nat.le_refl _))
  rw [List.take_left' (by simp [sB_len])]
def zagN (p : Int) : Int := if p % 2 = 0 then p / 2 else -(p / 2) - 1
theorem zig_zag {p : Int} (p0 : 0 ≤ p) : zigN (zagN p) = p := by unfold zigN zagN; split <;> split <;> omega
theorem zag_bd {p : Int} (p0 : 0 ≤ p) (p1 : p < 18446744073709551616) : -9223372036854775808 ≤ zagN p ∧ zagN p < 9223372036854775808 := by unfold zagN; split <;> omega
theorem and1 {p : Int} (p0 : 0 ≤ p) (p1 : p < 18446744073709551616) : bwAnd .u64 p 1 = p % 2 := by
  obtain ⟨m, rfl⟩ : ∃ m : Nat, p = m := ⟨p.toNat, by omega⟩
  show IntKind.u64.wrap ((BitVec.ofInt 64 (m : Int) &&& BitVec.ofInt 64 ((1 : Nat) : Int)).toNat : Int) = _
  rw [and_nat 64 m 1 (by omega) (by omega), wU64, Nat.and_one_is_mod]; omega
theorem xor64_ones {a : Int} (a0 : 0 ≤ a) (a1 : a < 9223372036854775808) : bwXor .i64 a (-1) = -a - 1 := by
  obtain ⟨m, rfl⟩ : ∃ m : Nat, a = m := ⟨a.toNat, by omega⟩
  show IntKind.i64.wrap ((BitVec.ofInt 64 (m : Int) ^^^ BitVec.ofInt 64 (-1)).toNat : Int) = _
  have e : BitVec.ofInt 64 (-1) = BitVec.allOnes 64 := by decide +kernel
  have e2 : (BitVec.ofInt 64 (m : Int)).toNat = m := bv_nat 64 m (by omega)
  rw [e, BitVec.xor_allOnes, BitVec.toNat_not, e2]
  unfold IntKind.wrap; simp [IntKind.signed, IntKind.bits]; omega
theorem xor64_zero {a : Int} (a0 : 0 ≤ a) (a1 : a < 9223372036854775808) : bwXor .i64 a 0 = a := by
  obtain ⟨m, rfl⟩ : ∃ m : Nat, a = m := ⟨a.toNat, by omega⟩
  show IntKind.i64.wrap ((BitVec.ofInt 64 (m : Int) ^^^ BitVec.ofInt 64 0).toNat : Int) = _
  have e : BitVec.ofInt 64 0 = 0#64 := by decide +kernel
  have e2 : (BitVec.ofInt 64 (m : Int)).toNat = m := bv_nat 64 m (by omega)
  rw [e, BitVec.xor_zero, e2]
  unfold IntKind.wrap; simp [IntKind.signed, IntKind.bits]; omega
theorem Zag_ok {p : Int} {k : Int → Heap → Prop} {h : Heap} (p0 : 0 ≤ p) (p1 : p < 18446744073709551616) (H : k (zagN p) h) : num_Zag p k h := by
  unfold num_Zag
  refine ⟨_, rfl, ?_⟩
  have e : shr .u64 p (1 : Int).toNat = p / 2 := by
    unfold shr
    rw [show (2 : Int) ^ (min (1 : Int).toNat IntKind.u64.bits) = 2 from rfl, Int.fdiv_eq_ediv_of_nonneg _ (by omega)]
  rw [e, and1 p0 p1, wrapI64 (x := p / 2) (by omega) (by omega), wrapI64 (x := p % 2) (by omega) (by omega), wrapI64 (x := 0 - p % 2) (by omega) (by omega)]
  unfold zagN at H
  by_cases hp : p % 2 = 0
  · rw [hp, show (0 : Int) - 0 = 0 from rfl, xor64_zero (by omega) (by omega)]
    rw [if_pos hp] at H; exact H
  · rw [show p % 2 = 1 from by omega, show (0 : Int) - 1 = -1 from rfl, xor64_ones (by omega) (by omega)]
    rw [if_neg hp] at H; exact H
section
variable {h : Heap} {r : Nat} {l : List Int} {bad : Bool}
theorem regr_bytes2 {n : Int} {k : Slc → Heap → Prop} (R : Rd 155 h r l bad) (n0 : 0 ≤ n)
    (H : ∀ (s : Slc) (x l' : List Int) (b' : Bool) (h' : Heap), Rd 155 h' r l' b' → Upd r h h' → SlcAt h' s (b8 x) → s.len = x.length → (x = [] ∨ x.length = n.toNat) → isB x → (b' = false → bad = false ∧ l = x ++ l' ∧ x.length = n.toNat) → k s h') : reg_reader_bytes (some ⟨r, 0, none⟩) n k h := by
  have hB := R.isB
  refine regr_bytes_ok R n0 (fun s h' b hn R' U S ls cs => ?_) fun h' R' U => ?_
  · have hl : (l.take n.toNat).length = n.toNat := by rw [List.length_take]; omega
    exact H s (l.take n.toNat) _ false h' R' U (S h' (Ext.refl _ _)) (by omega) (.inr hl) (isB_take hB _) fun _ => ⟨b, (List.take_append_drop _ _).symm, hl⟩
  · exact H _ [] l true h' R' U ⟨fun _ => rfl, fun a ha => by cases ha⟩ rfl (.inl rfl) (by intro b hb; cases hb) fun h => by cases h
theorem regr_nonce_ok {k : List Int → Heap → Prop} (R : Rd 155 h r l bad)
    (H : ∀ (v l' : List Int) (b' : Bool) (h' : Heap), Rd 155 h' r l' b' → Upd r h h' → isB v → (b' = false → bad = false ∧ l = nrm 12 v ++ l') → k v h') : reg_reader_nonce (some ⟨r, 0, none⟩) k h := by
  unfold reg_reader_nonce
  have rl := R.lt
  refine ⟨_, _, rfl, rfl, ?_⟩
  have P := Blk.push h (arr 12 .u8 []) 29
  have W := Ext.push h (.cells (arr 12 .u8 []).toArray 29) (Nat.le_refl _)
  obtain ⟨h2, e2⟩ : ∃ y, y = h.push (.cells (arr 12 .u8 []).toArray 29) := ⟨_, rfl⟩
  rw [← e2] at P W ⊢
  have z2 := W.size
  have pl := P.lt
  refine ⟨_, _, rfl, rfl, ?_⟩
  have Q := Blk.push h2 (arr 12 .u8 []) 29
  have W3 := Ext.push h2 (.cells (arr 12 .u8 []).toArray 29) (Nat.le_refl _)
  obtain ⟨h3, e3⟩ : ∃ y, y = h2.push (.cells (arr 12 .u8 []).toArray 29) := ⟨_, rfl⟩
  rw [← e3] at Q W3 ⊢
  have z3 := W3.size
  have ql := Q.lt
  have P3 := P.ext W3 pl
  refine ⟨_, by omega, by omega, by omega, rfl, ?_⟩
  have es : subS ⟨some (⟨h2.size, 0, none⟩ : Addr), 12, 12⟩ 1 (0 : Int).toNat (12 : Int).toNat 12 = ⟨some ⟨h2.size, 0, none⟩, 12, 12⟩ := by simp [subS]
  rw [es]
  refine regr_bytes2 ((R.ext (W.mono (by omega))).ext (W3.mono (by omega))) (by omega) fun s x l1 b1 h4 R4 U4 S4 ls hx xB e4 => ?_
  have z4 := U4.size
  have Q4 := U4.blk Q (by omega)
  have P4 := U4.blk P3 (by omega)
  have U04 : Upd r h h4 := (Upd.of_ext (W.trans (W3.mono z2))).trans U4
  have h12 : (12 : Int).toNat = 12 := rfl
  rw [h12] at hx e4
  have xl : x.length ≤ 12 := by
    rcases hx with rfl | hx
    · simp
    · omega
  refine ⟨b8 x, ⟨b8 x, S4, by simp [ls], ?_⟩, b8_one x, (fun hn => by cases hn), (fun a ha j hj => ?_), ?_⟩
  · rw [show min s.len (⟨some ⟨h2.size, 0, none⟩, 12, 12⟩ : Slc).len * 1 = x.length from by dsimp only; omega, List.take_of_length_le (by simp)]
  · cases ha
    rw [add_mk]; exact Q4.wr (by rw [arr_len]; simp at hj; omega)
  · have Q5 := Q4.sets (b8 x) 0 0 (by rw [arr_len]; simp; omega)
    have ec : (arr 12 .u8 ([] : List Int)).take (0 + 0) ++ b8 x ++ (arr 12 .u8 ([] : List Int)).drop (0 + 0 + (b8 x).length) = arr 12 .u8 x := by
      rcases hx with rfl | hx
      · simp
      · rw [arr_id hx]
        have : (arr 12 .u8 ([] : List Int)).drop (0 + 0 + (b8 x).length) = [] := List.drop_of_length_le (by rw [arr_len]; simp; omega)
        rw [this]; simp
    rw [ec] at Q5
    have X5 : Ext h.size h4 (setsH h4 ⟨h2.size, 0, none⟩ 0 (b8 x)) := Ext.sets _ _ _ (by dsimp only; omega)
    dsimp only
    have P5 : Blk (setsH h4 ⟨h2.size, 0, none⟩ 0 (b8 x)) h.size (arr 12 .u8 []) 29 := P4.old (setsH_other _ _ (by dsimp only; omega))
    generalize setsH h4 ⟨h2.size, 0, none⟩ 0 (b8 x) = h5 at *
    refine ⟨x, CellsAt.of_blk Q5, _, WrsAt.of_blk P5 (by rw [arr_len]; omega), rfl, x, CellsAt.of_blk (P5.sets_all (by rw [arr_len, arr_len])), ?_⟩
    have X6 : Ext h.size h5 (setsH h5 ⟨h.size, 0, none⟩ 0 (arr 12 .u8 x)) := Ext.sets _ _ _ (Nat.le_refl _)
    refine H x l1 b1 _ ((R4.ext (X5.mono (by omega))).ext (X6.mono (by omega))) ((U04.fresh X5).fresh X6) xB fun hb => ?_
    obtain ⟨a, b, c⟩ := e4 hb
    exact ⟨a, by rw [nrm_id c]; exact b⟩
end
theorem u32_wrap {v : Int} (v0 : 0 ≤ v) (v1 : v < 4294967296) : IntKind.u32.wrap v = v := wrapU32 v0 v1
/-- what hangs on the blocks from B on alone -/
def Held (B : Nat) (h : Heap) (p : Heap → Prop) : Prop := ∀ h', (∀ g, B ≤ g → g < h.size → h'[g]? = h[g]?) → p h'
theorem Held.now {B : Nat} {h : Heap} {p : Heap → Prop} (H : Held B h p) : p h := H h fun _ _ _ => rfl
theorem Held.step {B : Nat} {h h2 : Heap} {p : Heap → Prop} (H : Held B h p) (z : h.size ≤ h2.size) (e : ∀ g, B ≤ g → g < h.size → h2[g]? = h[g]?) : Held B h2 p :=
  fun h' e' => H h' fun g g1 g2 => by rw [e' g g1 (by omega)]; exact e g g1 g2
theorem Held.mono {A B : Nat} {h : Heap} {p : Heap → Prop} (H : Held B h p) (hb : A ≤ B) : Held A h p := fun h' e => H h' fun g g1 g2 => e g (by omega) g2
theorem Held.imp {B : Nat} {h : Heap} {p q : Heap → Prop} (H : Held B h p) (hq : ∀ h', p h' → q h') : Held B h q := fun h' e => hq h' (H h' e)
theorem Held.of_row {B E w : Nat} {h : Heap} {s : Slc} {xs : List Value} (R : Row B h E w s xs) : Held B h fun h' => Row B h' E w s xs := fun h' e => R.keep fun g hg => e g (R.bd hg).1 (R.bd hg).2
/-- a command is read -/
theorem rGet_ok {p0 : Slc} {l : List Int} {k : S_api_Command × Int → Heap → Prop} {h : Heap} (hs : SlcAt h p0 (b8 l)) (hl : p0.len = l.length) (hc : p0.len ≤ p0.cap) (hB : isB l) (hz : l.length ≤ 100000)
    (H1 : ∀ c wr h', Held h.size h' (fun h' => CmdAt h' c wr) → isB c.f_Nonce → CmdSm c wr → 0 ≤ c.f_Kind ∧ c.f_Kind < 256 → l = cmdL c wr → Ext h.size h h' → k (c, 0) h')
    (H2 : ∀ h', Ext h.size h h' → k (⟨0, ByteArray.empty, 0, [], ⟨none, 0, 0⟩, 0⟩, 4) h') : reg_Get p0 k h := by
  unfold reg_Get
  refine ⟨_, _, rfl, rfl, ?_⟩
  have P := Blk.push h (S_api_Command.cs ⟨0, ByteArray.empty, 0, [], ⟨none, 0, 0⟩, 0⟩) 32
  have W := Ext.push h (.cells (S_api_Command.cs ⟨0, ByteArray.empty, 0, [], ⟨none, 0, 0⟩, 0⟩).toArray 32) (Nat.le_refl _)
  obtain ⟨h2, e2⟩ : ∃ y, y = h.push (.cells (S_api_Command.cs ⟨0, ByteArray.empty, 0, [], ⟨none, 0, 0⟩, 0⟩).toArray 32) := ⟨_, rfl⟩
  rw [← e2] at P W ⊢
  have z2 := W.size
  have pl := P.lt
  refine ⟨_, _, rfl, rfl, ?_⟩
  have K := Blk.push h2 (S_reg_reader.cs ⟨p0, false⟩) 155
  have W3 := Ext.push h2 (.cells (S_reg_reader.cs ⟨p0, false⟩).toArray 155) (Nat.le_refl _)
  obtain ⟨h3, e3⟩ : ∃ y, y = h2.push (.cells (S_reg_reader.cs ⟨p0, false⟩).toArray 155) := ⟨_, rfl⟩
  rw [← e3] at K W3 ⊢
  have z3 := W3.size
  have kl := K.lt
  have P3 := P.ext W3 pl
  have R3 : Rd 155 h3 h2.size l false := ⟨p0, K, fun h' X => ⟨hs.1, fun b hb j w hj => by rw [X.cell (Nat.lt_of_lt_of_le (cellH_lt (hs.2 b hb j w hj)) z2), ← hs.2 b hb j w hj]; exact ((W.trans (W3.mono z2)).cell (cellH_lt (hs.2 b hb j w hj)))⟩, hl, hc, hB, by omega⟩
  have A : ∀ {b : Nat} {i j : Nat}, (⟨b, i, none⟩ : Addr).add j = ⟨b, i + j, none⟩ := fun {b i j} => add_mk b i j
  refine regr_number2 R3 (by omega) (by omega) fun v1 l1 b1 h4 R4 U4 v10 v11 e4 => ?_
  have z4 := U4.size
  refine regr_text2 R4 fun t l2 b2 h5 R5 U5 tz e5 => ?_
  have z5 := U5.size
  refine regr_number2 R5 (by omega) (by omega) fun v3 l3 b3 h6 R6 U6 v30 v31 e6 => ?_
  have z6 := U6.size
  refine regr_nonce_ok R6 fun nv l4 b4 h7 R7 U7 nB e7 => ?_
  have z7 := U7.size
  have v11' : v1 < 256 := v11
  have v31' : v3 < 4294967296 := v31
  rw [wrapI64 (x := v1) (by omega) (by omega), wrapU32 (x := v3) v30 v31']
  refine ⟨_, _, rfl, rfl, ?_⟩
  have Q := Blk.push h7 (S_api_Command.cs ⟨0, ByteArray.empty, 0, [], ⟨none, 0, 0⟩, 0⟩) 32
  have Q2 := Q.sets_all (vs := S_api_Command.cs ⟨v1, t, v3, nv, ⟨none, 0, 0⟩, 0⟩) rfl
  have W8 := (Ext.push h7 (.cells (S_api_Command.cs ⟨0, ByteArray.empty, 0, [], ⟨none, 0, 0⟩, 0⟩).toArray 32) (Nat.le_refl _)).trans (Ext.sets _ (a := ⟨h7.size, 0, none⟩) 0 (S_api_Command.cs ⟨v1, t, v3, nv, ⟨none, 0, 0⟩, 0⟩) (Nat.le_refl _))
  refine ⟨_, WrsAt.of_blk Q (by rw [show (S_api_Command.cs ⟨0, ByteArray.empty, 0, [], ⟨none, 0, 0⟩, 0⟩).length = 17 from rfl]; omega), rfl, ?_⟩
  generalize setsH (h7.push (.cells (S_api_Command.cs ⟨0, ByteArray.empty, 0, [], ⟨none, 0, 0⟩, 0⟩).toArray 32)) ⟨h7.size, 0, none⟩ 0 (S_api_Command.cs ⟨v1, t, v3, nv, ⟨none, 0, 0⟩, 0⟩) = h8 at *
  have z8 := W8.size
  have ql := Q2.lt
  refine regr_text2 (R7.ext (W8.mono (by omega))) fun t2 l5 b5 h9 R9 U9 tz2 e9 => ?_
  have z9 := U9.size
  have Q9 := U9.blk Q2 (by omega)
  refine ⟨by have : maxLen = 9223372036854775807 := rfl; omega, S2B_ok fun s10 h10 Rw X10 => ?_⟩
  have z10 := X10.size
  have Q10 := Q9.ext X10 Q9.lt
  refine ⟨_, by rw [A]; exact Q10.wr (by rw [show (S_api_Command.cs ⟨v1, t, v3, nv, ⟨none, 0, 0⟩, 0⟩).length = 17 from rfl]; omega), rfl, ?_⟩
  rw [show (⟨h7.size, 0, none⟩ : Addr).add 15 = ⟨h7.size, 15, none⟩ from by simp]
  have Q11 := Q10.set (i := 15) (v := Slc.v s10)
  rw [show (S_api_Command.cs ⟨v1, t, v3, nv, ⟨none, 0, 0⟩, 0⟩).set 15 (Slc.v s10) = S_api_Command.cs ⟨v1, t, v3, nv, s10, 0⟩ from rfl] at Q11
  have X11 : Ext h7.size h10 (setH h10 ⟨h7.size, 15, none⟩ (Slc.v s10)) := Ext.set _ _ (Nat.le_refl _)
  have Rw11 : Row h9.size (setH h10 ⟨h7.size, 15, none⟩ (Slc.v s10)) 5 1 s10 (b8 (sB t2)) := Rw.keep fun g hg => setH_other (by have := (Rw.bd hg).1; dsimp only; omega)
  generalize setH h10 ⟨h7.size, 15, none⟩ (Slc.v s10) = h11 at *
  have z11 := X11.size
  refine regr_number2 ((R9.ext (X10.mono (by omega))).ext (X11.mono (by omega))) (by omega) (by omega) fun v6 l6 b6 h12 R12 U12 v60 v61 e12 => ?_
  have z12 := U12.size
  have v61' : v6 < 18446744073709551616 := v61
  refine Zag_ok v60 v61' ?_
  have Q12 := U12.blk Q11 (by omega)
  have Rw12 : Row h9.size h12 5 1 s10 (b8 (sB t2)) := Rw11.keep fun g hg => U12.block g (Rw11.bd hg).2 (by have := (Rw11.bd hg).1; omega)
  refine ⟨_, by rw [A]; exact Q12.wr (by rw [show (S_api_Command.cs ⟨v1, t, v3, nv, s10, 0⟩).length = 17 from rfl]; omega), rfl, ?_⟩
  rw [show (⟨h7.size, 0, none⟩ : Addr).add 16 = ⟨h7.size, 16, none⟩ from by simp]
  have Q13 := Q12.set (i := 16) (v := .int .i64 (zagN v6))
  rw [show (S_api_Command.cs ⟨v1, t, v3, nv, s10, 0⟩).set 16 (.int .i64 (zagN v6)) = S_api_Command.cs ⟨v1, t, v3, nv, s10, zagN v6⟩ from rfl] at Q13
  have X13 : Ext h7.size h12 (setH h12 ⟨h7.size, 16, none⟩ (.int .i64 (zagN v6))) := Ext.set _ _ (Nat.le_refl _)
  have Rw13 : Row h9.size (setH h12 ⟨h7.size, 16, none⟩ (.int .i64 (zagN v6))) 5 1 s10 (b8 (sB t2)) := Rw12.keep fun g hg => setH_other (by have := (Rw12.bd hg).1; dsimp only; omega)
  generalize setH h12 ⟨h7.size, 16, none⟩ (.int .i64 (zagN v6)) = h13 at *
  have z13 := X13.size
  have U313 : Upd h2.size h3 h13 := (((((U4.trans (U5.trans (U6.trans U7))).fresh (W8.mono (by omega))).trans U9).fresh ((X10.mono (show h7.size ≤ h9.size by omega)).trans X11 |>.mono (by omega))).trans U12).fresh (X13.mono (by omega))
  have X013 : Ext h.size h h13 := (W.trans (W3.mono z2)).trans (U313.ext (by omega) (by omega))
  have P13 := U313.blk P3 (by omega)
  have R13 := R12.ext (X13.mono (show h2.size + 1 ≤ h7.size by omega))
  have badEnd : reg_Get_g1 ⟨h.size, 0, none⟩ ⟨h7.size, 0, none⟩ true k h13 := by
    unfold reg_Get_g1
    rw [if_pos rfl]
    exact ⟨_, WrsAt.of_blk P13 (by rw [show (S_api_Command.cs ⟨0, ByteArray.empty, 0, [], ⟨none, 0, 0⟩, 0⟩).length = 17 from rfl]; omega), rfl, _, CellsAt.of_blk (P13.sets_all (vs := S_api_Command.cs ⟨0, ByteArray.empty, 0, [], ⟨none, 0, 0⟩, 0⟩) rfl), H2 _ (X013.trans (Ext.sets _ _ _ (Nat.le_refl _)))⟩
  have R13c := R13
  obtain ⟨sd, Kd, Sd, sdl, _⟩ := R13
  refine ⟨b6, by rw [add_mk, Kd.cell]; rfl, ?_⟩
  cases hb : b6 with
  | true => rw [if_pos rfl]; exact badEnd
  | false =>
    rw [if_neg (by simp)]
    refine ⟨sd, by rw [Kd.cell]; rfl, ?_⟩
    by_cases hr : l6.length > 0
    · rw [show decide ((sd.len : Int) > 0) = true from by rw [decide_eq_true_eq]; omega]; exact badEnd
    · rw [show decide ((sd.len : Int) > 0) = false from by rw [decide_eq_false_iff_not]; omega]
      unfold reg_Get_g1
      rw [if_neg (by simp)]
      have l60 : l6 = [] := List.eq_nil_of_length_eq_zero (by omega)
      obtain ⟨c5, q6⟩ := e12 hb
      obtain ⟨c4, q5⟩ := e9 c5
      obtain ⟨c3, q4⟩ := e7 c4
      obtain ⟨c2, q3⟩ := e6 c3
      obtain ⟨c1, q2⟩ := e5 c2
      obtain ⟨_, q1⟩ := e4 c1
      have el : l = cmdL ⟨v1, t, v3, nv, s10, zagN v6⟩ (sB t2) := by
        rw [q1, q2, q3, q4, q5, q6, l60, cmdL]
        dsimp only
        rw [zig_zag v60, show tx (sB t2) = textL t2 from by simp only [tx, textL, sB_len]]
        simp only [List.append_assoc, List.append_nil]
        rfl
      refine ⟨_, CellsAt.of_blk Q13, _, WrsAt.of_blk P13 (by rw [show (S_api_Command.cs ⟨0, ByteArray.empty, 0, [], ⟨none, 0, 0⟩, 0⟩).length = 17 from rfl]; omega), rfl, _, CellsAt.of_blk (P13.sets_all (vs := S_api_Command.cs ⟨v1, t, v3, nv, s10, zagN v6⟩) rfl), ?_⟩
      have X14 : Ext h.size h13 (setsH h13 ⟨h.size, 0, none⟩ 0 (S_api_Command.cs ⟨v1, t, v3, nv, s10, zagN v6⟩)) := Ext.sets _ _ _ (Nat.le_refl _)
      have Rw14 : Row h9.size (setsH h13 ⟨h.size, 0, none⟩ 0 (S_api_Command.cs ⟨v1, t, v3, nv, s10, zagN v6⟩)) 5 1 s10 (b8 (sB t2)) := Rw13.keep fun g hg => setsH_other _ _ (by have := (Rw13.bd hg).1; dsimp only; omega)
      have sz : t.size ≤ 100000 ∧ (sB t2).length ≤ 100000 := by
        have h1 := congrArg List.length el
        have h2 := tx_len (sB t2)
        unfold cmdL at h1
        simp only [List.length_append] at h1
        have h3 : (textL t).length ≥ t.size := by rw [textL, List.length_append, sB_len]; omega
        have h4 : (tx (sB t2)).length ≥ (sB t2).length := by rw [tx, List.length_append]; omega
        omega
      exact H1 _ (sB t2) _ (((Held.of_row Rw14).mono (show h.size ≤ h9.size by omega)).imp fun h' R => ⟨R.slc, by have := R.pb; exact this, sB_isB _, ⟨v30, v31'⟩, zag_bd v60 v61'⟩) nB ⟨sz.1, sz.2⟩ ⟨v10, v11'⟩ el (X013.trans X14)
end Go.Q.Yb
