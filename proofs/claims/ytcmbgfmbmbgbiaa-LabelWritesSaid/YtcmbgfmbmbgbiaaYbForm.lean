/- A part of the proof of statements of this seat: lemmas, no statement of their own. -/
import Derived.Test.YtcmbgfmbmbgbiaaYbNum
set_option linter.unusedVariables false
set_option linter.unusedSimpArgs false
namespace Go.Q
namespace Yb
abbrev Ent := Int × List Int
def tx (l : List Int) : List Int := shortL l.length ++ l
def textL (t : ByteArray) : List Int := shortL t.size ++ sB t
theorem textL_len (t : ByteArray) : (textL t).length ≤ 10 + t.size := by
  have := shortL_len t.size
  simp only [textL, List.length_append, sB_len]; omega
theorem tx_len (l : List Int) : (tx l).length ≤ 10 + l.length := by
  have := shortL_len l.length
  simp only [tx, List.length_append]; omega
theorem text_ok' {p0 : Slc} {l : List Int} {t : ByteArray} {k : Slc → Heap → Prop} {h : Heap} (hl : p0.len = l.length) (hs : SlcAt h p0 (b8 l)) (hsz : l.length ≤ 17592186044416) (ht : t.size ≤ 17592186044416)
    (H : Lays' h (l ++ textL t) k) : pack_text p0 t k h := text_ok hl hs hsz ht (by rw [List.append_assoc]; exact H)
theorem rtext_ok' {p0 : Slc} {l : List Int} {t : ByteArray} {k : Slc → Heap → Prop} {h : Heap} (hl : p0.len = l.length) (hs : SlcAt h p0 (b8 l)) (hsz : l.length ≤ 17592186044416) (ht : t.size ≤ 17592186044416)
    (H : Lays' h (l ++ textL t) k) : reg_text p0 t k h := rtext_ok hl hs hsz ht (by rw [List.append_assoc]; exact H)
theorem btext_ok' {p0 p1 : Slc} {l t : List Int} {k : Slc → Heap → Prop} {h : Heap} (hl : p0.len = l.length) (hs : SlcAt h p0 (b8 l)) (hsz : l.length ≤ 17592186044416) (tl : p1.len = t.length) (ts : SlcAt h p1 (b8 t)) (ht : t.length ≤ 17592186044416)
    (H : Lays' h (l ++ tx t) k) : raft_text p0 p1 k h := btext_ok hl hs hsz tl ts ht (by rw [List.append_assoc]; exact H)
theorem textL_bs {l : List Int} (h : isB l) : textL (bsOf l) = tx l := by simp only [textL, tx, bsOf_size, sB_bsOf h]
/-- a number and its zigzag -/
def zigN (n : Int) : Int := if 0 ≤ n then 2 * n else -2 * n - 1
theorem bwXor64_ones {a : Int} (a0 : 0 ≤ a) (a1 : a < 18446744073709551616) : bwXor .u64 a 18446744073709551615 = 18446744073709551615 - a := by
  obtain ⟨m, rfl⟩ : ∃ m : Nat, a = m := ⟨a.toNat, by omega⟩
  show IntKind.u64.wrap ((BitVec.ofInt 64 (m : Int) ^^^ BitVec.ofInt 64 18446744073709551615).toNat : Int) = _
  have e : BitVec.ofInt 64 18446744073709551615 = BitVec.allOnes 64 := by decide +kernel
  have e2 : (BitVec.ofInt 64 (m : Int)).toNat = m := bv_nat 64 m (by omega)
  rw [e, BitVec.xor_allOnes, BitVec.toNat_not, e2, wU64]
  omega
theorem bwXor64_zero {a : Int} (a0 : 0 ≤ a) (a1 : a < 18446744073709551616) : bwXor .u64 a 0 = a := by
  obtain ⟨m, rfl⟩ : ∃ m : Nat, a = m := ⟨a.toNat, by omega⟩
  show IntKind.u64.wrap ((BitVec.ofInt 64 (m : Int) ^^^ BitVec.ofInt 64 0).toNat : Int) = _
  have e : BitVec.ofInt 64 0 = 0#64 := by decide +kernel
  have e2 : (BitVec.ofInt 64 (m : Int)).toNat = m := bv_nat 64 m (by omega)
  rw [e, BitVec.xor_zero, e2, wU64]
  omega
theorem Zig_ok {p : Int} {k : Int → Heap → Prop} {h : Heap} (p0 : -9223372036854775808 ≤ p) (p1 : p < 9223372036854775808) (H : k (zigN p) h) : num_Zig p k h := by
  unfold num_Zig
  refine ⟨_, rfl, ?_⟩
  have e1 : shl .u64 (IntKind.u64.wrap p) (1 : Int).toNat = (2 * p) % 18446744073709551616 := by
    unfold shl
    rw [show (2 : Int) ^ (min (1 : Int).toNat IntKind.u64.bits) = 2 from rfl, wU64, wU64]; omega
  have e2 : shr .i64 p (63 : Int).toNat = p / 9223372036854775808 := by
    unfold shr
    rw [show (2 : Int) ^ (min (63 : Int).toNat IntKind.i64.bits) = 9223372036854775808 from rfl, Int.fdiv_eq_ediv_of_nonneg _ (by omega)]
  rw [e1, e2, wU64]
  by_cases hp : 0 ≤ p
  · rw [show p / 9223372036854775808 % 18446744073709551616 = 0 from by omega, bwXor64_zero (by omega) (by omega), show 2 * p % 18446744073709551616 = zigN p from by unfold zigN; rw [if_pos hp]; omega]
    exact H
  · rw [show p / 9223372036854775808 % 18446744073709551616 = 18446744073709551615 from by omega, bwXor64_ones (by omega) (by omega), show 18446744073709551615 - 2 * p % 18446744073709551616 = zigN p from by unfold zigN; rw [if_neg hp]; omega]
    exact H
theorem zigN_bd {p : Int} (p0 : -9223372036854775808 ≤ p) (p1 : p < 9223372036854775808) : 0 ≤ zigN p ∧ zigN p < 18446744073709551616 := by unfold zigN; split <;> omega
/-! ### a command -/
def cmdL (c : S_api_Command) (wr : List Int) : List Int := [c.f_Kind % 256] ++ textL c.f_Tenant ++ formL c.f_Epoch 4 ++ nrm 12 c.f_Nonce ++ tx wr ++ formL (zigN c.f_Horizon) 8
structure CmdAt (h : Heap) (c : S_api_Command) (wr : List Int) : Prop where
  ws : SlcAt h c.f_Wrapped (b8 wr)
  wl : c.f_Wrapped.len = wr.length
  wb : isB wr
  ep : 0 ≤ c.f_Epoch ∧ c.f_Epoch < 4294967296
  hz : -9223372036854775808 ≤ c.f_Horizon ∧ c.f_Horizon < 9223372036854775808
structure CmdSm (c : S_api_Command) (wr : List Int) : Prop where
  t : c.f_Tenant.size ≤ 100000
  w : wr.length ≤ 100000
theorem CmdAt.ext {h h' : Heap} {c : S_api_Command} {wr : List Int} (A : CmdAt h c wr) (X : Ext h.size h h') : CmdAt h' c wr := ⟨A.ws.ext X, A.wl, A.wb, A.ep, A.hz⟩
theorem cmdL_len {c : S_api_Command} {wr : List Int} (S : CmdSm c wr) : (cmdL c wr).length ≤ 300000 := by
  have := textL_len c.f_Tenant; have := tx_len wr; have := S.t; have := S.w
  unfold cmdL
  simp only [List.length_append, List.length_cons, List.length_nil, formL_length, nrm_len]; omega
theorem rPut_ok {c : S_api_Command} {wr : List Int} {k : Slc → Heap → Prop} {h : Heap} (A : CmdAt h c wr) (S : CmdSm c wr) (H : Lays' h (cmdL c wr) k) : reg_Put c k h := by
  have b1 := textL_len c.f_Tenant; have b2 := tx_len wr; have b3 := S.t; have b4 := S.w
  unfold reg_Put
  refine ⟨_, _, rfl, rfl, ?_⟩
  have P := Blk.push h (S_api_Command.cs c) 32
  have W := Ext.push h (.cells (S_api_Command.cs c).toArray 32) (Nat.le_refl _)
  obtain ⟨h2, e2⟩ : ∃ y, y = h.push (.cells (S_api_Command.cs c).toArray 32) := ⟨_, rfl⟩
  rw [← e2] at P W ⊢
  have pl := P.lt
  have A2 := A.ext W
  have z2 := W.size
  refine ⟨_, by rw [P.cell]; rfl, _, by rw [add_mk, P.cell]; rfl, _, by rw [add_mk, P.cell]; rfl, _, _, rfl, rfl, ?_⟩
  have Q := Blk.push h2 (b8 [c.f_Kind % 256]) 5
  have W3 := Ext.push h2 (.cells (b8 [c.f_Kind % 256]).toArray 5) (Nat.le_refl _)
  rw [wU8]
  obtain ⟨h3, e3⟩ : ∃ y, y = h2.push (.cells (b8 [c.f_Kind % 256]).toArray 5) := ⟨_, rfl⟩
  rw [show (Value.int .u8 (c.f_Kind % 256)) :: [] = b8 [c.f_Kind % 256] from rfl, ← e3]
  rw [← e3] at Q W3
  have R3 : Row h2.size h3 5 1 ⟨some ⟨h2.size, 0, none⟩, 1, 1⟩ (b8 [c.f_Kind % 256]) := Row.of_blk (zs := []) (by simpa using Q) (Nat.le_refl _) rfl rfl (by simp [maxLen])
  have X3 : Ext h2.size h2 h3 := W3
  have z3 := X3.size
  have P3 := P.ext X3 pl
  refine ⟨by rw [add_mk, P3.cell]; rfl, by rw [add_mk, P3.cell]; rfl, ?_⟩
  refine rtext_ok' R3.pb R3.slc (by simp only [List.length_append, List.length_cons, List.length_nil, formL_length, sB_len, nrm_len]; omega) (by omega) fun s4 h4 R4 Y4 => ?_
  have X4 := X3.trans (Y4.mono z3)
  have z4 := X4.size
  have P4 := P.ext X4 pl
  refine ⟨by rw [add_mk, P4.cell]; rfl, ?_⟩
  rw [wrapU64 (x := c.f_Epoch) (by have := A.ep; omega) (by have := A.ep; omega)]
  refine Put_ok R4.pb R4.slc (by simp only [List.length_append, List.length_cons, List.length_nil, formL_length, sB_len, nrm_len]; omega) (by omega) (by omega) A.ep.1 fun s5 h5 R5 Y5 => ?_
  have X5 := X4.trans (Y5.mono z4)
  have z5 := X5.size
  have P5 := P.ext X5 pl
  have A5 := A2.ext X5
  have R5' : Row h2.size h5 5 1 s5 _ := R5.mono z4
  refine ⟨_, by omega, by omega, by omega, rfl, _, by rw [add_mk, P5.cell]; rfl, wr, A5.wl.symm, A5.ws, ?_⟩
  have N5 : SlcAt h5 (subS ⟨some ((⟨h.size, 0, none⟩ : Addr).add 3), 12, 12⟩ 1 (0 : Int).toNat (12 : Int).toNat 12) (b8 (nrm 12 c.f_Nonce)) := by
    have : (subS ⟨some ((⟨h.size, 0, none⟩ : Addr).add 3), 12, 12⟩ 1 (0 : Int).toNat (12 : Int).toNat 12) = ⟨some ⟨h.size, 3, none⟩, 12, 12⟩ := by simp [subS]
    rw [this]
    refine P5.slc (n := 12) ?_
    rw [show b8 (nrm 12 c.f_Nonce) = arr 12 .u8 c.f_Nonce from (arr_nrm _ _ _).symm]
    rfl
  refine ⟨_, N5, ?_⟩
  refine AppB R5' z5 (by rw [nrm_len]; rfl) (by simp only [List.length_append, List.length_cons, List.length_nil, formL_length, sB_len, nrm_len]; omega) fun s6 h6 R6 Y6 => ?_
  have X6 := X5.trans Y6
  have z6 := X6.size
  have P6 := P.ext X6 pl
  have A6 := A2.ext X6
  refine ⟨A6.ws, by rw [add_mk, P6.cell]; rfl, ?_⟩
  refine rtext_ok' R6.pb R6.slc (by simp only [List.length_append, List.length_cons, List.length_nil, formL_length, sB_len, nrm_len]; omega) (by rw [bsOf_size]; omega) fun s7 h7 R7 Y7 => ?_
  rw [textL_bs A.wb] at R7
  have X7 := X6.trans (Y7.mono z6)
  have z7 := X7.size
  have P7 := P.ext X7 pl
  refine ⟨_, by rw [add_mk, P7.cell]; rfl, Zig_ok A.hz.1 A.hz.2 ?_⟩
  refine Put_ok R7.pb R7.slc (by simp only [List.length_append, List.length_cons, List.length_nil, formL_length, sB_len, nrm_len]; omega) (by omega) (by omega) (zigN_bd A.hz.1 A.hz.2).1 fun s8 h8 R8 Y8 => ?_
  refine H s8 h8 ?_ (W.trans ((X7.trans (Y8.mono z7)).mono z2))
  exact R8.mono (by omega)
end Yb
end Go.Q
