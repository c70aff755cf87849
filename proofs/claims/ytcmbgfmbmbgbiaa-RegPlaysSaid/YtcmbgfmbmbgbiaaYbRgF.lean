/- A part of the proof of statements of this seat: lemmas, no statement of their own. -/
import Derived.Test.YtcmbgfmbmbgbiaaYbRgN
set_option linter.unusedVariables false
set_option linter.unusedSimpArgs false
namespace Go.Q
namespace Yb
abbrev Ent := Int × List Int
def tx (l : List Int) : List Int := shortL l.length ++ l
def textL (t : ByteArray) : List Int := shortL t.size ++ sB t
theorem textL_len (t : ByteArray) : (textL t).length ≤ 10 + t.size := by
  have := shortL_len t.size
  simp only [textL, List.length_append, sB_len]; omega
theorem tx_len (l : List Int) : (tx l).length ≤ 10 + l.length := by
  have := shortL_len l.length
  simp only [tx, List.length_append]; omega
theorem rtext_ok' {p0 : Slc} {l : List Int} {t : ByteArray} {k : Slc → Heap → Prop} {h : Heap} (hl : p0.len = l.length) (hs : SlcAt h p0 (b8 l)) (hsz : l.length ≤ 17592186044416) (ht : t.size ≤ 17592186044416)
    (H : Lays' h (l ++ textL t) k) : reg_text p0 t k h := rtext_ok hl hs hsz ht (by rw [List.append_assoc]; exact H)
theorem textL_bs {l : List Int} (h : isB l) : textL (bsOf l) = tx l := by simp only [textL, tx, bsOf_size, sB_bsOf h]
/-- a number and its zigzag -/
def zigN (n : Int) : Int := if 0 ≤ n then 2 * n else -2 * n - 1
theorem bwXor64_ones {a : Int} (a0 : 0 ≤ a) (a1 : a < 18446744073709551616) : bwXor .u64 a 18446744073709551615 = 18446744073709551615 - a := by
  obtain ⟨m, rfl⟩ : ∃ m : Nat, a = m := ⟨a.toNat, by omega⟩
  show IntKind.u64.wrap ((BitVec.ofInt 64 (m : Int) ^^^ BitVec.ofInt 64 18446744073709551615).toNat : Int) = _
  have e : BitVec.ofInt 64 18446744073709551615 = BitVec.allOnes 64 := by decide +kernel
  have e2 : (BitVec.ofInt 64 (m : Int)).toNat = m := bv_nat 64 m (by omega)
  rw [e, BitVec.xor_allOnes, BitVec.toNat_not, e2, wU64]
  omega
theorem bwXor64_zero {a : Int} (a0 : 0 ≤ a) (a1 : a < 18446744073709551616) : bwXor .u64 a 0 = a := by
  obtain ⟨m, rfl⟩ : ∃ m : Nat, a = m := ⟨a.toNat, by omega⟩
  show IntKind.u64.wrap ((BitVec.ofInt 64 (m : Int) ^^^ BitVec.ofInt 64 0).toNat : Int) = _
  have e : BitVec.ofInt 64 0 = 0#64 := by decide +kernel
  have e2 : (BitVec.ofInt 64 (m : Int)).toNat = m := bv_nat 64 m (by omega)
  rw [e, BitVec.xor_zero, e2, wU64]
  omega
theorem Zig_ok {p : Int} {k : Int → Heap → Prop} {h : Heap} (p0 : -9223372036854775808 ≤ p) (p1 : p < 9223372036854775808) (H : k (zigN p) h) : num_Zig p k h := by
  unfold num_Zig
  refine ⟨_, rfl, ?_⟩
  have e1 : shl .u64 (IntKind.u64.wrap p) (1 : Int).toNat = (2 * p) % 18446744073709551616 := by
    unfold shl
    rw [show (2 : Int) ^ (min (1 : Int).toNat IntKind.u64.bits) = 2 from rfl, wU64, wU64]; omega
  have e2 : shr .i64 p (63 : Int).toNat = p / 9223372036854775808 := by
    unfold shr
    rw [show (2 : Int) ^ (min (63 : Int).toNat IntKind.i64.bits) = 9223372036854775808 from rfl, Int.fdiv_eq_ediv_of_nonneg _ (by omega)]
  rw [e1, e2, wU64]
  by_cases hp : 0 ≤ p
  · rw [show p / 9223372036854775808 % 18446744073709551616 = 0 from by omega, bwXor64_zero (by omega) (by omega), show 2 * p % 18446744073709551616 = zigN p from by unfold zigN; rw [if_pos hp]; omega]
    exact H
  · rw [show p / 9223372036854775808 % 18446744073709551616 = 18446744073709551615 from by omega, bwXor64_ones (by omega) (by omega), show 18446744073709551615 - 2 * p % 18446744073709551616 = zigN p from by unfold zigN; rw [if_neg hp]; omega]
    exact H
theorem zigN_bd {p : Int} (p0 : -9223372036854775808 ≤ p) (p1 : p < 9223372036854775808) : 0 ≤ zigN p ∧ zigN p < 18446744073709551616 := by unfold zigN; split <;> omega
/-! ### a command -/
def cmdL (c : S_api_Command) (wr : List Int) : List Int := [c.f_Kind % 256] ++ textL c.f_Tenant ++ formL c.f_Epoch 4 ++ nrm 12 c.f_Nonce ++ tx wr ++ formL (zigN c.f_Horizon) 8
structure CmdAt (h : Heap) (c : S_api_Command) (wr : List Int) : Prop where
  ws : SlcAt h c.f_Wrapped (b8 wr)
  wl : c.f_Wrapped.len = wr.length
  wb : isB wr
  ep : 0 ≤ c.f_Epoch ∧ c.f_Epoch < 4294967296
  hz : -9223372036854775808 ≤ c.f_Horizon ∧ c.f_Horizon < 9223372036854775808
structure CmdSm (c : S_api_Command) (wr : List Int) : Prop where
  t : c.f_Tenant.size ≤ 100000
  w : wr.length ≤ 100000
theorem CmdAt.ext {h h' : Heap} {c : S_api_Command} {wr : List Int} (A : CmdAt h c wr) (X : Ext h.size h h') : CmdAt h' c wr := ⟨A.ws.ext X, A.wl, A.wb, A.ep, A.hz⟩
theorem cmdL_len {c : S_api_Command} {wr : List Int} (S : CmdSm c wr) : (cmdL c wr).length ≤ 300000 := by
  have := textL_len c.f_Tenant; have := tx_len wr; have := S.t; have := S.w
  unfold cmdL
  simp only [List.length_append, List.length_cons, List.length_nil, formL_length, nrm_len]; omega
end Yb
end Go.Q
