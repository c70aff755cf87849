/- A part of the proof of statements of this seat: lemmas, no statement of their own. -/
import Derived.Test.YtidhlagdagbggaaGreatQEq
import Derived.Shelf.Spec.BitsCarry
/- Sums with a carry: a call of what has no Go text. -/
namespace Go.Q
open Go.Proofs
theorem add_run {P : Program} {f : FuncId} {fn : Func} (x y c : Int) (hf : P.funcs[f]? = some fn) (hname : (fn.name == "runtime.NumGoroutine") = false) (hb : fn.body.isNone = true) (hn : Extern.findNext fn = none) (he : Extern.find fn = some add64Entry)
    (h0 : 0 ≤ x ∧ 0 ≤ y ∧ 0 ≤ c ∧ c ≤ 1) (w : World) :
    (callFunc f [.int .u64 x, .int .u64 y, .int .u64 c].toArray).run P w = .ok (.value (.tuple #[.int .u64 ((x + y + c) % 18446744073709551616), .int .u64 ((x + y + c) / 18446744073709551616)])) w := by
  obtain ⟨a0, a1, a2, a3⟩ := h0
  obtain ⟨n, rfl⟩ := Int.eq_ofNat_of_zero_le a0
  obtain ⟨m, rfl⟩ := Int.eq_ofNat_of_zero_le a1
  obtain ⟨k, rfl⟩ := Int.eq_ofNat_of_zero_le a2
  rw [run_callFunc_extern hf hname hb hn he]
  have e : (add64Entry [Value.int .u64 (n : Int), .int .u64 (m : Int), .int .u64 (k : Int)].toArray).run P w = .ok (.tuple #[.int .u64 (((n + m + k) % 18446744073709551616 : Nat) : Int), .int .u64 (((n + m + k) / 18446744073709551616 : Nat) : Int)]) w := by
    have : k = 0 ∨ k = 1 := by omega
    rcases this with rfl | rfl <;> rfl
  rw [e]
  simp [Result.andThen]
end Go.Q
