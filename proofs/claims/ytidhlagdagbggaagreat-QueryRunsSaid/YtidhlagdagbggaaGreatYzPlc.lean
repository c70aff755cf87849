/- A part of the proof of statements of this seat: lemmas, no statement of their own. -/
import Derived.Test.YtidhlagdagbggaaGreatYzTab
import Derived.Test.YtidhlagdagbggaaGreatQMapS
import Derived.Test.YtidhlagdagbggaaGreatQEq
set_option linter.unusedVariables false
set_option maxRecDepth 100000
set_option maxHeartbeats 1000000
/- A place is a key. -/
namespace Go.Q.Yz
instance : DecidableEq S_piece_place := fun a b => decidable_of_iff (a.f_series = b.f_series ∧ a.f_t = b.f_t) ⟨fun h => by cases a; cases b; simp only at h; rw [h.1, h.2], fun h => by subst h; exact ⟨rfl, rfl⟩⟩
theorem ba_ext {a b : ByteArray} (h : a.toList = b.toList) : a = b := by
  rw [ByteArray.toList_eq, ByteArray.toList_eq] at h
  cases a; cases b
  simp only [ByteArray.mk.injEq]
  exact Array.toList_inj.1 h
theorem place_iff (a b : S_piece_place) : a = b ↔ a.f_series = b.f_series ∧ a.f_t = b.f_t := ⟨fun h => by subst h; exact ⟨rfl, rfl⟩, fun h => by cases a; cases b; simp only at h; rw [h.1, h.2]⟩
open Go.RowKit in
theorem place_eq (a b : S_piece_place) (w : World) : (Op.equal 92 (.agg (S_piece_place.cs a).toArray) (.agg (S_piece_place.cs b).toArray)).run Go.Proofs.Tryz.prog w = .ok ((a.f_series.toList == b.f_series.toList) && (a.f_t == b.f_t)) w := by
  have hS : Go.Proofs.Tryz.prog.underlying 92 = some (.struct (Go.Proofs.Tryz.prog.fieldsOf 92)) := by kernel_rfl
  have hp : Go.Proofs.Tryz.prog.stoodInHeld 92 = false := by kernel_rfl
  have u9 := Go.Proofs.Tryz.underlying9
  have a9 : ∀ w, (isAgg 9).run Go.Proofs.Tryz.prog w = .ok false w := Go.Proofs.Tryz.isAgg9
  have u3 := Go.Proofs.Tryz.underlying2
  have a3 : ∀ w, (isAgg 2).run Go.Proofs.Tryz.prog w = .ok false w := Go.Proofs.Tryz.isAgg2
  unfold Op.equal Op.maxDepth
  rw [show (10000 : Nat) = 9999 + 1 from rfl, run_equalIn_struct w 9999 92 _ _ hS hp]
  simp only [Program.fieldsOf, Go.Proofs.Tryz.underlying92, S_piece_place.cs]
  go_simp
  by_cases h0 : (a.f_series.toList = b.f_series.toList) <;> by_cases h1 : (a.f_t = b.f_t) <;> simp [h0, h1]
theorem keyS_S_piece_place : KeyS Go.Proofs.Tryz.prog 92 (fun v : S_piece_place => Value.agg (S_piece_place.cs v).toArray) where
  und := ⟨_, Go.Proofs.Tryz.underlying92⟩
  is a b := by
    simp only [keyIs, S_piece_place.cs, keyIsL, keyIs0, Bool.and_true, decide_true, Bool.true_and]
    rw [Bool.eq_iff_iff]
    simp [place_iff]
  chk e k w := by
    have u0 := Go.Proofs.Tryz.underlying92
    have u9 := Go.Proofs.Tryz.underlying9
    have u3 := Go.Proofs.Tryz.underlying2
    have a9 : ∀ w, (isAgg 9).run Go.Proofs.Tryz.prog w = .ok false w := Go.Proofs.Tryz.isAgg9
    have a3 : ∀ w, (isAgg 2).run Go.Proofs.Tryz.prog w = .ok false w := Go.Proofs.Tryz.isAgg2
    have h9 : ∀ s, (Instr.checkKey e (9998 + 1) 9 (.string s)).run Go.Proofs.Tryz.prog w = .ok () w := fun s => MapKept.run_checkKey (k := .string s) u9 trivial e 9998
    have h3 : ∀ n, (Instr.checkKey e (9998 + 1) 2 (.int .i64 n)).run Go.Proofs.Tryz.prog w = .ok () w := fun n => MapKept.run_checkKey (k := .int .i64 n) u3 rfl e 9998
    rw [show (10000 : Nat) = (9998 + 1) + 1 from rfl, Instr.checkKey]
    generalize hN : 9998 + 1 = N at h9 h3 ⊢
    simp [run_underlying u0, S_piece_place.cs, part, a9, a3, h9, h3, Result.andThen]
  eq a b w := by
    rw [place_eq]
    congr 1
    rw [Bool.eq_iff_iff]
    simp [place_iff]
    intro _
    exact ⟨fun h => ba_ext h, fun h => by rw [h]⟩
  st k w := by
    simp [Instr.keyThatStays, Instr.sameBits, S_piece_place.cs, MapKept.bytes_beq]
end Go.Q.Yz
