/- A part of the proof of statements of this seat: lemmas, no statement of their own. -/
import Derived.Test.YthjafnfadiijgaaQZa
set_option linter.unusedVariables false
set_option linter.unusedSimpArgs false
/- All bits turned round; how much room a slice has. -/
namespace Go.Q
section
variable {P : Program} {T : Tab} {e : Env} {h : Heap} {o : Oper}
theorem y_cpl {t : Nat} {x : Operand} {n : Int} (ho : o.op = .unOp .xor t x) (hx : evO e x = some (.int .u32 n)) : Yl P e h o (.int .u32 (bwXor .u32 4294967295 n)) := by
  intro ρ w hA hw
  simp [execOp, ho, hA _ _ hx, Op.unary, Op.intBits, bwXor]
  rfl
theorem y_cap (hT : TOk P T) {t : Nat} {x : Operand} {s : Slc} {el n b : Nat} {z : List Value} (ho : o.op = .call { callee := .builtin .cap, args := #[x], argTypes := #[t] }) (hx : evO e x = some (Slc.v s)) (ht : tlk T t = some ⟨.slice el, n, b, z⟩) : Yl P e h o (.int .i64 s.cap) := by
  intro ρ w hA hw
  obtain ⟨td, k1, k3⟩ := tk_spec hT ht
  rw [ty_slice k3] at k1
  simp [execOp, ho, resolve, invoke, builtin, hA _ _ hx, Slc.v, Builtin.cap_, run_underlying k1, goInt]
/-- append of so many elements that are nothing, to a slice that has no room for them -/
theorem a_appm (hT : TOk P T) {t ts el n1 b1 n3 b3 : Nat} {z1 z3 : List Value} {i : TI} {x y : Operand} {s : Slc} {n : Int} {k : Slc → Heap → Prop}
    (ho : o.op = .call { callee := .builtin .append, args := #[x, y], argTypes := #[t, ts] }) (hx : evO e x = some s.v) (hy : evO e y = some (.int .i64 n)) (ht : tlk T t = some ⟨.slice el, n1, b1, z1⟩) (hd : tlk T ts = some ⟨.int .i64, n3, b3, z3⟩) (hi : tlk T el = some i)
    (hn : 0 ≤ n) (hg : s.cap < s.len + n.toNat) (h0 : 0 < n.toNat * i.n) (H : App el i.n i.b i.z h s n.toNat (Builtin.zeroCells i.z.toArray n.toNat).toList k) : Ya P e h o fun v h' => ∃ s', v = s'.v ∧ k s' h' := by
  intro ρ w hA hw
  subst hw
  obtain ⟨td, k1, k3⟩ := tk_spec hT ht
  rw [ty_slice k3] at k1
  obtain ⟨t3, m1, m3⟩ := tk_spec hT hd
  rw [ty_int m3] at m1
  obtain ⟨ti, i1, i2, i3, zv, i4, i5⟩ := tI hT hi
  obtain ⟨g1, g2, g3, g4, g5, g6⟩ := H
  obtain ⟨m, rfl⟩ := Int.eq_ofNat_of_zero_le hn
  simp only [Int.toNat_natCast] at *
  have hzv : zv.cells = i.z.toArray := Array.toList_inj.1 (by simpa using i5)
  obtain ⟨olds, o1, o2, o3⟩ := g6 hg
  have hroom : ¬ s.len + m ≤ s.cap := by omega
  have hge := grownCap_ge w (s.len + m) s.cap el
  have hle := grownCap_le_maxLen w (s.len + m) s.cap el g4
  have hfo := run_firstCells (P := P) (n := s.len) (sz := i.n) w.drew (s := s) o1 o2 (fun _ => .inr trivial)
  refine ⟨(⟨some ⟨w.heap.size, 0, none⟩, s.len + m, grownCap w (s.len + m) s.cap el⟩ : Slc).v, w.drew.alloc (.cells (olds.toArray ++ (Builtin.zeroCells i.z.toArray m).toList.toArray ++ Builtin.zeroCells i.z.toArray (grownCap w (s.len + m) s.cap el - (s.len + m))) el), ?_, ⟨⟨some ⟨w.heap.size, 0, none⟩, s.len + m, grownCap w (s.len + m) s.cap el⟩, rfl, ?_⟩, ?_⟩
  · exact ⟨rfl, rfl, rfl, rfl⟩
  · exact o3 _ hge hle
  · have h63 : s.len + m ≤ 9223372036854775807 := by simp only [maxLen] at g4; omega
    have hfit := growslice_fits (need := s.len + m) (old := s.cap) (bytes := i.b) (by omega) g3
    have h63' : ¬ (9223372036854775807 < ((s.len : Int) + (m : Int))) := by omega
    have h48' : ¬ (281474976710656 < Builtin.nextslicecap (s.len + m) s.cap * i.b) := by omega
    have hw : IntKind.i64.wrap (m : Int) = m := wrapI64 (by omega) (by omega)
    have hb : ¬ (281474976710656 < (m : Int) * (i.b : Int)) := by
      have h1 : m * i.b ≤ (s.len + m) * i.b := Nat.mul_le_mul_right _ (by omega)
      have h2 : ((m * i.b : Nat) : Int) = (m : Int) * (i.b : Int) := by simp
      omega
    have hneg : ¬ ((m : Int) < 0) := by omega
    have hz0 : ¬ (m = 0 ∨ i.n = 0) := fun c => by rcases c with c | c <;> rw [c] at h0 <;> simp at h0
    simp [execOp, ho, resolve, invoke, builtin, hA _ _ hx, hA _ _ hy, Builtin.append_, run_underlying k1, run_underlying m1, sizeOf, typeInfo, zeroValue, i1, i2, i3, i4, asInt, asIntOf, hw, hb, hneg, hroom, h63', h48', Question.forced, newRow, grownCap]
    simp [hfo]
    rw [hzv, if_neg (show ¬ m * i.n = 0 by omega)]

end
end Go.Q
