/- A part of the proof of statements of this seat: lemmas, no statement of their own. -/
import Derived.Test.YtidhlagdagbggaaGreatQStr
import Derived.Laws.StructEq
import Derived.Laws.Externs
import Derived.Lib.Bytealg
/- Structs held against each other; calls of what has no Go text. -/
namespace Go.Q
set_option linter.unusedVariables false
set_option linter.unusedSimpArgs false
section
variable {P : Program} {T : Tab} {e : Env} {h : Heap} {o : Oper}
theorem y_eqs {op : BinOp} {t yt : Nat} {x y : Operand} {xs ys : List Value} {b : Bool} (hop : op = .eql ∨ op = .neq) (ho : o.op = .binOp op t x y yt) (hx : evO e x = some (.agg xs.toArray)) (hy : evO e y = some (.agg ys.toArray))
    (heq : ∀ w, (Op.equal t (.agg xs.toArray) (.agg ys.toArray)).run P w = .ok b w) (hg : P.eqGuardType P.depth t = false) : Yl P e h o (.bool (if op = .eql then b else !b)) := by
  intro ρ w hA hw
  have gd := fun op x y => run_eqGuard_agg (P := P) w op t x y xs.toArray ys.toArray hg
  rcases hop with rfl | rfl
  · simp [execOp, ho, hA _ _ hx, hA _ _ hy, gd, binOp, heq]
  · simp [execOp, ho, hA _ _ hx, hA _ _ hy, gd, binOp, heq]
theorem y_ext {f : FuncId} {as : List Operand} {ts : Array TypeId} {vs : List Value} {v : Value} (hf : ∀ w, (callFunc f vs.toArray).run P w = .ok (.value v) w) (ho : o.op = .call { callee := .value (.func f), args := as.toArray, argTypes := ts }) (hv : evs e as = some vs) : Yl P e h o v := by
  intro ρ w hA hw
  have hm := evs_map hA _ _ hv
  simp [execOp, ho, resolve, hA (.func f) (.func (.func f) #[] #[]) rfl, Deferred.ofValue, invoke, hm, hf]
theorem ibs_run {f : FuncId} {fn : Func} (s : ByteArray) (c : Int) (hf : P.funcs[f]? = some fn) (hname : (fn.name == "runtime.NumGoroutine") = false) (hb : fn.body.isNone = true) (hn : Extern.findNext fn = none) (he : Extern.find fn = some Extern.BytealgIndexByte.indexByte) (w : World) :
    (callFunc f [.string s, .int .u8 c].toArray).run P w = .ok (.value (.int .i64 (Lib.indexByte s.data.toList c.toNat.toUInt8))) w := by
  rw [run_callFunc_extern hf hname hb hn he]
  rw [show ([.string s, .int .u8 c] : List Value).toArray = #[.string s, .int .u8 c] from rfl, Lib.run_indexByteString]
  rfl
end
end Go.Q
