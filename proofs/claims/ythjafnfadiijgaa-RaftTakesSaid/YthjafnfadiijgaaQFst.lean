/- A part of the proof of statements of this seat: lemmas, no statement of their own. -/
import Derived.Test.YthjafnfadiijgaaQZa
set_option linter.unusedVariables false
/- Methods as values: what is bound stands first. -/
namespace Go.Q
theorem arrcat3 (a b c : List Value) : a.toArray ++ b.toArray ++ c.toArray = (a ++ b ++ c).toArray := by simp
theorem w_callf {c : Cx} {lops : List Oper} {Q : Exit → Act → World → Prop} {K : Act → World → Prop} {l : List Oper} {e : Env} {h : Heap} {o : Oper} {f : FuncId} {x : Operand} {as : List Operand} {ts : Array TypeId} {vs cap fs : List Value} {Φ : Value → Heap → Prop}
    (hf : CallOk c.P f) (hc : CallsH c.P f (fs ++ vs ++ cap).toArray h Φ) (ho : o.op = .call { callee := .value x, args := as.toArray, argTypes := ts }) (hx : evO e x = some (.func (.func f) fs.toArray cap.toArray)) (hv : evs e as = some vs) (hw : wnt lops e o = some true) (hd : dOk c.N o.dst = true)
    (H : ∀ v h', Φ v h' → gop c lops Q K l (pu e o.dst v) h') : gop c lops Q K (o :: l) e h := by
  have := y_call (P := c.P) (e := e) (o := o) hf ho hx hv
  rw [arrcat3] at this
  exact w_c hc this hw hd H
theorem y_mkff {P : Program} {e : Env} {h : Heap} {o : Oper} {fn : Fn} {fs as : List Operand} {us vs : List Value} (ho : o.op = .makeFunc fn fs.toArray as.toArray) (hu : evs e fs = some us) (hv : evs e as = some vs) : Yl P e h o (.func fn us.toArray vs.toArray) := by
  intro ρ w hA hw
  have hm := evs_map hA _ _ hv
  have hn := evs_map hA _ _ hu
  simp [execOp, ho, Instr.makeFunc, hm, hn]
end Go.Q
