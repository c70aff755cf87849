/- A part of the proof of statements of this seat: lemmas, no statement of their own. -/
import Derived.Test.YtidhlagdagbggaaGreatQStr
import Derived.Test.YtidhlagdagbggaaGreatQDraw2
/- A call of a function value in a region that draws its order. -/
namespace Go.Q
set_option linter.unusedVariables false
section
variable {c : Cx} {lops : List Oper} {Q : Exit → Act → World → Prop} {done dead : List Nat} {pend : List Pn} {e : Env} {h : Heap}
theorem sim_cv (i : Nat) (A dead' : List Nat) {o : Oper} {f : FuncId} {x : Operand} {as : List Operand} {ts : Array TypeId} {vs cap : List Value} {Φ : Value → Heap → Prop} {ei : Env} (hf : CallOk c.P f) (hc : CallsHD c.D c.P f (vs ++ cap).toArray h Φ) (hwf : wfR lops = true) (hp : PFs c lops h dead pend) (hside : sideE lops done dead dead' A i = true) (hs : Sub ei e) (hk : slotsOk lops done i ei = true)
    (hoi : lops[i]? = some o) (hdk : dOk c.N o.dst = true) (hw : wnt lops ei o = some true) (ho : o.op = .call { callee := .value x, args := as.toArray, argTypes := ts }) (hx : evO ei x = some (.func (.func f) #[] cap.toArray)) (hv : evs ei as = some vs)
    (H : ∀ v h', Φ v h' → Sim c lops Q (i :: done) dead' pend (pu e o.dst v) h') : Sim c lops Q done dead pend e h := by
  have := y_call (P := c.P) (e := ei) (o := o) hf ho hx hv
  rw [arrcat] at this
  exact sim_e i A dead' hwf hp hside hs hk hoi hdk hw (YE.of_c hc this) H
theorem sim_cv0 (i : Nat) (A dead' : List Nat) {o : Oper} {f : FuncId} {x : Operand} {as : List Operand} {ts : Array TypeId} {vs : List Value} {Φ : Value → Heap → Prop} {ei : Env} (hf : CallOk c.P f) (hc : CallsHD c.D c.P f vs.toArray h Φ) (hwf : wfR lops = true) (hp : PFs c lops h dead pend) (hside : sideE lops done dead dead' A i = true) (hs : Sub ei e) (hk : slotsOk lops done i ei = true)
    (hoi : lops[i]? = some o) (hdk : dOk c.N o.dst = true) (hw : wnt lops ei o = some true) (ho : o.op = .call { callee := .value x, args := as.toArray, argTypes := ts }) (hx : evO ei x = some (.func (.func f) #[] #[])) (hv : evs ei as = some vs)
    (H : ∀ v h', Φ v h' → Sim c lops Q (i :: done) dead' pend (pu e o.dst v) h') : Sim c lops Q done dead pend e h :=
  sim_cv (cap := []) i A dead' hf (by rw [List.append_nil]; exact hc) hwf hp hside hs hk hoi hdk hw ho hx hv H
end
end Go.Q
