/- A part of the proof of statements of this seat: lemmas, no statement of their own. -/
import Derived.Test.YtidhlagdagbggaaGreatQConv
import Derived.Test.YtidhlagdagbggaaGreatQPure
import Derived.Test.YtidhlagdagbggaaGreatQArr
import Derived.Laws.BytesString
/- Strings and slices of bytes; copy. -/
namespace Go.Q
set_option linter.unusedVariables false
set_option linter.unusedSimpArgs false
section
variable {P : Program} {T : Tab} {e : Env} {h : Heap} {o : Oper}
end
/-! ### arrays of numbers, each place written out -/
def arrG (k : IntKind) (l : List Int) : Nat → Nat → List Value
  | 0, _ => []
  | n + 1, i => Value.int k (l.getD i 0) :: arrG k l n (i + 1)
def arr (n : Nat) (k : IntKind) (l : List Int) : List Value := arrG k l n 0
def nrm (n : Nat) (l : List Int) : List Int := (List.range n).map fun i => l.getD i 0
theorem arrG_map (k : IntKind) (l : List Int) : ∀ n i, arrG k l n i = (List.range n).map fun j => Value.int k (l.getD (i + j) 0)
  | 0, i => rfl
  | n + 1, i => by
    rw [arrG, arrG_map k l n (i + 1), List.range_succ_eq_map]
    simp only [List.map_cons, List.map_map, Nat.add_zero]
    congr 1
    apply List.map_congr_left
    intro j _
    simp only [Function.comp, Nat.succ_eq_add_one]
    rw [show i + 1 + j = i + (j + 1) from by omega]
theorem arr_nrm (n : Nat) (k : IntKind) (l : List Int) : arr n k l = (nrm n l).map (Value.int k) := by
  rw [arr, arrG_map, nrm, List.map_map]
  apply List.map_congr_left
  intro j _
  simp
theorem nrm_len (n : Nat) (l : List Int) : (nrm n l).length = n := by simp [nrm]
theorem nrm_get (n : Nat) (l : List Int) {i : Nat} (hi : i < n) : (nrm n l)[i]? = some (l.getD i 0) := by
  simp [nrm, hi]
theorem nrm_id {n : Nat} {l : List Int} (h : l.length = n) : nrm n l = l := by
  apply List.ext_getElem?
  intro i
  by_cases hi : i < n
  · rw [nrm_get n l hi, List.getElem?_eq_getElem (by omega), List.getD_eq_getElem?_getD, List.getElem?_eq_getElem (by omega)]; rfl
  · rw [List.getElem?_eq_none (by rw [nrm_len]; omega), List.getElem?_eq_none (by omega)]
theorem arr_id {n : Nat} {k : IntKind} {l : List Int} (h : l.length = n) : arr n k l = l.map (Value.int k) := by rw [arr_nrm, nrm_id h]
theorem oneC {l : List Value} (h : l.all (fun v => v.oneCell') = true) : ∀ v ∈ l, v.oneCell' = true := fun v hv => List.all_eq_true.1 h v hv
section
variable {P : Program} {T : Tab} {e : Env} {h : Heap} {o : Oper}
end
/-! ### functions as values -/
theorem arrcat (vs cap : List Value) : (#[] ++ vs.toArray ++ cap.toArray : Array Value) = (vs ++ cap).toArray := by simp
theorem w_callv {c : Cx} {lops : List Oper} {Q : Exit → Act → World → Prop} {K : Act → World → Prop} {l : List Oper} {e : Env} {h : Heap} {o : Oper} {f : FuncId} {x : Operand} {as : List Operand} {ts : Array TypeId} {vs cap : List Value} {Φ : Value → Heap → Prop}
    (hf : CallOk c.P f) (hc : CallsHD c.D c.P f (vs ++ cap).toArray h Φ) (ho : o.op = .call { callee := .value x, args := as.toArray, argTypes := ts }) (hx : evO e x = some (.func (.func f) #[] cap.toArray)) (hv : evs e as = some vs) (hw : wnt lops e o = some true) (hd : dOk c.N o.dst = true)
    (H : ∀ v h', Φ v h' → gop c lops Q K l (pu e o.dst v) h') : gop c lops Q K (o :: l) e h := by
  have := y_call (P := c.P) (e := e) (o := o) hf ho hx hv
  rw [arrcat] at this
  exact w_c hc this hw hd H
theorem y_mkf {P : Program} {e : Env} {h : Heap} {o : Oper} {fn : Fn} {as : List Operand} {vs : List Value} (ho : o.op = .makeFunc fn #[] as.toArray) (hv : evs e as = some vs) : Yl P e h o (.func fn #[] vs.toArray) := by
  intro ρ w hA hw
  have hm := evs_map hA _ _ hv
  simp [execOp, ho, Instr.makeFunc, hm]
end Go.Q
