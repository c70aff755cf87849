/- A part of the proof of statements of this seat: lemmas, no statement of their own. -/
import Derived.Test.YtidhlagdagbggaaGreatQOps
import Derived.Laws.IdiomCopy
/- The operations that read or turn the heap. -/
namespace Go.Q
set_option linter.unusedVariables false
set_option linter.unusedSimpArgs false
def cellH (h : Heap) (a : Addr) : Option Value :=
  match h[a.block]? with
  | some (.cells c _ _) => if a.spot.isSome then none else c[a.off]?
  | _ => none
def frozH (h : Heap) (a : Addr) : Bool :=
  match h[a.block]? with
  | some (.cells _ _ (lo, hi)) => lo ≤ a.off && a.off < hi
  | _ => false
def setH (h : Heap) (a : Addr) (v : Value) : Heap := h.modify a.block fun
  | .cells c elem frozen => .cells (if a.spot.isSome then c else c.setIfInBounds a.off v) elem frozen
  | o => o
def setsH (h : Heap) (a : Addr) : Nat → List Value → Heap
  | _, [] => h
  | i, v :: r => setsH (setH h (a.add i) v) a (i + 1) r
/-- a cell that may be written -/
def WrH (h : Heap) (a : Addr) : Prop := (∃ u, cellH h a = some u) ∧ frozH h a = false
def CellsAt (h : Heap) (a : Addr) (vs : List Value) : Prop := ∀ j v, vs[j]? = some v → cellH h (a.add j) = some v
def WrsAt (h : Heap) (a : Addr) (n : Nat) : Prop := ∀ j, j < n → WrH h (a.add j)
theorem cell_eq (w : World) (a : Addr) : w.cell? a = cellH w.heap a := rfl
theorem froz_eq (w : World) (a : Addr) : w.frozen? a = frozH w.heap a := rfl
theorem set_heap (w : World) (a : Addr) (v : Value) : (w.setCell a v).heap = setH w.heap a v := rfl
theorem WW.set {D : Bool} (w : World) (a : Addr) (v : Value) : WW D w (setH w.heap a v) (w.setCell a v) := ⟨rfl, rfl, rfl, rfl, fun _ => by first | exact Nat.le_refl _ | exact Nat.le_succ _⟩
section
variable {P : Program} {T : Tab} {e : Env} {h : Heap} {o : Oper}
theorem y_ld (hT : TOk P T) {t : Nat} {x : Operand} {a : Addr} {v : Value} {i : TI} (ho : o.op = .load t x) (hx : evO e x = some (.pointer (some a))) (ht : tlk T t = some i) (hi : isA i.d = false) (hc : cellH h a = some v) : Yl P e h o v := by
  intro ρ w hA hw
  subst hw
  simp [execOp, ho, hA _ _ hx, Instr.loadAt, Instr.sureAddr, loadVar, run_isAgg (hT _ _ ht), hi, load, Sem.run, cell_eq, hc]
theorem y_lda (hT : TOk P T) {t : Nat} {x : Operand} {a : Addr} {vs : List Value} {i : TI} (ho : o.op = .load t x) (hx : evO e x = some (.pointer (some a))) (ht : tlk T t = some i) (hi : isA i.d = true) (hn : vs.length = i.n) (hc : CellsAt h a vs) : Yl P e h o (.agg vs.toArray) := by
  intro ρ w hA hw
  subst hw
  have := run_loadCells_list (P := P) (w := w) a vs hc
  rw [hn] at this
  simp [execOp, ho, hA _ _ hx, Instr.loadAt, Instr.sureAddr, loadVar, run_isAgg (hT _ _ ht), hi, run_sizeOf' (hT _ _ ht), this]
theorem y_ixa (hT : TOk P T) {t el : Nat} {x y : Operand} {a : Addr} {len cap : Nat} {k : IntKind} {ix : Int} {n1 b1 : Nat} {z1 : List Value} {i : TI} (ho : o.op = .indexAddr t x y) (hx : evO e x = some (.slice (some a) len cap)) (hy : evO e y = some (.int k ix))
    (ht : tlk T t = some ⟨.slice el, n1, b1, z1⟩) (hi : tlk T el = some i) (h0 : 0 ≤ ix) (h1 : ix < len) : Yl P e h o (.pointer (some (a.add (ix.toNat * i.n)))) := by
  intro ρ w hA hw
  obtain ⟨td, k1, k3⟩ := tk_spec hT ht
  rw [ty_slice k3] at k1
  simp [execOp, ho, hA _ _ hx, hA _ _ hy, Instr.indexAt, asIntOf, run_underlying k1, h0, h1, run_sizeOf' (hT _ _ hi)]
theorem y_ixa' (hT : TOk P T) {t el : Nat} {x y : Operand} {a : Addr} {base : Option Addr} {len cap : Nat} {k : IntKind} {ix : Int} {n1 b1 : Nat} {z1 : List Value} {i : TI} (ho : o.op = .indexAddr t x y) (hx : evO e x = some (.slice base len cap)) (hb : base = some a) (hy : evO e y = some (.int k ix))
    (ht : tlk T t = some ⟨.slice el, n1, b1, z1⟩) (hi : tlk T el = some i) (h0 : 0 ≤ ix) (h1 : ix < len) : Yl P e h o (.pointer (some (a.add (ix.toNat * i.n)))) := by
  subst hb; exact y_ixa hT ho hx hy ht hi h0 h1
/-- s[i], s a string -/
theorem y_ixs (hT : TOk P T) {t : Nat} {x y : Operand} {s : ByteArray} {k : IntKind} {ix : Int} {n1 b1 : Nat} {z1 : List Value} (ho : o.op = .index t x y) (hx : evO e x = some (.string s)) (hy : evO e y = some (.int k ix))
    (ht : tlk T t = some ⟨.string, n1, b1, z1⟩) (h0 : 0 ≤ ix) (h1 : ix.toNat < s.size) : Yl P e h o (.int .u8 (s[ix.toNat]'h1).toNat) := by
  intro ρ w hA hw
  obtain ⟨td, k1, k3⟩ := tk_spec hT ht
  rw [ty_string k3] at k1
  simp [execOp, ho, hA _ _ hx, hA _ _ hy, Instr.index, asIntOf, run_underlying k1, h0, h1]
def StrAt (s : ByteArray) (ix v : Int) : Prop := ∃ h : ix.toNat < s.size, v = ((s[ix.toNat]'h).toNat : Int)
theorem y_ixs' (hT : TOk P T) {t : Nat} {x y : Operand} {s : ByteArray} {k : IntKind} {ix v : Int} {n1 b1 : Nat} {z1 : List Value} (ho : o.op = .index t x y) (hx : evO e x = some (.string s)) (hy : evO e y = some (.int k ix))
    (ht : tlk T t = some ⟨.string, n1, b1, z1⟩) (h0 : 0 ≤ ix) (hs : StrAt s ix v) : Yl P e h o (.int .u8 v) := by
  obtain ⟨h1, rfl⟩ := hs; exact y_ixs hT ho hx hy ht h0 h1
theorem h_st (hT : TOk P T) {t : Nat} {x y : Operand} {a : Addr} {v : Value} {i : TI} (ho : o.op = .store t x y) (hx : evO e x = some (.pointer (some a))) (hy : evO e y = some v) (ht : tlk T t = some i) (hn : Nat.beq i.n 1 = true) (hv : v.oneCell' = true) {h' : Heap} (hc : WrH h a) (he : h' = setH h a v) : Yh P e h o undef h' := by
  intro ρ w hA hw
  subst he
  subst hw
  obtain ⟨⟨u, hu⟩, hf⟩ := hc
  refine ⟨_, WW.set w a v, .inr ⟨?_, rfl⟩⟩
  have hn' := Nat.eq_of_beq_eq_true hn
  have hcs : v.cells = #[v] := by cases v <;> first | rfl | (simp [Value.oneCell'] at hv)
  have hst := run_store P w a v .plain hv
  simp [execOp, ho, hA _ _ hx, hA _ _ hy, Instr.storeAt, Instr.sureAddr, storeVar, hcs, run_sizeOf' (hT _ _ ht), hn', storeCells]
  rw [show a.add 0 = a from rfl, hst]
  simp [cell_eq, froz_eq, hu, hf]
theorem h_box {t : Nat} {x : Operand} {v : Value} {b : Nat} {h' : Heap} (ho : o.op = .box t x) (hx : evO e x = some v) (hb : b = h.size) (he : h' = h.push (.cells v.cells t)) : Yh P e h o (.pointer (some ⟨b, 0, none⟩)) h' := by
  intro ρ w hA hw
  subst hb; subst he
  subst hw
  exact ⟨{ w with heap := w.heap.push (.cells v.cells t) }, ⟨rfl, rfl, rfl, rfl, fun _ => by first | exact Nat.le_refl _ | exact Nat.le_succ _⟩, .inl (by simp [execOp, ho, hA _ _ hx, Instr.box, newVar, newRow, newObj, Sem.run])⟩
theorem run_zero (hT : TOk P T) {t : Nat} {i : TI} (ht : tlk T t = some i) (w : World) : ∃ v, (zeroValue t).run P w = .ok v w ∧ v.cells.toList = i.z ∧ (isA i.d = true → v = .agg i.z.toArray) := by
  obtain ⟨d, ti, _, h2, _, _, _, v, h5, h6, h7⟩ := tiOk_spec (hT _ _ ht)
  exact ⟨v, by simp [zeroValue, typeInfo, h2, h5], h6, h7⟩
theorem h_alloc (hT : TOk P T) {t : Nat} {i : TI} {b : Nat} {h' : Heap} (ho : o.op = .alloc t) (ht : tlk T t = some i) (hb : b = h.size) (he : h' = h.push (.cells i.z.toArray t)) : Yh P e h o (.pointer (some ⟨b, 0, none⟩)) h' := by
  intro ρ w hA hw
  subst hb; subst he
  subst hw
  obtain ⟨v, h1, h2, _⟩ := run_zero hT ht w
  refine ⟨{ w with heap := w.heap.push (.cells v.cells t) }, ⟨rfl, rfl, rfl, ?_, fun _ => by first | exact Nat.le_refl _ | exact Nat.le_succ _⟩, .inl ?_⟩
  · have : v.cells = i.z.toArray := Array.toList_inj.1 (by simpa using h2)
    rw [this]
  · simp [execOp, ho, Instr.alloc, h1, newVar, newRow, newObj, Sem.run]
end
/-! ### calls -/
def evs (e : Env) : List Operand → Option (List Value)
  | [] => some []
  | x :: r => match evO e x with | some v => (match evs e r with | some vs => some (v :: vs) | none => none) | none => none
theorem evs_map {e : Env} {ρ : Operand → Value} (hA : Agr e ρ) : ∀ (l : List Operand) (vs : List Value), evs e l = some vs → l.map ρ = vs
  | [], vs, h => by simp [evs] at h; subst h; rfl
  | x :: r, vs, h => by
    simp only [evs] at h
    cases h1 : evO e x with
    | none => simp [h1] at h
    | some v =>
      simp only [h1] at h
      cases h2 : evs e r with
      | none => simp [h2] at h
      | some us =>
        simp [h2] at h; subst h
        simp [hA _ _ h1, evs_map hA r us h2]
def CallOk (P : Program) (f : FuncId) : Prop := ∃ fn, P.funcs[f]? = some fn ∧ (fn.name == "runtime.NumGoroutine") = false ∧ fn.body.isNone = false
theorem run_callFunc {P : Program} {f : FuncId} (h : CallOk P f) (args : Array Value) (w : World) : (callFunc f args).run P w = .ok (.enter f args) w := by
  obtain ⟨fn, h1, h2, h3⟩ := h
  simp only [beq_eq_false_iff_ne, ne_eq] at h2
  have h4 : ¬ fn.body = none := by intro h; simp [h] at h3
  simp [callFunc, program, Sem.run, h1, h2, h4]
theorem y_call {P : Program} {e : Env} {o : Oper} {f : FuncId} {x : Operand} {as : List Operand} {ts : Array TypeId} {vs : List Value} {first cap : Array Value} (hf : CallOk P f) (ho : o.op = .call { callee := .value x, args := as.toArray, argTypes := ts }) (hx : evO e x = some (.func (.func f) first cap)) (hv : evs e as = some vs) :
    Yc P e o f (first ++ vs.toArray ++ cap) := by
  intro ρ w hA
  have hm := evs_map hA _ _ hv
  simp [execOp, ho, resolve, hA _ _ hx, Deferred.ofValue, invoke, run_callFunc hf, hm]
/-- the call of a function by its name -/
theorem w_call {c : Cx} {lops : List Oper} {Q : Exit → Act → World → Prop} {K : Act → World → Prop} {l : List Oper} {e : Env} {h : Heap} {o : Oper} {f : FuncId} {as : List Operand} {ts : Array TypeId} {vs : List Value} {Φ : Value → Heap → Prop}
    (hf : CallOk c.P f) (hc : CallsHD c.D c.P f vs.toArray h Φ) (ho : o.op = .call { callee := .value (.func f), args := as.toArray, argTypes := ts }) (hv : evs e as = some vs) (hw : wnt lops e o = some true) (hd : dOk c.N o.dst = true)
    (H : ∀ v h', Φ v h' → gop c lops Q K l (pu e o.dst v) h') : gop c lops Q K (o :: l) e h := by
  have := y_call (P := c.P) (e := e) (o := o) hf ho rfl hv
  simp only [List.append_toArray, List.nil_append, Array.append_empty, Array.empty_append] at this
  exact w_c hc this hw hd H
section
variable {c : Cx} {lops : List Oper} {Q : Exit → Act → World → Prop} {K : Act → World → Prop} {l : List Oper} {e : Env} {h : Heap} {o : Oper} {T : Tab} {v : Value} {q : Act → Prop}
theorem w_p (hT : TOk c.P T) (hp : pev T e o.op = some v) (hw : wnt lops e o = some true) (hd : dOk c.N o.dst = true) (H : gop c lops Q K l (pu e o.dst v) h) : gop c lops Q K (o :: l) e h := w_y (pev_run hT hp) hw hd H
theorem wP (hT : TOk c.P T) (H : gop c lops Q K l (pu e o.dst v) h) (hp : pev T e o.op = some v := by exact rfl) (hw : wnt lops e o = some true := by exact rfl) (hd : dOk c.N o.dst = true := by exact rfl) : gop c lops Q K (o :: l) e h := w_p hT hp hw hd H
theorem w_pe {v' : Value} (hT : TOk c.P T) (hp : pev T e o.op = some v) (hv : v' = v) (hw : wnt lops e o = some true) (hd : dOk c.N o.dst = true) (H : gop c lops Q K l (pu e o.dst v') h) : gop c lops Q K (o :: l) e h := by
  subst hv; exact w_y (pev_run hT hp) hw hd H
theorem q_p (hT : TOk c.P T) (hp : pev T e o.op = some v) (hw : wnt lops e o = some true) (hd : dOk c.N o.dst = true) (H : gq c lops h q l (pu e o.dst v)) : gq c lops h q (o :: l) e := q_y (pev_run hT hp) hw hd H
end
end Go.Q
