/- A part of the proof of statements of this seat: lemmas, no statement of their own. -/
import Derived.Test.YtidhlagdagbggaaGreatQDraw2
/- Short words for what the printed proofs say often. -/
namespace Go.Q
open Go.RowKit
set_option linter.unusedVariables false
abbrev ad (b : Nat) : Addr := ⟨b, 0, none⟩
abbrev pt (b : Nat) : Value := .pointer (some ⟨b, 0, none⟩)
section
variable {c : Cx} {lops : List Oper} {Q : Exit → Act → World → Prop} {done dead : List Nat} {pend D : List Pn} {e : Env} {h : Heap}
/-- an operation that is passed over -/
theorem sS (i : Nat) (ei : Env) (d : Option Tmp) (hwf : wfR lops = true) {o : Oper}
    (H : (∀ h, PF c lops h ⟨i, undef, ei⟩) → Sim c lops Q (i :: done) dead (⟨i, undef, ei⟩ :: pend) (pu e d undef) h) (ho : lops[i]? = some o := by exact rfl) (hdk : dOk c.N o.dst = true := by exact rfl) (hw : wnt lops ei o = some false := by exact rfl) (hi : sideN lops done dead i = true := by kernel_rfl) (hk : slotsOk lops done i ei = true := by kernel_rfl) (hdst : dst? lops i = d := by kernel_rfl) (hs : Sub ei e := by repeat (first | exact trivial | refine ⟨rfl, ?_⟩)) : Sim c lops Q done dead pend e h :=
  sim_p i hwf hi hs hk hdst (fun _ => pf_s ho hdk hw) H
theorem sT (i : Nat) (ei : Env) (d : Option Tmp) {T : Tab} (hT : TOk c.P T) (hwf : wfR lops = true) {v : Value} {o : Oper}
    (H : (∀ h, PF c lops h ⟨i, v, ei⟩) → Sim c lops Q (i :: done) dead (⟨i, v, ei⟩ :: pend) (pu e d v) h) (ho : lops[i]? = some o := by exact rfl) (hdk : dOk c.N o.dst = true := by exact rfl) (hw : wnt lops ei o = some true := by exact rfl) (hp : pev T ei o.op = some v := by exact rfl) (hi : sideN lops done dead i = true := by kernel_rfl) (hk : slotsOk lops done i ei = true := by kernel_rfl) (hdst : dst? lops i = d := by kernel_rfl) (hs : Sub ei e := by repeat (first | exact trivial | refine ⟨rfl, ?_⟩)) : Sim c lops Q done dead pend e h :=
  sQ i ei d hT hwf hs H ho hdk hw hp hi hk hdst
theorem sU (i : Nat) (ei : Env) (d : Option Tmp) {v : Value} (hwf : wfR lops = true)
    (hp : ∀ h, PF c lops h ⟨i, v, ei⟩) (H : (∀ h, PF c lops h ⟨i, v, ei⟩) → Sim c lops Q (i :: done) dead (⟨i, v, ei⟩ :: pend) (pu e d v) h) (hi : sideN lops done dead i = true := by kernel_rfl) (hk : slotsOk lops done i ei = true := by kernel_rfl) (hdst : dst? lops i = d := by kernel_rfl) (hs : Sub ei e := by repeat (first | exact trivial | refine ⟨rfl, ?_⟩)) : Sim c lops Q done dead pend e h :=
  sP i ei d hwf hs hp H hi hk hdst
theorem sV (i : Nat) (ei : Env) (d : Option Tmp) {v : Value} (hwf : wfR lops = true)
    (hp : PF c lops h ⟨i, v, ei⟩) (H : PF c lops h ⟨i, v, ei⟩ → Sim c lops Q (i :: done) dead (⟨i, v, ei⟩ :: pend) (pu e d v) h) (hi : sideN lops done dead i = true := by kernel_rfl) (hk : slotsOk lops done i ei = true := by kernel_rfl) (hdst : dst? lops i = d := by kernel_rfl) (hs : Sub ei e := by repeat (first | exact trivial | refine ⟨rfl, ?_⟩)) : Sim c lops Q done dead pend e h :=
  sL i ei d hwf hs hp H hi hk hdst
end
section
variable {c : Cx} {lops l : List Oper} {x : Code} {Q : Exit → Act → World → Prop} {K : Act → World → Prop} {e : Env} {h : Heap}
theorem cW (e' : Env) (H : gco c x Q e' h) (hs : Sub e' e := by repeat (first | exact trivial | refine ⟨rfl, ?_⟩)) : gco c x Q e h := c_weak e' hs H
theorem wW (e' : Env) (H : gop c lops Q K l e' h) (hs : Sub e' e := by repeat (first | exact trivial | refine ⟨rfl, ?_⟩)) : gop c lops Q K l e h := w_weak e' hs H
theorem xJ {α : Type} {E : α → Env} {Φ : α → Heap → Prop} (s : α) (H : Φ s h) (hs : Sub (E s) e := by repeat (first | exact trivial | refine ⟨rfl, ?_⟩)) : gex c (Exit.then (Jn c E Φ) Q) .normal e h := x_join s H hs
theorem wJ {α : Type} {E : α → Env} {Φ : α → Heap → Prop} (s : α) (H : Φ s h) (hs : Sub (E s) e := by repeat (first | exact trivial | refine ⟨rfl, ?_⟩)) : gop c lops Q (Jn c E Φ) [] e h := w_jn s H hs
end
end Go.Q
