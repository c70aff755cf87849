/- A part of the proof of statements of this seat: lemmas, no statement of their own. -/
import Derived.Test.YtidhlagdagbggaaGreatQHeap
/- Rows of cells: build, make, append, slices. -/
namespace Go.Q
set_option linter.unusedVariables false
set_option linter.unusedSimpArgs false
structure Slc where
  a : Option Addr
  len : Nat
  cap : Nat
@[reducible] def Slc.v (s : Slc) : Value := .slice s.a s.len s.cap
/-! ### the heap's cells -/
theorem cellH_setH_ne {h : Heap} {a p : Addr} {v : Value} (hne : p.block ≠ a.block ∨ p.off ≠ a.off) : cellH (setH h a v) p = cellH h p := by
  unfold cellH setH
  rw [Array.getElem?_modify]
  by_cases hb : a.block = p.block
  · rw [if_pos hb]
    have hoff : a.off ≠ p.off := by rcases hne with h1 | h1 <;> omega
    cases hx : h[p.block]? with
    | none => simp
    | some ob =>
      cases ob <;> simp
      rename_i cs el fr
      cases hs : a.spot <;> simp [Array.getElem?_setIfInBounds_ne hoff]
  · rw [if_neg hb]
theorem frozH_setH {h : Heap} {a p : Addr} {v : Value} : frozH (setH h a v) p = frozH h p := by
  unfold frozH setH
  rw [Array.getElem?_modify]
  by_cases hb : a.block = p.block
  · rw [if_pos hb]
    cases hx : h[p.block]? with
    | none => simp
    | some ob => cases ob <;> simp
  · rw [if_neg hb]
theorem WrH.set {h : Heap} {a p : Addr} {v : Value} (hp : WrH h p) : WrH (setH h a v) p := by
  refine ⟨?_, by rw [frozH_setH]; exact hp.2⟩
  obtain ⟨u, hu⟩ := hp.1
  unfold cellH setH at *
  rw [Array.getElem?_modify]
  by_cases hb : a.block = p.block
  · rw [if_pos hb]
    cases hx : h[p.block]? with
    | none => simp [hx] at hu
    | some ob =>
      cases ob <;> simp [hx] at hu ⊢
      rename_i cs el fr
      obtain ⟨h1, h2⟩ := hu
      have hlt := (Array.getElem?_eq_some_iff.1 h2).1
      simp only [h1, true_and]
      cases hs : a.spot <;> simp [hlt]
  · rw [if_neg hb]; exact ⟨u, hu⟩
theorem run_storeCells (P : Program) (a : Addr) : ∀ (vs : List Value) (i : Nat) (w : World), (∀ j, j < vs.length → WrH w.heap (a.add (i + j))) → (∀ v ∈ vs, v.oneCell' = true) →
    ∃ w', WW true w (setsH w.heap a i vs) w' ∧ (storeCells a vs i).run P w = .ok () w'
  | [], i, w, _, _ => ⟨w, WW.self w, by simp [storeCells]⟩
  | v :: r, i, w, hw, h1 => by
    have hw0 := hw 0 (by simp)
    simp only [Nat.add_zero] at hw0
    obtain ⟨⟨u, hu⟩, hf⟩ := hw0
    have hst := run_store P w (a.add i) v .plain (h1 v (by simp))
    simp only [cell_eq, froz_eq, hu, hf] at hst
    obtain ⟨w', k1, k2⟩ := run_storeCells P a r (i + 1) (w.setCell (a.add i) v) (fun j hj => by
      have := hw (j + 1) (by simp; omega)
      rw [show i + (j + 1) = i + 1 + j from by omega] at this
      rw [set_heap]
      exact this.set) (fun x hx => h1 x (by simp [hx]))
    refine ⟨w', (WW.set w (a.add i) v).trans k1, ?_⟩
    simp only [storeCells, Sem.run_bind]
    rw [hst]
    simpa using k2
/-! ### 'build' -/
def bld (T : Tab) (place : Nat → Option (Nat × Nat)) : List Value → List (Nat × Value) → Option (List Value)
  | cells, [] => some cells
  | cells, (i, v) :: r =>
    match place i with
    | none => none
    | some (off, size) => if v.cells.size = size ∧ off + size ≤ cells.length then bld T place (cells.take off ++ v.cells.toList ++ cells.drop (off + size)) r else none
theorem fold_put : ∀ (vs : List Value) (off k : Nat) (cs : Array Value), off + k + vs.length ≤ cs.size →
    ((vs.zipIdx k).foldl (fun (cs : Array Value) (x : Value × Nat) => cs.setIfInBounds (off + x.2) x.1) cs).toList = cs.toList.take (off + k) ++ vs ++ cs.toList.drop (off + k + vs.length)
  | [], off, k, cs, h => by simp
  | v :: r, off, k, cs, h => by
    simp only [List.zipIdx_cons, List.foldl_cons]
    simp only [List.length_cons] at h
    rw [fold_put r off (k + 1) _ (by simp; omega)]
    have hlt : off + k < cs.toList.length := by simp; omega
    simp only [Array.toList_setIfInBounds, List.length_cons]
    rw [show off + (k + 1) = (off + k) + 1 from by omega]
    rw [List.take_set, List.drop_set_of_lt (by omega)]
    rw [List.take_succ_eq_append_getElem hlt, List.set_append_right _ _ (by simp; omega)]
    simp only [List.length_take, Array.length_toList]
    rw [show off + k - min (off + k) cs.size = 0 from by simp at hlt; omega]
    simp [show off + k + 1 + r.length = off + k + (r.length + 1) from by omega]
theorem fill_bld (T : Tab) (place : Nat → Option (Nat × Nat)) : ∀ (parts : List (Nat × Value)) (cells : List Value) (out : List Value), bld T place cells parts = some out → Instr.fill place cells.toArray parts = some out.toArray
  | [], cells, out, h => by simp [bld] at h; subst h; rfl
  | (i, v) :: r, cells, out, h => by
    simp only [bld] at h
    simp only [Instr.fill]
    cases hp : place i with
    | none => simp [hp] at h
    | some os =>
      obtain ⟨off, size⟩ := os
      simp only [hp] at h ⊢
      split at h
      · rename_i hc
        have := fill_bld T place r _ out h
        rw [if_neg (by simp; omega)]
        rw [← this]
        congr 1
        apply Array.toList_inj.1
        have hfp := fold_put v.cells.toList off 0 cells.toArray (by simp; omega)
        simp only [Nat.add_zero, List.toList_toArray, Array.length_toList] at hfp
        rw [← Array.foldl_toList]
        simp only [Array.toList_zipIdx]
        rw [hfp, hc.1]
      · cases h
section
variable {P : Program} {T : Tab} {e : Env} {h : Heap} {o : Oper}
def evp (e : Env) : List (Nat × Operand) → Option (List (Nat × Value))
  | [] => some []
  | (i, x) :: r => match evO e x with | some v => (match evp e r with | some vs => some ((i, v) :: vs) | none => none) | none => none
theorem evp_map {ρ : Operand → Value} (hA : Agr e ρ) : ∀ (l : List (Nat × Operand)) (vs : List (Nat × Value)), evp e l = some vs → l.map (fun p => (p.1, ρ p.2)) = vs
  | [], vs, h => by simp [evp] at h; subst h; rfl
  | (i, x) :: r, vs, h => by
    simp only [evp] at h
    cases h1 : evO e x with
    | none => simp [h1] at h
    | some v =>
      simp only [h1] at h
      cases h2 : evp e r with
      | none => simp [h2] at h
      | some us =>
        simp [h2] at h; subst h
        simp [hA _ _ h1, evp_map hA r us h2]
def szs (T : Tab) : List (Nat × Nat) → Option (List (Nat × Nat))
  | [] => some []
  | (ft, off) :: r => match tlk T ft with | some i => (match szs T r with | some l => some ((off, i.n) :: l) | none => none) | none => none
theorem szs_spec (hT : TOk P T) (w : World) : ∀ (gs : List Field) (fs l : List (Nat × Nat)), gs.map (fun f => (f.type, f.offset)) = fs → szs T fs = some l →
    (gs.mapM (m := Sem) fun f => do pure (f.offset, ← sizeOf f.type)).run P w = .ok l w
  | [], fs, l, h1, h2 => by simp at h1; subst h1; simp [szs] at h2; subst h2; simp
  | g :: gs, fs, l, h1, h2 => by
    simp only [List.map_cons] at h1
    subst h1
    simp only [szs] at h2
    cases k1 : tlk T g.type with
    | none => simp [k1] at h2
    | some i =>
      simp only [k1] at h2
      cases k2 : szs T (gs.map (fun f => (f.type, f.offset))) with
      | none => simp [k2] at h2
      | some l' =>
        simp [k2] at h2; subst h2
        have ih := szs_spec hT w gs _ l' rfl k2
        simp only [List.mapM_cons, Sem.run_bind, run_sizeOf' (hT _ _ k1), Result.andThen_ok, Sem.run_pure]
        rw [ih]
        simp
theorem y_build (hT : TOk P T) {t : Nat} {parts : List (Nat × Operand)} {fs l : List (Nat × Nat)} {n b : Nat} {z : List Value} {vs : List (Nat × Value)} {out : List Value} (ho : o.op = .build t parts.toArray) (ht : tlk T t = some ⟨.struct fs, n, b, z⟩)
    (hl : szs T fs = some l) (hv : evp e parts = some vs) (hb : bld T (l[·]?) z vs = some out) : Yl P e h o (.agg out.toArray) := by
  intro ρ w hA hw
  obtain ⟨zv, z1, z2, _⟩ := run_zero hT ht w
  obtain ⟨td, k1, k3⟩ := tk_spec hT ht
  obtain ⟨gs, rfl, hgs⟩ := ty_struct k3
  have hm := evp_map hA _ _ hv
  have hz : zv.cells = z.toArray := Array.toList_inj.1 (by simpa using z2)
  have hf := fill_bld T (l[·]?) vs z out hb
  have hs := szs_spec hT w gs.toList fs l hgs hl
  have hmm : (gs.mapM (m := Sem) fun f => do pure (f.offset, ← sizeOf f.type)).run P w = .ok l.toArray w := by
    rw [← Array.toArray_toList (xs := gs), List.mapM_toArray]
    simp only [Sem.run_map, hs]
    rfl
  simp only [execOp, ho, Instr.build, Sem.run_bind, z1, Result.andThen_ok, run_underlying k1]
  rw [hmm]
  simp only [Result.andThen_ok, List.map_toArray, List.getElem?_toArray, hm, hz]
  rw [hf]
  simp
end
end Go.Q
