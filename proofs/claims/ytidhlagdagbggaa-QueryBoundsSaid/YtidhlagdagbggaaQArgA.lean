/- A part of the proof of statements of this seat: lemmas, no statement of their own. -/
import Derived.Test.YtidhlagdagbggaaQPure
import Derived.OpenShut
/- Arguments that are arrays of numbers. -/
namespace Go.Q
open Go.ChangeShapes Go.WideShapes
set_option linter.unusedVariables false
section
variable {H : Type} {enc : TypeId × Value → H} {P : Program} {t e : TypeId} {n : Nat} {q : IntKind} {w W : World} {base : Nat} {sp : Nat → Bool} {held : Bool}
def theInt : Value → Int | .int _ a => a | _ => 0
theorem mapM_all {α β : Type} {f : α → Option β} {g : α → β} : ∀ {L : List α}, (∀ i ∈ L, f i = some (g i)) → L.mapM f = some (L.map g)
  | [], _ => rfl
  | a :: L, h => by
    rw [List.mapM_cons, h a (by simp), mapM_all (L := L) fun i hi => h i (List.mem_cons_of_mem _ hi)]
    rfl
theorem open_ia {r : Reach} {b0 : Nat} {v : Value} {d : DataW H} {ps : List MemPlace} (ht : P.underlying t = some (.array n e)) (he : P.underlying e = some (.int q)) (ct : P.cellsOf t = n) (ce : P.cellsOf e = 1)
    (hval : Value.okWide P W r b0 t v) (hd : DataW.Trod enc P w base sp held t v d ps) : ∃ zs : List Int, v = .agg (zs.map (Value.int q)).toArray ∧ zs.length = n ∧ (∀ x ∈ zs, (Lit.int q x).wf = true) ∧ d = .agg (zs.map fun x => .lit (.int q x)) ∧ ps = [] := by
  simp only [Value.okWide, ht] at hval
  obtain ⟨cs, rfl, hcs, _⟩ := hval
  obtain ⟨fuel, hf⟩ := hd
  obtain ⟨xs, m, rfl, hx, hl, hxl, hg⟩ := DataW.trod_array ht hf
  rw [ct] at hcs
  have hcl : cs.toList.length = n := by simpa using hcs
  have key : ∀ i, (hi : i < n) → ∃ a, cs.toList[i]? = some (.int q a) ∧ xs[i]? = some (.lit (.int q a), []) ∧ (Lit.int q a).wf = true := by
    intro i hi
    have h1 := hg i hi
    rw [ce, Nat.mul_one] at h1
    have hi' : i < cs.toList.length := by omega
    have h2 : ((Value.agg cs).cells.toList.drop i).take 1 = [cs.toList[i]] := by
      show (cs.toList.drop i).take 1 = _
      rw [List.drop_eq_getElem_cons hi']; rfl
    rw [h2] at h1
    have hxi : i < xs.length := by omega
    have h3 : xs[i]? = some xs[i] := by simp [hxi]
    rw [h3] at h1
    obtain ⟨a, ea, ex, wa⟩ := DataW.trod_int he h1
    simp only [List.cons.injEq, and_true] at ea
    exact ⟨a, by rw [List.getElem?_eq_getElem hi', ea], by rw [h3, ex], wa⟩
  refine ⟨cs.toList.map theInt, ?_, by simpa using hcs, ?_, ?_, ?_⟩
  · congr 1
    apply Array.toList_inj.1
    simp only [List.map_map]
    apply List.ext_getElem? 
    intro i
    rcases Nat.lt_or_ge i n with hi | hi
    · obtain ⟨a, h1, _, _⟩ := key i hi
      simp only [Array.getElem?_toList] at h1
      simp [h1, theInt]
    · rw [List.getElem?_eq_none (by omega), List.getElem?_eq_none (by simp; omega)]
  · intro x hx'
    obtain ⟨y, hy, rfl⟩ := List.mem_map.1 hx'
    obtain ⟨i, hi⟩ := List.getElem?_of_mem hy
    have hin : i < n := by have := (List.getElem?_eq_some_iff.1 hi).1; omega
    obtain ⟨a, h1, _, wa⟩ := key i hin
    rw [h1] at hi; cases hi
    exact wa
  · simp only [Prod.mk.injEq] at hx
    rw [hx.1]
    congr 1
    apply List.ext_getElem?
    intro i
    rcases Nat.lt_or_ge i n with hi | hi
    · obtain ⟨a, h1, h2, _⟩ := key i hi
      simp only [Array.getElem?_toList] at h1
      simp [h1, h2, theInt]
    · rw [List.getElem?_eq_none (by simp; omega), List.getElem?_eq_none (by simp; omega)]
  · simp only [Prod.mk.injEq] at hx
    rw [hx.2]
    apply List.flatMap_eq_nil_iff.2
    intro y hy
    obtain ⟨i, hi⟩ := List.getElem?_of_mem hy
    have hin : i < n := by have := (List.getElem?_eq_some_iff.1 hi).1; omega
    obtain ⟨a, _, h2, _⟩ := key i hin
    rw [h2] at hi; cases hi
    rfl
theorem shut_ia {zs : List Int} (ht : P.underlying t = some (.array n e)) (he : P.underlying e = some (.int q)) (ct : P.cellsOf t = n) (ce : P.cellsOf e = 1) (hl : zs.length = n) (hw : ∀ x ∈ zs, (Lit.int q x).wf = true) :
    DataW.Trod enc P w base sp held t (.agg (zs.map (Value.int q)).toArray) (.agg (zs.map fun x => .lit (.int q x))) [] := by
  refine ⟨2, ?_⟩
  rw [DataW.trod_step]
  unfold DataW.trodStep
  simp only [ht, Value.cells]
  rw [if_pos (by simp [ct, hl])]
  rw [mapM_all (g := fun i => (.lit (.int q (zs.getD i 0)), [])) (fun i hi => ?_)]
  · simp only [Option.map_some, Option.some.injEq, Prod.mk.injEq]
    constructor
    · congr 1
      apply List.ext_getElem?
      intro i
      rcases Nat.lt_or_ge i n with h | h
      · simp [h, List.getD, show i < zs.length from by omega]
      · rw [List.getElem?_eq_none (by simp; omega), List.getElem?_eq_none (by simp; omega)]
    · simp [List.flatMap_map]
  · have hi' : i < zs.length := by simpa [hl] using hi
    rw [ce, Nat.mul_one, DataW.trod_step]
    have : ((zs.map (Value.int q)).toArray.toList.drop i).take 1 = [.int q zs[i]] := by
      simp only
      rw [List.drop_eq_getElem_cons (by simpa using hi')]; simp
    rw [this]
    unfold DataW.trodStep
    simp [he, hw zs[i] (List.getElem_mem hi'), List.getD, hi']
end
theorem wf_isB {zs : List Int} (h : ∀ x ∈ zs, (Lit.int .u8 x).wf = true) : isB zs := fun x hx => wf_u8 (h x hx)
end Go.Q
