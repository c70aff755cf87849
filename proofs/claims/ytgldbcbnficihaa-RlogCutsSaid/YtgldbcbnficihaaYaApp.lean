/- A part of the proof of statements of this seat: lemmas, no statement of their own. -/
import Derived.Test.YtgldbcbnficihaaYaLog
set_option linter.unusedVariables false
set_option linter.unusedSimpArgs false
namespace Go.Q.Ya
/-- one entry that comes in -/
def appStep (ix p : Int) (now : List Ent) (i : Nat) (x : Ent) : List Ent :=
  if p + i + 1 ≤ ix then now
  else if (p + i - ix).toNat < now.length then (if (now.getD (p + i - ix).toNat (0, [])).1 = x.1 then now else now.take (p + i - ix).toNat ++ [x]) else now ++ [x]
def appN (ix p : Int) (es more : List Ent) : Nat → List Ent
  | 0 => es
  | i + 1 => match more[i]? with | some x => appStep ix p (appN ix p es more i) i x | none => appN ix p es more i
def appRes (ix tm : Int) (es : List Ent) (p t : Int) (more : List Ent) : List Ent × Int × Int :=
  if p ≥ ix ∧ ¬ ((termOf ix tm es p).2 = 0 ∧ (termOf ix tm es p).1 = t) then (es, 0, 6)
  else if (appN ix p es more more.length).length > 64 then (es, 0, 8) else (appN ix p es more more.length, p + more.length, 0)
theorem appStep_len (ix p : Int) (now : List Ent) (i : Nat) (x : Ent) : (appStep ix p now i x).length ≤ now.length + 1 := by
  unfold appStep; split
  · omega
  · split
    · split
      · omega
      · simp; omega
    · simp
theorem appN_len (ix p : Int) (es more : List Ent) : ∀ i, (appN ix p es more i).length ≤ es.length + i
  | 0 => by simp [appN]
  | i + 1 => by
    have := appN_len ix p es more i
    simp only [appN]
    split
    · rename_i x _
      have := appStep_len ix p (appN ix p es more i) i x
      omega
    · omega
theorem appStep_ok {ix p : Int} {now : List Ent} {i : Nat} {x : Ent} (h : esOk now) (hx : esOk [x]) : esOk (appStep ix p now i x) := by
  have h2 : ∀ l : List Ent, (∀ e ∈ l, e ∈ now) → esOk (l ++ [x]) := fun l hl e he => by
    rcases List.mem_append.1 he with he | he
    · exact h e (hl e he)
    · exact hx e he
  unfold appStep; split
  · exact h
  · split
    · split
      · exact h
      · exact h2 _ fun e he => List.mem_of_mem_take he
    · exact h2 _ fun e he => he
theorem appN_ok {ix p : Int} {es more : List Ent} (h : esOk es) (hm : esOk more) : ∀ i, esOk (appN ix p es more i)
  | 0 => h
  | i + 1 => by
    have := appN_ok (ix := ix) (p := p) h hm i
    simp only [appN]
    split
    · rename_i x hx
      exact appStep_ok this fun e he => by simp at he; subst he; exact hm _ (List.mem_of_getElem? hx)
    · exact this
/-- what changes: the log's own block and its row's -/
structure LFr (b : Nat) (s : Slc) (h h' : Heap) : Prop where
  size : h.size ≤ h'.size
  old : ∀ i, i < h.size → i ≠ b → s.blk ≠ some i → h'[i]? = h[i]?
theorem LFr.refl (b : Nat) (s : Slc) (h : Heap) : LFr b s h h := ⟨Nat.le_refl _, fun _ _ _ _ => rfl⟩
theorem LFr.ext {b : Nat} {s : Slc} {h h' h2 : Heap} (f : LFr b s h h') (X : Ext h'.size h' h2) : LFr b s h h2 :=
  ⟨Nat.le_trans f.size X.size, fun i hi h1 h2 => (X.block i (Nat.lt_of_lt_of_le hi f.size)).trans (f.old i hi h1 h2)⟩
theorem LFr.below {B b : Nat} {s : Slc} {h h' : Heap} (f : LFr b s h h') (hB : B ≤ h.size) (hb : B ≤ b) (hs : ∀ g, s.blk = some g → B ≤ g) : Ext B h h' :=
  ⟨f.size, fun i hi => f.old i (by omega) (by omega) fun e => by have := hs i e; omega⟩
theorem Own.take {B : Nat} {h : Heap} {s : Slc} {es : List Ent} {vs : List S_api_Entry} (o : Own B h s es vs) {n : Nat} (hn : n ≤ es.length) : Own B h (subS s 2 0 n n) (es.take n) (vs.take n) := by
  have hl := o.len
  have hc := o.r.cap
  refine ⟨?_, by simp [o.l], fun i v e hv he => o.e i v e ?_ ?_⟩
  · have hr := o.r
    have hlv := ecs_len vs
    have ht : ecs (vs.take n) = (ecs vs).take (n * 2) := by
      apply List.ext_getElem?
      intro j
      have e1 := ecs_get (vs.take n) (j / 2) (j % 2) (by omega)
      have e2 := ecs_get vs (j / 2) (j % 2) (by omega)
      rw [show j / 2 * 2 + j % 2 = j from by omega] at e1 e2
      rw [e1, List.getElem?_take, List.getElem?_take, e2]
      by_cases hj : j < n * 2
      · rw [if_pos hj, if_pos (by omega)]
      · rw [if_neg hj, if_neg (by omega)]; rfl
    refine ⟨?_, ?_, ?_⟩
    · rw [ht, subS_len, List.length_take, hlv, o.l]; omega
    · rw [subS_cap]; have := hr.2.1; omega
    · rcases hr.2.2 with ⟨a0, a1, a2⟩ | ⟨g, cur, a1, a2, a3, a4, a5, a6⟩
      · refine .inl ⟨?_, ?_, ?_⟩
        · simp only [subS]; split <;> simp [a0]
        · rw [subS_len]; omega
        · rw [subS_cap]; omega
      · refine .inr ⟨g, cur, ?_, a2, a3, ?_, ?_, ?_⟩
        · simp only [subS]; split
          · exact a1
          · simp [a1]
        · rw [subS_len, subS_cap]; exact Nat.le_refl _
        · rw [subS_cap]
          have : (n - 0) * 2 ≤ s.cap * 2 := Nat.mul_le_mul_right 2 (by omega)
          omega
        · rw [subS_len, ht, ← a6, List.take_take]; congr 1; omega
  · rw [List.getElem?_take] at hv; split at hv
    · exact hv
    · cases hv
  · rw [List.getElem?_take] at he; split at he
    · exact he
    · cases he
end Go.Q.Ya
