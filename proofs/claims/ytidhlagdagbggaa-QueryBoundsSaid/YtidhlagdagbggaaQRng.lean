/- A part of the proof of statements of this seat: lemmas, no statement of their own. -/
import Derived.Test.YtidhlagdagbggaaQMap
import Derived.Maps.RangeRun
set_option linter.unusedVariables false
set_option linter.unusedSimpArgs false
/- A range over a map. -/
namespace Go.Q
def nxH (h : Heap) (b r since : Nat) (seen : Array Nat) (x : MapEntry) (ck : Nat) : Heap := h.setIfInBounds b (.mapIter (some r) since (seen.push x.born) ck)
section
variable {P : Program} {e : Env} {h : Heap} {o : Oper}
theorem h_rng {t r b ck kt et : Nat} {es : Array MapEntry} {x : Operand} {m : Option Nat} {h' : Heap} (ho : o.op = .range t x) (hx : evO e x = some (.map m)) (ht : P.underlying t = some (.map kt et)) (hr : m = some r) (hm : h[r]? = some (.map es ck)) (hb : b = h.size)
    (he : h' = h.push (.mapIter (some r) ck #[] ck)) : Yh P e h o (.pointer (some ⟨b, 0, none⟩)) h' := by
  intro ρ w hA hw
  subst hb; subst he; subst hw; subst hr
  exact ⟨{ w with heap := w.heap.push (.mapIter (some r) ck #[] ck) }, ⟨rfl, rfl, rfl, rfl, fun _ => by first | exact Nat.le_refl _ | exact Nat.le_succ _⟩, .inl (by simp [execOp, ho, hA _ _ hx, run_range_map w t kt et r es ck ht hm])⟩
theorem a_nx {b r ck since last : Nat} {es : Array MapEntry} {seen : Array Nat} {x : Operand} {a : Addr} (ho : o.op = .next x false) (hx : evO e x = some (.pointer (some a))) (ha : a = ⟨b, 0, none⟩) (h1 : h[b]? = some (.mapIter (some r) since seen last)) (h2 : h[r]? = some (.map es ck))
    (h3 : ∀ x ∈ es.toList, x.born < since) (h4 : since ≤ last) : Ya P e h o fun v h' => (v = .tuple #[.bool false] ∧ h' = h ∧ ∀ x ∈ es.toList, seen.contains x.born = true) ∨
      ∃ x ∈ es.toList, seen.contains x.born = false ∧ v = .tuple #[.bool true, x.key, x.val] ∧ h' = nxH h b r since seen x ck := by
  intro ρ w hA hw
  subst hw; subst ha
  rcases run_next_at (P := P) w o.type b r since last seen es ck h1 h2 h3 h4 with ⟨k1, k2⟩ | ⟨y, hy, w1, hw1, k2⟩
  · exact ⟨_, w, WW.self w, .inl ⟨rfl, rfl, all_seen es seen k1⟩, by simp [execOp, ho, hA _ _ hx, k2]⟩
  · obtain ⟨m1, m2⟩ := mem_left hy
    refine ⟨_, _, ?_, .inr ⟨y, m1, m2, rfl, ?_⟩, by simp [execOp, ho, hA _ _ hx, k2]; rfl⟩
    · rcases hw1 with rfl | rfl <;> exact ⟨rfl, rfl, rfl, rfl, fun _ => by first | exact Nat.le_refl _ | exact Nat.le_succ _⟩
    · rcases hw1 with rfl | rfl <;> rfl
theorem y_en {b r ck since : Nat} {es : Array MapEntry} {seen : Array Nat} {x : Operand} {a : Addr} {y : MapEntry} {u v : Value} (ho : o.op = .entry x) (hx : evO e x = some (.pointer (some a))) (ha : a = ⟨b, 0, none⟩) (h1 : h[b]? = some (.mapIter (some r) since (seen.push y.born) ck)) (h2 : h[r]? = some (.map es ck))
    (hm : y ∈ es.toList) (hn : (es.toList.map (·.born)).Nodup) (hu : y.key = u) (hv : y.val = v) : Yl P e h o (.tuple #[u, v]) := by
  intro ρ w hA hw
  subst hw; subst ha; subst hu; subst hv
  simp [execOp, ho, hA _ _ hx, run_entry_at w b r since seen es ck y h1 h2 hm hn]
end
end Go.Q
