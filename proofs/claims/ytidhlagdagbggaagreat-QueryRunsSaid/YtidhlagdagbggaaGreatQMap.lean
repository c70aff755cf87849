/- A part of the proof of statements of this seat: lemmas, no statement of their own. -/
import Derived.Test.YtidhlagdagbggaaGreatQApp
import Derived.Test.YtidhlagdagbggaaGreatQSem
import Derived.Test.YtidhlagdagbggaaGreatQPure
import Derived.Test.YtidhlagdagbggaaGreatQDraw2
import Derived.MapKept
/- Maps. -/
namespace Go.Q
open Go.MapKept
set_option linter.unusedVariables false
set_option linter.unusedSimpArgs false
/-! ### lists of keys and what they have -/
section
variable {K V : Type} [DecidableEq K]
def mget : List (K × V) → K → Option V
  | [], _ => none
  | p :: r, k => if p.1 = k then some p.2 else mget r k
def mput : List (K × V) → K → V → List (K × V)
  | [], k, v => [(k, v)]
  | p :: r, k, v => if p.1 = k then (k, v) :: r else p :: mput r k v
theorem mget_none {k : K} : ∀ {l : List (K × V)}, (∀ p ∈ l, p.1 ≠ k) → mget l k = none
  | [], _ => rfl
  | p :: r, h => by
    unfold mget
    rw [if_neg (h p (by simp)), mget_none fun q hq => h q (List.mem_cons_of_mem _ hq)]
theorem mput_none {k : K} {v : V} : ∀ {l : List (K × V)}, (∀ p ∈ l, p.1 ≠ k) → mput l k v = l ++ [(k, v)]
  | [], _ => rfl
  | p :: r, h => by
    unfold mput
    rw [if_neg (h p (by simp)), mput_none fun q hq => h q (List.mem_cons_of_mem _ hq)]; rfl
theorem mget_at {k : K} {v : V} : ∀ {l : List (K × V)} {j : Nat}, l[j]? = some (k, v) → (l.map (·.1)).Nodup → mget l k = some v ∧ ∀ u, mput l k u = l.set j (k, u)
  | [], j, h, _ => by simp at h
  | p :: r, 0, h, _ => by
    simp at h; subst h
    simp [mget, mput]
  | p :: r, j + 1, h, hn => by
    rw [List.map_cons, List.nodup_cons] at hn
    simp only [List.getElem?_cons_succ] at h
    have hne : p.1 ≠ k := fun e => hn.1 (by rw [e]; exact List.mem_map.2 ⟨_, List.mem_of_getElem? h, rfl⟩)
    have := mget_at h hn.2
    unfold mget mput
    rw [if_neg hne]
    exact ⟨this.1, fun u => by rw [if_neg hne, this.2 u]; rfl⟩
end
/-! ### a map's object -/
def keyIs0 : Value → Value → Bool
  | .int k a, .int k' b => decide (k = k') && decide (a = b)
  | .string a, .string b => decide (a = b)
  | .bool a, .bool b => a == b
  | _, _ => false
def keyIsL : List Value → List Value → Bool
  | [], [] => true
  | a :: r, b :: s => keyIs0 a b && keyIsL r s
  | _, _ => false
def keyIs : Value → Value → Bool
  | .agg a, .agg b => keyIsL a.toList b.toList
  | .int k a, .int k' b => decide (k = k') && decide (a = b)
  | .string a, .string b => decide (a = b)
  | .bool a, .bool b => a == b
  | _, _ => false
theorem keyIs_iff {d : TypeDesc} {a b : Value} (ha : IsKey d a) (hb : IsKey d b) : keyIs a b = true ↔ a = b := by
  cases d <;> cases a <;> cases b <;> simp_all [IsKey, keyIs]
def MapH (d : TypeDesc) (h : Heap) (r : Nat) (l : List (Value × Value)) : Prop :=
  ∃ (es : Array MapEntry) (ck : Nat), h[r]? = some (.map es ck) ∧ Stamped es ck ∧ (∀ x ∈ es.toList, IsKey d x.key) ∧ es.toList.map (fun e => (e.key, e.val)) = l
structure KOk {K : Type} (d : TypeDesc) (kf : K → Value) : Prop where
  inj : ∀ a b, kf a = kf b → a = b
  isK : ∀ k, IsKey d (kf k)
theorem kStr : KOk .string Value.string := ⟨fun a b h => by cases h; rfl, fun _ => trivial⟩
def MapAt {K V : Type} (d : TypeDesc) (kf : K → Value) (vf : V → Value) (h : Heap) : Option Nat → List (K × V) → Prop
  | none, l => l = []
  | some r, l => MapH d h r (l.map fun p => (kf p.1, vf p.2))
def setM (h : Heap) (r : Nat) (key val : Value) : Heap := h.modify r fun
  | .map es ck => (match es.toList.findIdx? (fun e => keyIs key e.key) with
    | some i => .map (es.modify i fun e => { e with key, val }) ck
    | none => .map (es.push { key, val, born := ck }) (ck + 1))
  | o => o
theorem setM_size {h : Heap} {r : Nat} {k v : Value} : (setM h r k v).size = h.size := by simp [setM]
theorem setM_other {h : Heap} {r g : Nat} {k v : Value} (hg : g ≠ r) : (setM h r k v)[g]? = h[g]? := by
  unfold setM; rw [Array.getElem?_modify, if_neg (fun e => hg e.symm)]
theorem setM_at {h : Heap} {r : Nat} {k v : Value} {es : Array MapEntry} {ck : Nat} (hb : h[r]? = some (.map es ck)) : (setM h r k v)[r]? = some (match es.toList.findIdx? (fun e => keyIs k e.key) with
    | some i => .map (es.modify i fun e => { e with key := k, val := v }) ck
    | none => .map (es.push { key := k, val := v, born := ck }) (ck + 1)) := by
  unfold setM; rw [Array.getElem?_modify, if_pos rfl, hb]; rfl
theorem MapH.mk0 (d : TypeDesc) (h : Heap) : MapH d (h.push (.map #[] 0)) h.size [] := ⟨#[], 0, by simp, stamped_empty 0, by simp, rfl⟩
theorem MapH.old {d : TypeDesc} {h h' : Heap} {r : Nat} {l : List (Value × Value)} (M : MapH d h r l) (e : h'[r]? = h[r]?) : MapH d h' r l := by
  obtain ⟨es, ck, h1, h2⟩ := M; exact ⟨es, ck, e.trans h1, h2⟩
theorem MapH.lt {d : TypeDesc} {h : Heap} {r : Nat} {l : List (Value × Value)} (M : MapH d h r l) : r < h.size := by
  obtain ⟨es, ck, h1, _⟩ := M; exact (Array.getElem?_eq_some_iff.1 h1).1
theorem findNow_find {d : TypeDesc} {k : Value} (hk : IsKey d k) : ∀ (l : List MapEntry) (i : Nat), (∀ x ∈ l, IsKey d x.key) →
    Instr.findNow d k l i = some ((l.findIdx? (fun e => keyIs k e.key)).bind fun j => (l[j]?).map fun e => (i + j, e.val))
  | [], _, _ => rfl
  | e :: es, i, h => by
    have he := h e (by simp)
    obtain ⟨r, hr, hiff⟩ := sameNow_of_keys hk he
    have hki := keyIs_iff hk he
    have ih := findNow_find hk es (i + 1) fun x hx => h x (List.mem_cons_of_mem _ hx)
    unfold Instr.findNow
    rw [hr, List.findIdx?_cons]
    cases r with
    | true =>
      have : keyIs k e.key = true := hki.2 (hiff.1 rfl)
      simp [this]
    | false =>
      have : keyIs k e.key = false := by
        cases hc : keyIs k e.key with
        | false => rfl
        | true => have := hiff.2 (hki.1 hc); cases this
      simp only [this, ih]
      cases es.findIdx? (fun e => keyIs k e.key) with
      | none => simp
      | some j => simp [Nat.add_assoc, Nat.add_comm 1 j]
/-- where a key stands -/
theorem MapH.find {K V : Type} [DecidableEq K] {d : TypeDesc} {kf : K → Value} {vf : V → Value} {h : Heap} {r : Nat} {l : List (K × V)} (KO : KOk d kf) (M : MapH d h r (l.map fun p => (kf p.1, vf p.2))) (k : K) :
    ∃ es ck, h[r]? = some (.map es ck) ∧ Stamped es ck ∧ (∀ x ∈ es.toList, IsKey d x.key) ∧ es.toList.map (fun e => (e.key, e.val)) = l.map (fun p => (kf p.1, vf p.2)) ∧ es.size = l.length ∧ (l.map (·.1)).Nodup ∧
      ((es.toList.findIdx? (fun e => keyIs (kf k) e.key) = none ∧ (∀ p ∈ l, p.1 ≠ k) ∧ Instr.findNow d (kf k) es.toList 0 = some none) ∨
      ∃ j v e, es.toList.findIdx? (fun e => keyIs (kf k) e.key) = some j ∧ l[j]? = some (k, v) ∧ es[j]? = some e ∧ e.key = kf k ∧ e.val = vf v ∧ Instr.findNow d (kf k) es.toList 0 = some (some (j, vf v))) := by
  obtain ⟨es, ck, h1, h2, h3, h4⟩ := M
  have hl : es.size = l.length := by have := congrArg List.length h4; simpa using this
  have hn : (l.map (·.1)).Nodup := by
    have e1 : es.toList.map (·.key) = (l.map (·.1)).map kf := by
      have := congrArg (List.map Prod.fst) h4
      simpa [List.map_map, Function.comp_def] using this
    have := h2.2.2
    rw [e1] at this
    exact List.Pairwise.of_map kf (fun a b hab e => hab (by rw [e])) this
  refine ⟨es, ck, h1, h2, h3, h4, hl, hn, ?_⟩
  have hf := findNow_find (KO.isK k) es.toList 0 h3
  cases hc : es.toList.findIdx? (fun e => keyIs (kf k) e.key) with
  | none =>
    left
    rw [hc] at hf
    refine ⟨rfl, fun p hp e => ?_, hf⟩
    have hm : (kf p.1, vf p.2) ∈ es.toList.map (fun e => (e.key, e.val)) := by rw [h4]; exact List.mem_map.2 ⟨p, hp, rfl⟩
    obtain ⟨x, hx, hxe⟩ := List.mem_map.1 hm
    have := (List.findIdx?_eq_none_iff.1 hc) x hx
    have hk2 : keyIs (kf k) x.key = true := (keyIs_iff (KO.isK k) (h3 x hx)).2 (by have := (Prod.mk.inj hxe).1; rw [this, e])
    rw [hk2] at this; cases this
  | some j =>
    right
    obtain ⟨hj, hk2, _⟩ := List.findIdx?_eq_some_iff_getElem.1 hc
    have hj2 : j < l.length := by simp at hj; omega
    have e1 : es.toList[j]? = some es.toList[j] := List.getElem?_eq_getElem hj
    have e2 := congrArg (fun z => z[j]?) h4
    simp only [List.getElem?_map, e1, List.getElem?_eq_getElem hj2, Option.map_some, Option.some.injEq, Prod.mk.injEq] at e2
    have hkey := (keyIs_iff (KO.isK k) (h3 _ (List.getElem_mem hj))).1 hk2
    have hlk : l[j].1 = k := KO.inj _ _ (by rw [← e2.1, ← hkey])
    refine ⟨j, l[j].2, es.toList[j], rfl, ?_, by simp, hkey.symm, e2.2, ?_⟩
    · rw [List.getElem?_eq_getElem hj2, ← hlk]
    · rw [hf, hc]; simp only [Option.bind_some, e1, Option.map_some, Nat.zero_add, e2.2]
theorem MapH.put {K V : Type} [DecidableEq K] {d : TypeDesc} {kf : K → Value} {vf : V → Value} {h : Heap} {r : Nat} {l : List (K × V)} (KO : KOk d kf) (M : MapH d h r (l.map fun p => (kf p.1, vf p.2))) (k : K) (v : V) :
    MapH d (setM h r (kf k) (vf v)) r ((mput l k v).map fun p => (kf p.1, vf p.2)) := by
  obtain ⟨es, ck, h1, h2, h3, h4, hl, hn, C⟩ := M.find KO k
  have hs := setM_at (k := kf k) (v := vf v) h1
  rcases C with ⟨c1, c2, _⟩ | ⟨j, u, e, c1, c2, c3, c4, c5, _⟩
  · rw [c1] at hs
    refine ⟨_, _, hs, stamped_push h2 fun x hx hxe => ?_, fun x hx => ?_, ?_⟩
    · have hm : (x.key, x.val) ∈ l.map fun p => (kf p.1, vf p.2) := by rw [← h4]; exact List.mem_map.2 ⟨x, hx, rfl⟩
      obtain ⟨p, hp, hpe⟩ := List.mem_map.1 hm
      exact c2 p hp (KO.inj _ _ (by rw [(Prod.mk.inj hpe).1, hxe]))
    · simp only [Array.toList_push, List.mem_append, List.mem_singleton] at hx
      rcases hx with hx | rfl
      · exact h3 x hx
      · exact KO.isK k
    · rw [mput_none c2]; simp [h4]
  · rw [c1] at hs
    refine ⟨_, _, hs, stamped_modify h2 j _ (fun _ _ => rfl) (fun x _ hx => by rw [c3] at hx; cases hx; exact c4.symm), isKey_modify h3 j _ (fun x hx => by rw [c3] at hx; cases hx; exact c4.symm), ?_⟩
    rw [(mget_at c2 hn).2 v]
    apply List.ext_getElem?
    intro i
    have e2 := congrArg (fun z => z[i]?) h4
    simp only [List.getElem?_map, Array.getElem?_toList] at e2
    simp only [List.getElem?_map, Array.getElem?_toList, Array.getElem?_modify, List.getElem?_set]
    by_cases hij : j = i
    · subst hij
      have hj2 : j < l.length := (List.getElem?_eq_some_iff.1 c2).1
      simp [c3, hj2]
    · simp [hij, e2]
section
variable {K V : Type} {d : TypeDesc} {kf : K → Value} {vf : V → Value} {h h' : Heap} {r : Nat} {l : List (K × V)}
theorem MapAt.put [DecidableEq K] (KO : KOk d kf) (M : MapAt d kf vf h (some r) l) (k : K) (v : V) : MapAt d kf vf (setM h r (kf k) (vf v)) (some r) (mput l k v) := MapH.put KO M k v
theorem MapAt.mk0 : MapAt d kf vf (h.push (.map #[] 0)) (some h.size) ([] : List (K × V)) := MapH.mk0 d h
theorem MapAt.old (M : MapAt d kf vf h (some r) l) (e : h'[r]? = h[r]?) : MapAt d kf vf h' (some r) l := MapH.old M e
theorem MapAt.ext {B : Nat} (M : MapAt d kf vf h (some r) l) (X : Ext B h h') (hb : r < B) : MapAt d kf vf h' (some r) l := MapH.old M (X.2 r hb)
theorem MapAt.lt (M : MapAt d kf vf h (some r) l) : r < h.size := MapH.lt M
theorem Ext.setM {B : Nat} (h : Heap) {r : Nat} (k v : Value) (hr : B ≤ r) : Ext B h (setM h r k v) := ⟨by rw [setM_size]; exact Nat.le_refl _, fun g hg => setM_other (by omega)⟩
end
/-! ### zero values -/
theorem zero_a {P : Program} {T : Tab} (hT : TOk P T) {t : Nat} {i : TI} {v : Value} (ht : tlk T t = some i) (ha : isA i.d = true) (hv : v = .agg i.z.toArray) (w : World) : (zeroValue t).run P w = .ok v w := by
  obtain ⟨u, h1, _, h3⟩ := run_zero hT ht w
  rw [hv, ← h3 ha]; exact h1
theorem zero_1 {P : Program} {T : Tab} (hT : TOk P T) {t : Nat} {i : TI} {v : Value} (ht : tlk T t = some i) (ha : isA i.d = false) (hv : i.z = [v]) (w : World) : (zeroValue t).run P w = .ok v w := by
  have h := hT _ _ ht
  unfold tiOk at h
  split at h
  · rename_i dd ti h1 h2
    simp only [Bool.and_eq_true] at h
    have hz := h.2
    unfold zob at hz
    split at hz
    · simp [ha] at hz
    · rename_i u hn hu
      simp only [Bool.and_eq_true, Bool.not_eq_true'] at hz
      have := zsb_eq hz.2
      rw [hv] at this
      simp at this; subst this
      simp [zeroValue, typeInfo, h2, hu]
    · cases hz
  · cases h
/-! ### the operations -/
section
variable {P : Program} {T : Tab} {e : Env} {h : Heap} {o : Oper} {K V : Type} {d : TypeDesc} {kf : K → Value} {vf : V → Value} {m : Option Nat} {l : List (K × V)}
theorem h_mkm {t b : Nat} {h' : Heap} (ho : o.op = .makeMap t none) (hb : b = h.size) (he : h' = h.push (.map #[] 0)) : Yh P e h o (.map (some b)) h' := by
  intro ρ w hA hw
  subst hb; subst he; subst hw
  exact ⟨{ w with heap := w.heap.push (.map #[] 0) }, ⟨rfl, rfl, rfl, rfl, fun _ => by first | exact Nat.le_refl _ | exact Nat.le_succ _⟩, .inl (by simp [execOp, ho, Instr.makeMap, newObj, Sem.run])⟩
theorem y_lk2 [DecidableEq K] {t kt et : Nat} {x y : Operand} {k : K} {z : V} (ho : o.op = .lookup t x y true) (hx : evO e x = some (.map m)) (hy : evO e y = some (kf k)) (ht : P.underlying t = some (.map kt et)) (hk : P.underlying kt = some d) (KO : KOk d kf)
    (hz : ∀ w, (zeroValue et).run P w = .ok (vf z) w) (hm : MapAt d kf vf h m l) : Yl P e h o (.tuple #[vf ((mget l k).getD z), .bool (mget l k).isSome]) := by
  intro ρ w hA hw
  subst hw
  cases m with
  | none =>
    have hl : l = [] := hm
    subst hl
    have hfk : (Instr.findKey kt (kf k) []).run P w = .ok none w := run_findKey hk rfl
    simp [execOp, ho, hA _ _ hx, hA _ _ hy, Instr.lookup, run_underlying ht, run_checkKey hk (KO.isK k), hfk, hz, mget, Result.andThen]
  | some r =>
    obtain ⟨es, ck, h1, h2, h3, h4, hl, hn, C⟩ := MapH.find KO hm k
    rcases C with ⟨_, c2, c3⟩ | ⟨j, u, e', _, c2, _, _, _, c3⟩
    · have hfk := run_findKey (w := w) hk c3
      simp [execOp, ho, hA _ _ hx, hA _ _ hy, Instr.lookup, run_underlying ht, MapKept.run_getObj_map h1, run_checkKey hk (KO.isK k), hfk, hz, mget_none c2, Result.andThen]
    · have hfk := run_findKey (w := w) hk c3
      simp [execOp, ho, hA _ _ hx, hA _ _ hy, Instr.lookup, run_underlying ht, MapKept.run_getObj_map h1, run_checkKey hk (KO.isK k), hfk, (mget_at c2 hn).1, Result.andThen]
theorem h_mu [DecidableEq K] {t kt et r : Nat} {x y z : Operand} {k : K} {v : V} {h' : Heap} (ho : o.op = .mapUpdate t x y z) (hx : evO e x = some (.map m)) (hy : evO e y = some (kf k)) (hz : evO e z = some (vf v)) (ht : P.underlying t = some (.map kt et)) (hk : P.underlying kt = some d) (KO : KOk d kf)
    (hr : m = some r) (hm : MapAt d kf vf h (some r) l) (he : h' = setM h r (kf k) (vf v)) : Yh P e h o undef h' := by
  intro ρ w hA hw
  subst he; subst hw; subst hr
  obtain ⟨es, ck, h1, h2, h3, h4, hl, hn, C⟩ := MapH.find KO hm k
  have hs : ∀ o', (setM w.heap r (kf k) (vf v))[r]? = some o' → w.heap.setIfInBounds r o' = setM w.heap r (kf k) (vf v) := fun o' h => by
    apply Array.ext_getElem?
    intro i
    have hlt := (Array.getElem?_eq_some_iff.1 h1).1
    by_cases hi : i = r
    · subst hi; rw [h]; simp [hlt]
    · rw [setM_other hi]; simp [Ne.symm hi]
  have hat := setM_at (k := kf k) (v := vf v) h1
  rcases C with ⟨c1, c2, c3⟩ | ⟨j, u, e', c1, c2, c4, c5, c6, c3⟩
  · rw [c1] at hat
    have hfk := run_findKey (w := w) hk c3
    refine ⟨{ w with heap := setM w.heap r (kf k) (vf v) }, ⟨rfl, rfl, rfl, rfl, fun _ => by first | exact Nat.le_refl _ | exact Nat.le_succ _⟩, .inr ⟨?_, rfl⟩⟩
    simp [execOp, ho, hA _ _ hx, hA _ _ hy, hA _ _ hz, Instr.mapUpdate, run_underlying ht, MapKept.run_getObj_map h1, run_checkKey hk (KO.isK k), hfk, MapKept.run_setObj_map _ h1, hs _ hat, Result.andThen]
  · rw [c1] at hat
    have hfk := run_findKey (w := w) hk c3
    have hst : (Instr.keyThatStays (kf k) (kf k)).run P w = .ok (kf k) w := run_keyThatStays (KO.isK k)
    refine ⟨{ w with heap := setM w.heap r (kf k) (vf v) }, ⟨rfl, rfl, rfl, rfl, fun _ => by first | exact Nat.le_refl _ | exact Nat.le_succ _⟩, .inr ⟨?_, rfl⟩⟩
    simp [execOp, ho, hA _ _ hx, hA _ _ hy, hA _ _ hz, Instr.mapUpdate, run_underlying ht, MapKept.run_getObj_map h1, run_checkKey hk (KO.isK k), hfk, c4, c5, hst, MapKept.run_setObj_map _ h1, hs _ hat, Result.andThen]
end
end Go.Q
