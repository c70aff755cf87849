/- A part of the proof of statements of this seat: lemmas, no statement of their own. -/
import Derived.Test.YtidhlagdagbggaaQConv
import Derived.Test.YtidhlagdagbggaaQPure
import Derived.Test.YtidhlagdagbggaaQArr
import Derived.Laws.BytesString
/- Strings and slices of bytes; copy. -/
namespace Go.Q
set_option linter.unusedVariables false
set_option linter.unusedSimpArgs false
/-- a string's bytes as numbers -/
def sB (s : ByteArray) : List Int := s.data.toList.map fun b => (b.toNat : Int)
def bsOf (l : List Int) : ByteArray := l.foldl (fun r n => r.push (UInt8.ofNat n.toNat)) ByteArray.empty
theorem sB_len (s : ByteArray) : (sB s).length = s.size := by simp [sB]
theorem sB_isB (s : ByteArray) : isB (sB s) := by
  intro x hx
  simp only [sB, List.mem_map] at hx
  obtain ⟨b, _, rfl⟩ := hx
  have := b.toNat_lt
  omega
theorem bsOf_go (l : List Int) : ∀ s : ByteArray, (l.foldl (fun r n => r.push (UInt8.ofNat n.toNat)) s).data.toList = s.data.toList ++ l.map fun n => UInt8.ofNat n.toNat := by
  induction l with
  | nil => intro s; simp
  | cons n l ih => intro s; rw [List.foldl_cons, ih]; simp [ByteArray.push]
theorem bsOf_list (l : List Int) : (bsOf l).data.toList = l.map fun n => UInt8.ofNat n.toNat := by
  rw [bsOf, bsOf_go]; rfl
theorem bsOf_size (l : List Int) : (bsOf l).size = l.length := by
  have := congrArg List.length (bsOf_list l)
  simpa using this
theorem sB_bsOf {l : List Int} (h : isB l) : sB (bsOf l) = l := by
  rw [sB, bsOf_list, List.map_map]
  conv => rhs; rw [← List.map_id l]
  apply List.map_congr_left
  intro n hn
  have := h n hn
  simp [UInt8.toNat_ofNat']
  omega
theorem bsOf_sB (s : ByteArray) : bsOf (sB s) = s := by
  have : (bsOf (sB s)).data = s.data := by
    apply Array.toList_inj.1
    rw [bsOf_list, sB, List.map_map]
    conv => rhs; rw [← List.map_id s.data.toList]
    apply List.map_congr_left
    intro n hn
    simp
  exact ByteArray.ext this
theorem sB_inj {s t : ByteArray} (h : sB s = sB t) : s = t := by rw [← bsOf_sB s, h, bsOf_sB]
section
variable {P : Program} {T : Tab} {e : Env} {h : Heap} {o : Oper}
theorem y_b2s (hT : TOk P T) {ts td el n1 b1 n2 b2 n3 b3 : Nat} {z1 z2 z3 : List Value} {x : Operand} {s : Slc} {l : List Int} (ho : o.op = .convert ts td x) (hx : evO e x = some s.v)
    (ht : tlk T ts = some ⟨.slice el, n1, b1, z1⟩) (hel : tlk T el = some ⟨.int .u8, n2, b2, z2⟩) (hd : tlk T td = some ⟨.string, n3, b3, z3⟩) (hl : l.length = s.len) (hs : SlcAt h s (b8 l)) : Yl P e h o (.string (bsOf l)) := by
  intro ρ w hA hw
  subst hw
  obtain ⟨t1, k1, k3⟩ := tk_spec hT ht
  rw [ty_slice k3] at k1
  obtain ⟨t2, l1, l3⟩ := tk_spec hT hel
  rw [ty_int l3] at l1
  obtain ⟨t3, m1, m3⟩ := tk_spec hT hd
  rw [ty_string m3] at m1
  have hc := run_convert_bytes_string w ts td el s.a s.len s.cap k1 l1 m1
  have hv : ρ x = .slice s.a s.len s.cap := hA _ _ hx
  have : (convert ts td (.slice s.a s.len s.cap)).run P w = .ok (.string (bsOf l)) w := by
    rw [hc]
    cases ha : s.a with
    | none =>
      have := hs.1 ha
      simp at this
      subst this
      simp [Conv.bytesToString, bsOf]
    | some a =>
      refine run_bytesToString w a s.len s.cap l ?_
      have := run_loadCells_list (P := P) (w := w) a (b8 l) (fun j v hj => hs.2 a ha j v hj)
      rw [List.length_map, hl] at this
      exact this
  simp [execOp, ho, hv, this]
/-- []byte of a string: a row of its own, marked -/
def S2B (el : Nat) (h : Heap) (s : ByteArray) (k : Slc → Heap → Prop) : Prop :=
  ∀ c, s.size ≤ c → c ≤ maxLen → k ⟨some ⟨h.size, 0, none⟩, s.size, c⟩ (h.push (.cells (b8 (sB s) ++ List.replicate (c - s.size) (Value.int .u8 0)).toArray el (c, c + 1)))
theorem a_s2b (hT : TOk P T) {ts td el n1 b1 n2 b2 n3 b3 : Nat} {z1 z2 z3 : List Value} {x : Operand} {s : ByteArray} {k : Slc → Heap → Prop} (ho : o.op = .convert td ts x) (hx : evO e x = some (.string s))
    (ht : tlk T ts = some ⟨.slice el, n1, b1, z1⟩) (hel : tlk T el = some ⟨.int .u8, n2, b2, z2⟩) (hd : tlk T td = some ⟨.string, n3, b3, z3⟩) (hm : s.size ≤ maxLen)
    (H : S2B el h s k) : Ya P e h o fun v h' => ∃ s', v = s'.v ∧ k s' h' := by
  intro ρ w hA hw
  subst hw
  obtain ⟨t1, k1, k3⟩ := tk_spec hT ht
  rw [ty_slice k3] at k1
  obtain ⟨t2, l1, l3⟩ := tk_spec hT hel
  rw [ty_int l3] at l1
  obtain ⟨t3, m1, m3⟩ := tk_spec hT hd
  rw [ty_string m3] at m1
  have hge := grownCap_ge w s.size 0 el
  have hle := grownCap_le_maxLen w s.size 0 el hm
  have K := H _ hge hle
  generalize hc : grownCap w s.size 0 el = c at *
  have hcells : (s.data.map fun b => Value.int .u8 (b.toNat : Int)) ++ Array.replicate (c - s.size) (Value.int .u8 0) = (b8 (sB s) ++ List.replicate (c - s.size) (Value.int .u8 0)).toArray := by
    apply Array.toList_inj.1
    simp [sB, Function.comp_def]
  have hlen : (b8 (sB s) ++ List.replicate (c - s.size) (Value.int .u8 0)).length = c := by
    simp [sB_len]; omega
  generalize b8 (sB s) ++ List.replicate (c - s.size) (Value.int .u8 0) = cs at *
  refine ⟨(⟨some ⟨w.heap.size, 0, none⟩, s.size, c⟩ : Slc).v, (w.drew.alloc (.cells cs.toArray el)).freeze ⟨w.heap.size, c, none⟩ 1, ⟨rfl, rfl, rfl, rfl, fun _ => by first | exact Nat.le_refl _ | exact Nat.le_succ _⟩, ⟨_, rfl, ?_⟩, ?_⟩
  · have e : ((w.drew.alloc (.cells cs.toArray el)).freeze ⟨w.heap.size, c, none⟩ 1).heap = w.heap.push (.cells cs.toArray el (c, c + 1)) := by
      unfold World.freeze
      rw [if_neg (by decide)]
      simp only [show (w.drew.alloc (.cells cs.toArray el)).heap = w.heap.push (.cells cs.toArray el) from rfl]
      apply Array.ext
      · simp
      · intro i h1 h2
        simp only [Array.getElem_modify, Array.getElem_push]
        by_cases hi : w.heap.size = i
        · subst hi; simp
        · have : i < w.heap.size := by simp at h1; omega
          simp [hi, this]
    rw [e]; exact K
  · have hs : (w.drew.alloc (.cells cs.toArray el)).shape? w.heap.size = some (el, cs.length) := by
      have : (w.drew.alloc (.cells cs.toArray el)).heap[w.heap.size]? = some (.cells cs.toArray el) := by
        show (w.heap.push (.cells cs.toArray el))[w.heap.size]? = _
        simp
      unfold World.shape?
      rw [this]; simp
    have hq : Question.cut (.appendCap s.size 0 el) (w.tape w.drawn (.appendCap s.size 0 el)) = c := hc
    simp [execOp, ho, hA _ _ hx, convert, run_underlying k1, run_underlying l1, run_underlying m1, Conv.stringToBytes, Question.forced, newRow, markStringish]
    rw [hq, hcells, hs]
    simp [hlen, Slc.v]
theorem run_firstCells_str {n : Nat} {s : ByteArray} (w : World) : (Builtin.firstCells n s.size (.string s)).run P w = .ok (b8 (sB s)).toArray w := by
  have : s.extract 0 s.size = s := by
    apply ByteArray.ext
    simp
  simp [Builtin.firstCells, this]
  apply Array.toList_inj.1
  simp [sB, Function.comp_def]
/-- a string's bytes are appended -/
theorem a_apps (hT : TOk P T) {t ts el n1 b1 n3 b3 : Nat} {z1 z3 : List Value} {i : TI} {x y : Operand} {s : Slc} {str : ByteArray} {k : Slc → Heap → Prop}
    (ho : o.op = .call { callee := .builtin .append, args := #[x, y], argTypes := #[t, ts] }) (hx : evO e x = some s.v) (hy : evO e y = some (.string str)) (ht : tlk T t = some ⟨.slice el, n1, b1, z1⟩) (hd : tlk T ts = some ⟨.string, n3, b3, z3⟩) (hi : tlk T el = some i)
    (H : App el i.n i.b i.z h s str.size (b8 (sB str)) k) : Ya P e h o fun v h' => ∃ s', v = s'.v ∧ k s' h' := by
  intro ρ w hA hw
  subst hw
  obtain ⟨td, k1, k3⟩ := tk_spec hT ht
  rw [ty_slice k3] at k1
  obtain ⟨t3, m1, m3⟩ := tk_spec hT hd
  rw [ty_string m3] at m1
  obtain ⟨ti, i1, i2, i3, zv, i4, i5⟩ := tI hT hi
  obtain ⟨g1, g2, g3, g4, g5, g6⟩ := H
  have hzv : zv.cells = i.z.toArray := Array.toList_inj.1 (by simpa using i5)
  by_cases hroom : s.len + str.size ≤ s.cap
  · obtain ⟨c1, c2, c3⟩ := g5 hroom
    have hf := run_firstCells_str (P := P) (n := i.n) (s := str) w
    obtain ⟨a, len, cap⟩ := s
    cases a with
    | none =>
      refine ⟨(⟨none, len + str.size, cap⟩ : Slc).v, w, WW.self w, ⟨⟨none, len + str.size, cap⟩, rfl, c3⟩, ?_⟩
      simp [execOp, ho, resolve, invoke, builtin, hA _ _ hx, hA _ _ hy, Builtin.append_, run_underlying k1, run_underlying m1, sizeOf, typeInfo, i1, i2]
      simp only at hroom
      simp [Builtin.lenOf, hroom, hf]
    | some a =>
      obtain ⟨w', k5, k6⟩ := run_storeCells P (a.add (len * i.n)) (b8 (sB str)) 0 w (by simpa [WrsAt] using c2 a rfl) g2
      refine ⟨(⟨some a, len + str.size, cap⟩ : Slc).v, w', ?_, ⟨⟨some a, len + str.size, cap⟩, rfl, ?_⟩, ?_⟩
      · exact ⟨k5.os, k5.tape, k5.output, rfl, k5.dr⟩
      · rw [k5.heap]; exact c3
      · simp only at hroom
        simp [execOp, ho, resolve, invoke, builtin, hA _ _ hx, hA _ _ hy, Builtin.append_, run_underlying k1, run_underlying m1, sizeOf, typeInfo, i1, i2]
        simp [Builtin.lenOf, hroom, hf, k6]
  · obtain ⟨olds, o1, o2, o3⟩ := g6 (by omega)
    have hge := grownCap_ge w (s.len + str.size) s.cap el
    have hle := grownCap_le_maxLen w (s.len + str.size) s.cap el g4
    have hfo := run_firstCells (P := P) (n := s.len) (sz := i.n) w.drew (s := s) o1 o2 (fun _ => .inr trivial)
    have hfn := run_firstCells_str (P := P) (n := i.n) (s := str) w.drew
    refine ⟨(⟨some ⟨w.heap.size, 0, none⟩, s.len + str.size, grownCap w (s.len + str.size) s.cap el⟩ : Slc).v, w.drew.alloc (.cells (olds.toArray ++ (b8 (sB str)).toArray ++ Builtin.zeroCells i.z.toArray (grownCap w (s.len + str.size) s.cap el - (s.len + str.size))) el), ?_, ⟨⟨some ⟨w.heap.size, 0, none⟩, s.len + str.size, grownCap w (s.len + str.size) s.cap el⟩, rfl, ?_⟩, ?_⟩
    · exact ⟨rfl, rfl, rfl, rfl, fun _ => by first | exact Nat.le_refl _ | exact Nat.le_succ _⟩
    · exact o3 _ hge hle
    · have h63 : s.len + str.size ≤ 9223372036854775807 := by simp only [maxLen] at g4; omega
      have hfit := growslice_fits (need := s.len + str.size) (old := s.cap) (bytes := i.b) (by omega) g3
      have h63' : ¬ (9223372036854775807 < ((s.len : Int) + (str.size : Int))) := by omega
      have h48' : ¬ (281474976710656 < Builtin.nextslicecap (s.len + str.size) s.cap * i.b) := by omega
      simp [execOp, ho, resolve, invoke, builtin, hA _ _ hx, hA _ _ hy, Builtin.append_, run_underlying k1, run_underlying m1, sizeOf, typeInfo, zeroValue, i1, i2, i3, i4, Builtin.lenOf, hroom, h63', h48', Question.forced, newRow, grownCap]
      simp [hfo, hfn]
      rw [hzv]
      congr 2
      apply Array.ext'
      simp
/-- copy: so many cells of the second are written into the first -/
def Cpy (sz : Nat) (h : Heap) (d s : Slc) (news : List Value) (k : Heap → Prop) : Prop :=
  (∃ all, SlcAt h s all ∧ all.length = s.len * sz ∧ news = all.take (min s.len d.len * sz)) ∧ (∀ v ∈ news, v.oneCell' = true) ∧ (d.a = none → news = []) ∧ (∀ a, d.a = some a → WrsAt h a news.length) ∧ k (match d.a with | some a => setsH h a 0 news | none => h)
theorem a_cpy (hT : TOk P T) {t t' el n1 b1 : Nat} {z1 : List Value} {i : TI} {x y : Operand} {d s : Slc} {news : List Value} {k : Heap → Prop}
    (ho : o.op = .call { callee := .builtin .copy, args := #[x, y], argTypes := #[t, t'] }) (hx : evO e x = some d.v) (hy : evO e y = some s.v) (ht : tlk T t = some ⟨.slice el, n1, b1, z1⟩) (hi : tlk T el = some i)
    (H : Cpy i.n h d s news k) : Ya P e h o fun v h' => v = .int .i64 (min s.len d.len : Nat) ∧ k h' := by
  intro ρ w hA hw
  subst hw
  obtain ⟨td, k1, k3⟩ := tk_spec hT ht
  rw [ty_slice k3] at k1
  obtain ⟨⟨all, a1, a2, a3⟩, h1, hn, hwr, K⟩ := H
  have hs2 : SlcAt w.heap s news := by
    refine ⟨fun h0 => ?_, fun a ha j v hj => ?_⟩
    · rw [a3, a1.1 h0]; simp
    · rw [a3, List.getElem?_take] at hj
      split at hj
      · exact a1.2 a ha j v hj
      · cases hj
  have hl2 : news.length = min s.len d.len * i.n := by
    rw [a3, List.length_take, a2]
    exact Nat.min_eq_left (Nat.mul_le_mul_right _ (Nat.min_le_left _ _))
  have hf : (Builtin.firstCells i.n (min s.len d.len) s.v).run P w = .ok news.toArray w := run_firstCells w hl2 hs2 (fun _ => .inr trivial)
  obtain ⟨a, len, cap⟩ := d
  cases a with
  | none =>
    refine ⟨_, w, WW.self w, ⟨rfl, K⟩, ?_⟩
    simp only [Slc.v] at hf ⊢
    simp [execOp, ho, resolve, invoke, builtin, hA _ _ hx, hA _ _ hy, Builtin.copy_, run_underlying k1, run_sizeOf' (hT _ _ hi), Builtin.lenOf, goInt, Nat.min_def]
    rw [Nat.min_def] at hf
    have hf' : (Builtin.firstCells i.n (if s.len ≤ len then s.len else len) s.v).run P w = .ok news.toArray w := hf
    simp [hf']
  | some a =>
    obtain ⟨w', k5, k6⟩ := run_storeCells P a news 0 w (by simpa [WrsAt] using hwr a rfl) h1
    refine ⟨_, w', ⟨k5.os, k5.tape, k5.output, rfl, k5.dr⟩, ⟨rfl, by rw [k5.heap]; exact K⟩, ?_⟩
    simp only [Slc.v] at hf ⊢
    simp [execOp, ho, resolve, invoke, builtin, hA _ _ hx, hA _ _ hy, Builtin.copy_, run_underlying k1, run_sizeOf' (hT _ _ hi), Builtin.lenOf, hf, goInt, k6]
theorem y_cat {ty t : Nat} {x y : Operand} {a b : ByteArray} (ho : o.op = .binOp .add t x y ty) (hx : evO e x = some (.string a)) (hy : evO e y = some (.string b)) (hl : a.size + b.size ≤ 9223372036854775807) : Yl P e h o (.string (a ++ b)) := by
  intro ρ w hA hw
  have : ¬ (((a.size + b.size : Nat) : Int) > IntKind.i64.max) := by simp [IntKind.max, IntKind.signed, IntKind.bits]; omega
  simp [execOp, ho, hA _ _ hx, hA _ _ hy, binOp, Op.stringOp, run_eqGuard_ok, this]
  omega
end
/-! ### arrays of numbers, each place written out -/
def arrG (k : IntKind) (l : List Int) : Nat → Nat → List Value
  | 0, _ => []
  | n + 1, i => Value.int k (l.getD i 0) :: arrG k l n (i + 1)
def arr (n : Nat) (k : IntKind) (l : List Int) : List Value := arrG k l n 0
def nrm (n : Nat) (l : List Int) : List Int := (List.range n).map fun i => l.getD i 0
theorem arrG_map (k : IntKind) (l : List Int) : ∀ n i, arrG k l n i = (List.range n).map fun j => Value.int k (l.getD (i + j) 0)
  | 0, i => rfl
  | n + 1, i => by
    rw [arrG, arrG_map k l n (i + 1), List.range_succ_eq_map]
    simp only [List.map_cons, List.map_map, Nat.add_zero]
    congr 1
    apply List.map_congr_left
    intro j _
    simp only [Function.comp, Nat.succ_eq_add_one]
    rw [show i + 1 + j = i + (j + 1) from by omega]
theorem arr_nrm (n : Nat) (k : IntKind) (l : List Int) : arr n k l = (nrm n l).map (Value.int k) := by
  rw [arr, arrG_map, nrm, List.map_map]
  apply List.map_congr_left
  intro j _
  simp
theorem nrm_len (n : Nat) (l : List Int) : (nrm n l).length = n := by simp [nrm]
theorem arr_len (n : Nat) (k : IntKind) (l : List Int) : (arr n k l).length = n := by rw [arr_nrm, List.length_map, nrm_len]
theorem nrm_get (n : Nat) (l : List Int) {i : Nat} (hi : i < n) : (nrm n l)[i]? = some (l.getD i 0) := by
  simp [nrm, hi]
theorem nrm_id {n : Nat} {l : List Int} (h : l.length = n) : nrm n l = l := by
  apply List.ext_getElem?
  intro i
  by_cases hi : i < n
  · rw [nrm_get n l hi, List.getElem?_eq_getElem (by omega), List.getD_eq_getElem?_getD, List.getElem?_eq_getElem (by omega)]; rfl
  · rw [List.getElem?_eq_none (by rw [nrm_len]; omega), List.getElem?_eq_none (by omega)]
theorem arr_id {n : Nat} {k : IntKind} {l : List Int} (h : l.length = n) : arr n k l = l.map (Value.int k) := by rw [arr_nrm, nrm_id h]
theorem oneC {l : List Value} (h : l.all (fun v => v.oneCell') = true) : ∀ v ∈ l, v.oneCell' = true := fun v hv => List.all_eq_true.1 h v hv
section
variable {P : Program} {T : Tab} {e : Env} {h : Heap} {o : Oper}
theorem y_ixr (hT : TOk P T) {t el n : Nat} {x y : Operand} {xs : List Int} {kk k : IntKind} {ix : Int} {n1 b1 n2 b2 : Nat} {z1 z2 : List Value} (ho : o.op = .index t x y) (hx : evO e x = some (.agg (arr n kk xs).toArray)) (hy : evO e y = some (.int k ix))
    (ht : tlk T t = some ⟨.array n el, n1, b1, z1⟩) (hi : tlk T el = some ⟨.int kk, n2, b2, z2⟩) (hn2 : Nat.beq n2 1 = true) (h0 : 0 ≤ ix) (h1 : ix < n) : Yl P e h o (.int kk (xs.getD ix.toNat 0)) := by
  have e1 : n2 = 1 := Nat.eq_of_beq_eq_true hn2
  subst e1
  refine y_ixv hT ho hx hy ht hi rfl h0 h1 ?_
  show (arr n kk xs)[ix.toNat * 1]? = _
  rw [Nat.mul_one, arr_nrm, List.getElem?_map, nrm_get n xs (by omega)]; rfl
theorem y_eqr (hT : TOk P T) {op : BinOp} {t el n : Nat} {k : IntKind} {n1 b1 n2 b2 : Nat} {z1 z2 : List Value} {x y : Operand} {yt : Nat} {xs ys : List Int} (hop : op = .eql ∨ op = .neq)
    (ho : o.op = .binOp op t x y yt) (hx : evO e x = some (.agg (arr n k xs).toArray)) (hy : evO e y = some (.agg (arr n k ys).toArray)) (ht : tlk T t = some ⟨.array n el, n1, b1, z1⟩) (hi : tlk T el = some ⟨.int k, n2, b2, z2⟩)
    (hn2 : Nat.beq n2 1 = true) (hg : P.eqGuardType P.depth t = false) : Yl P e h o (.bool (if op = .eql then (nrm n xs == nrm n ys) else !(nrm n xs == nrm n ys))) := by
  rw [arr_nrm] at hx hy
  exact y_eqa hT hop ho hx hy ht hi hn2 (nrm_len _ _) (nrm_len _ _) hg
end
/-! ### functions as values -/
theorem arrcat (vs cap : List Value) : (#[] ++ vs.toArray ++ cap.toArray : Array Value) = (vs ++ cap).toArray := by simp
theorem w_callv {c : Cx} {lops : List Oper} {Q : Exit → Act → World → Prop} {K : Act → World → Prop} {l : List Oper} {e : Env} {h : Heap} {o : Oper} {f : FuncId} {x : Operand} {as : List Operand} {ts : Array TypeId} {vs cap : List Value} {Φ : Value → Heap → Prop}
    (hf : CallOk c.P f) (hc : CallsHD c.D c.P f (vs ++ cap).toArray h Φ) (ho : o.op = .call { callee := .value x, args := as.toArray, argTypes := ts }) (hx : evO e x = some (.func (.func f) #[] cap.toArray)) (hv : evs e as = some vs) (hw : wnt lops e o = some true) (hd : dOk c.N o.dst = true)
    (H : ∀ v h', Φ v h' → gop c lops Q K l (pu e o.dst v) h') : gop c lops Q K (o :: l) e h := by
  have := y_call (P := c.P) (e := e) (o := o) hf ho hx hv
  rw [arrcat] at this
  exact w_c hc this hw hd H
theorem q_callv {c : Cx} {lops : List Oper} {q : Act → Prop} {l : List Oper} {e : Env} {h : Heap} {o : Oper} {f : FuncId} {x : Operand} {as : List Operand} {ts : Array TypeId} {vs cap : List Value} {v : Value}
    (hf : CallOk c.P f) (hc : CallsHD c.D c.P f (vs ++ cap).toArray h fun v' h' => v' = v ∧ h' = h) (ho : o.op = .call { callee := .value x, args := as.toArray, argTypes := ts }) (hx : evO e x = some (.func (.func f) #[] cap.toArray)) (hv : evs e as = some vs) (hw : wnt lops e o = some true) (hd : dOk c.N o.dst = true)
    (H : gq c lops h q l (pu e o.dst v)) : gq c lops h q (o :: l) e := by
  have := y_call (P := c.P) (e := e) (o := o) hf ho hx hv
  rw [arrcat] at this
  exact q_c hc this hw hd H
theorem y_mkf {P : Program} {e : Env} {h : Heap} {o : Oper} {fn : Fn} {as : List Operand} {vs : List Value} (ho : o.op = .makeFunc fn #[] as.toArray) (hv : evs e as = some vs) : Yl P e h o (.func fn #[] vs.toArray) := by
  intro ρ w hA hw
  have hm := evs_map hA _ _ hv
  simp [execOp, ho, Instr.makeFunc, hm]
end Go.Q
