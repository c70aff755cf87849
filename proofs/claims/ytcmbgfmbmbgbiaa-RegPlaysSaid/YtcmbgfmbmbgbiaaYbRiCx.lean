/- A part of the proof of statements of this seat: lemmas, no statement of their own. -/
import Derived.Test.YtcmbgfmbmbgbiaaYbRhKx
import Derived.Test.YtcmbgfmbmbgbiaaYbRhF
set_option linter.unusedVariables false
set_option linter.unusedSimpArgs false
namespace Go.Q.Yb
/-! ### the document's registry in memory -/
theorem add_off (a : Addr) (i : Nat) : (a.add i).off = a.off + i := by unfold Addr.add; split <;> simp_all
theorem setsH_ne : ∀ (vs : List Value) {h : Heap} {a p : Addr} (i : Nat), (∀ j, j < vs.length → p.block ≠ a.block ∨ p.off ≠ a.off + (i + j)) → cellH (setsH h a i vs) p = cellH h p
  | [], h, a, p, i, _ => rfl
  | v :: r, h, a, p, i, H => by
    show cellH (setsH (setH h (a.add i) v) a (i + 1) r) p = _
    rw [setsH_ne r (i + 1) fun j hj => by have := H (j + 1) (by simp; omega); rw [show i + 1 + j = i + (j + 1) from by omega]; exact this]
    refine cellH_setH_ne ?_
    have := H 0 (by simp)
    rw [add_block, add_off]
    simpa using this
/-- what a tenant's row suffers leaves keys as they were -/
structure Soft (h h' : Heap) : Prop where
  size : h.size ≤ h'.size
  u8 : ∀ a v, cellH h a = some (.int .u8 v) → cellH h' a = some (.int .u8 v)
  u32 : ∀ a v, cellH h a = some (.int .u32 v) → cellH h' a = some (.int .u32 v)
  nx : ∀ a w v, cellH h a = some (.int .u8 w) → cellH h (a.add 1) = some v → cellH h' (a.add 1) = some v
  mp : ∀ (g : Nat) (es : Array MapEntry) (ck : Nat), h[g]? = some (Obj.map es ck) → h'[g]? = h[g]?
  bk : ∀ (g : Nat) (cs : List Value), Blk h g cs 212 → h'[g]? = h[g]?
theorem map_lt {h : Heap} {g : Nat} {o : Obj} (e : h[g]? = some o) : g < h.size := (Array.getElem?_eq_some_iff.1 e).1
theorem Soft.of_ext {h h' : Heap} (X : Ext h.size h h') : Soft h h' :=
  ⟨X.size, fun a v hc => X.cellAt hc, fun a v hc => X.cellAt hc, fun a w v _ hc => X.cellAt hc, fun g es ck e => X.block g (map_lt e), fun g cs B => X.block g B.lt⟩
theorem Soft.refl (h : Heap) : Soft h h := Soft.of_ext (Ext.refl _ _)
theorem Soft.trans {x y z : Heap} (p : Soft x y) (q : Soft y z) : Soft x z :=
  ⟨Nat.le_trans p.size q.size, fun a v hc => q.u8 a v (p.u8 a v hc), fun a v hc => q.u32 a v (p.u32 a v hc), fun a w v h1 h2 => q.nx a w v (p.u8 a w h1) (p.nx a w v h1 h2),
    fun g es ck e => by rw [q.mp g es ck (by rw [p.mp g es ck e]; exact e), p.mp g es ck e], fun g cs B => by rw [q.bk g cs (B.old (p.bk g cs B)), p.bk g cs B]⟩
theorem tcs_soft {t : S_api_Tenant} {v : Value} (h : v ∈ S_api_Tenant.cs t) : (∀ n, v ≠ .int .u8 n) ∧ ∀ n, v ≠ .int .u32 n := by
  have : v ∈ [Value.string t.f_Name, Slc.v t.f_Keys, Value.int .i64 t.f_Horizon, Value.bool t.f_Shredded] := h
  simp only [List.mem_cons, List.not_mem_nil, or_false] at this
  rcases this with rfl | rfl | rfl | rfl <;> exact ⟨fun n e => (by cases e), fun n e => (by cases e)⟩
theorem cell_spot {h : Heap} {a : Addr} {v : Value} (hc : cellH h a = some v) : a.spot = none := by
  unfold cellH at hc
  split at hc
  · cases hs : a.spot with
    | none => rfl
    | some x => rw [hs] at hc; simp at hc
  · cases hc
theorem cell_mk {h : Heap} {a : Addr} {v : Value} (hc : cellH h a = some v) {g o : Nat} (hb : a.block = g) (ho : a.off = o) : cellH h ⟨g, o, none⟩ = some v := by
  have := cell_spot hc
  obtain ⟨b, o', sp⟩ := a
  simp only at hb ho this
  subst hb; subst ho; subst this
  exact hc
theorem _root_.Go.Q.Row.tc {B : Nat} {h : Heap} {s : Slc} {qs : List TZ} (R : Row B h 130 4 s (qs.flatMap tcs)) {g o : Nat} (ha : s.a = some ⟨g, 0, none⟩) (ho : o < s.len * 4) {v : Value} (hc : cellH h ⟨g, o, none⟩ = some v) : (∀ n, v ≠ .int .u8 n) ∧ ∀ n, v ≠ .int .u32 n := by
  obtain ⟨a, h1, h2⟩ := R.at ho
  rw [ha] at h1; cases h1
  rw [add_mk, Nat.zero_add, hc] at h2
  have := List.mem_of_getElem? h2.symm
  obtain ⟨q, _, hq⟩ := List.mem_flatMap.1 this
  exact tcs_soft hq
theorem _root_.Go.Q.Row.a0 {B E w : Nat} {h : Heap} {s : Slc} {xs : List Value} (R : Row B h E w s xs) {a : Addr} (ha : s.a = some a) : ∃ g cur, a = ⟨g, 0, none⟩ ∧ B ≤ g ∧ Blk h g cur E := by
  rcases R.2.2 with ⟨k, _⟩ | ⟨g, cur, a1, a2, a3, _⟩
  · rw [k] at ha; cases ha
  · rw [ha] at a1; cases a1; exact ⟨g, cur, rfl, a2, a3⟩
theorem Soft.row {B : Nat} {h : Heap} {s : Slc} {qs : List TZ} (R : Row B h 130 4 s (qs.flatMap tcs)) (hl : s.len = qs.length) {i : Nat} (hi : i < qs.length) (t : S_api_Tenant) {a : Addr} (ha : s.a = some a) :
    Soft h (setsH h (a.add (i * 4)) 0 (S_api_Tenant.cs t)) := by
  obtain ⟨g, cur, rfl, _, K⟩ := R.a0 ha
  rw [add_mk, Nat.zero_add]
  have il : i * 4 + 4 ≤ s.len * 4 := by omega
  have away : ∀ {p : Addr} {v : Value}, cellH h p = some v → (∃ n, v = .int .u8 n) ∨ (∃ n, v = .int .u32 n) → cellH (setsH h ⟨g, i * 4, none⟩ 0 (S_api_Tenant.cs t)) p = some v := fun {p v} hc hv => by
    rw [setsH_ne, hc]
    intro j hj
    rw [tcs_len] at hj
    by_cases hb : p.block = g
    · refine .inr fun ho => ?_
      have hs := R.tc ha (o := i * 4 + (0 + j)) (by omega) (cell_mk hc hb ho)
      rcases hv with ⟨n, e⟩ | ⟨n, e⟩
      · exact hs.1 n e
      · exact hs.2 n e
    · exact .inl hb
  refine ⟨by rw [setsH_size]; exact Nat.le_refl _, fun p v hc => away hc (.inl ⟨v, rfl⟩), fun p v hc => away hc (.inr ⟨v, rfl⟩), fun p w v h1 h2 => ?_, fun g' es ck e => setsH_other _ _ fun hg => ?_, fun g' cs Q => setsH_other _ _ fun hg => ?_⟩
  · rw [setsH_ne, h2]
    intro j hj
    rw [tcs_len] at hj
    rw [add_block, add_off]
    by_cases hb : p.block = g
    · refine .inr fun ho => ?_
      simp only at ho
      exact (R.tc ha (o := i * 4 + (0 + j) - 1) (by omega) (cell_mk h1 hb (by omega))).1 w rfl
    · exact .inl hb
  · simp only at hg
    subst hg
    exact Blk.notMap K _ _ e
  · simp only at hg
    subst hg
    exact absurd (K.inj Q).2 (by decide)
theorem Soft.reg {h : Heap} {rb : Nat} {s : Slc} {v : Value} (P : Blk h rb (S_quaestorref25_Reg.cs ⟨s⟩) 139) : Soft h (setH h ⟨rb, 0, none⟩ v) := by
  have c0 : cellH h ⟨rb, 0, none⟩ = some (Slc.v s) := by rw [P.cell]; rfl
  have away : ∀ {p : Addr} {w : Value}, cellH h p = some w → (∀ x, w ≠ Slc.v x) → cellH (setH h ⟨rb, 0, none⟩ v) p = some w := fun {p w} hc hv => by
    rw [cellH_setH_ne, hc]
    by_cases hb : p.block = rb
    · refine .inr fun ho => ?_
      have := cell_mk hc hb ho
      rw [c0] at this
      exact hv s (Option.some.inj this).symm
    · exact .inl hb
  refine ⟨by rw [setH_size]; exact Nat.le_refl _, fun p v hc => away hc (fun x e => by cases e), fun p v hc => away hc (fun x e => by cases e), fun p w v h1 h2 => ?_, fun g' es ck e => setH_other fun hg => ?_, fun g' cs Q => setH_other fun hg => ?_⟩
  · rw [cellH_setH_ne (.inr (by rw [add_off]; show p.off + 1 ≠ 0; omega)), h2]
  · simp only at hg
    subst hg
    exact Blk.notMap P _ _ e
  · simp only at hg
    subst hg
    exact absurd (P.inj Q).2 (by decide)
theorem arr_u8 {l : List Int} {j : Nat} (hj : j < 12) : ∃ v, (arr 12 .u8 l)[j]? = some (.int .u8 v) := by
  rw [arr_nrm]
  have : j < (nrm 12 l).length := by rw [nrm_len]; exact hj
  exact ⟨(nrm 12 l)[j], by rw [List.getElem?_map, List.getElem?_eq_getElem this]; rfl⟩
theorem wcs_get {w : S_api_Wrapped} {j : Nat} {v : Value} (h : (S_api_Wrapped.cs w)[j]? = some v) : (∃ n, v = .int .u8 n ∧ j ≠ 13) ∨ (∃ n, v = .int .u32 n) ∨ (j = 13 ∧ ∃ n, (S_api_Wrapped.cs w)[12]? = some (.int .u8 n)) := by
  have hl := (List.getElem?_eq_some_iff.1 h).1
  rw [wcs_len] at hl
  have e : S_api_Wrapped.cs w = .int .u32 w.f_Epoch :: (arr 12 .u8 w.f_Nonce ++ [Slc.v w.f_B]) := rfl
  rw [e] at h ⊢
  match j, h with
  | 0, h => cases h; exact .inr (.inl ⟨_, rfl⟩)
  | j + 1, h =>
    rw [List.getElem?_cons_succ] at h
    by_cases hj : j < 12
    · obtain ⟨n, hn⟩ := arr_u8 (l := w.f_Nonce) hj
      rw [List.getElem?_append_left (by rw [arr_nrm, List.length_map, nrm_len]; exact hj), hn] at h
      cases h
      exact .inl ⟨n, rfl, by omega⟩
    · obtain ⟨n, hn⟩ := arr_u8 (l := w.f_Nonce) (j := 11) (by omega)
      refine .inr (.inr ⟨by omega, n, ?_⟩)
      rw [List.getElem?_cons_succ, List.getElem?_append_left (by rw [arr_nrm, List.length_map, nrm_len]; omega), hn]
theorem KAt.soft {h h' : Heap} {s : Slc} {zs : List Z} (K : KAt h s zs) (S : Soft h h') : KAt h' s zs := by
  refine ⟨⟨K.1.l, fun i x hx => ?_⟩, fun z hz => ?_⟩
  · obtain ⟨a, ha, C⟩ := K.1.at' i x hx
    refine ⟨a, ha, fun j v hj => ?_⟩
    have hc := C j v hj
    rcases wcs_get hj with ⟨n, rfl, _⟩ | ⟨n, rfl⟩ | ⟨rfl, n, hn⟩
    · exact S.u8 _ _ hc
    · exact S.u32 _ _ hc
    · have h12 := C 12 _ hn
      have e : ∀ b : Addr, b.add 13 = (b.add 12).add 1 := fun b => (add_add2 b 12 1).symm
      rw [e] at hc ⊢
      exact S.nx _ _ _ h12 hc
  · obtain ⟨D, q⟩ := K.2 z hz
    refine ⟨⟨D.1, fun a ha j v hj => ?_⟩, q⟩
    have hc := D.2 a ha j v hj
    obtain ⟨n, _, rfl⟩ := List.mem_map.1 (List.mem_of_getElem? hj)
    exact S.u8 _ _ hc
theorem RegAt.soft {b : Nat} {h h' : Heap} {r m : Nat} {L : List (ByteArray × TZ)} (R : RegAt b h r m L) (S : Soft h h') : RegAt b h' r m L := by
  obtain ⟨es, ck, M0⟩ := R.map
  have em := S.mp m es ck M0
  refine ⟨R.P.old (S.bk r _ R.P), R.ne, R.M.old em, fun q hq => ?_, R.n, R.hb⟩
  obtain ⟨a, t, c⟩ := R.T q hq
  refine ⟨a, fun h2 U2 => ?_, c⟩
  refine ((t h (Upd.refl _ _)).soft S).mp fun g hg hm => U2.block g hg fun e => ?_
  subst e
  exact hm es ck (by rw [em]; exact M0)
/-! keys, and tenants, of the document's -/
def KRow (W : Heap) (B : Nat) (h : Heap) (s : Slc) (zs : List Z) : Prop := Row B h 132 14 s ((zs.map (·.1)).flatMap S_api_Wrapped.cs) ∧ s.len = zs.length ∧ ∀ z ∈ zs, SlcAt W z.1.f_B (b8 z.2) ∧ z.1.f_B.len = z.2.length ∧ isB z.2 ∧ z.2.length = 48
theorem KRow.at {W h : Heap} {B : Nat} {s : Slc} {zs : List Z} (K : KRow W B h s zs) (X : Ext W.size W h) : KAt h s zs :=
  ⟨LsAt.of_slc wcs_len K.1.slc (by rw [K.2.1]; simp) (by omega), fun z hz => by obtain ⟨a, b⟩ := K.2.2 z hz; exact ⟨a.ext X, b⟩⟩
theorem KRow.keep {W h h' : Heap} {B : Nat} {s : Slc} {zs : List Z} (K : KRow W B h s zs) (e : ∀ g, s.blk = some g → h'[g]? = h[g]?) : KRow W B h' s zs := ⟨K.1.keep e, K.2⟩
theorem KRow.ext {W h h' : Heap} {B : Nat} {s : Slc} {zs : List Z} (K : KRow W B h s zs) (X : Ext h.size h h') : KRow W B h' s zs := K.keep fun g hg => X.block g (K.1.bd hg).2
theorem KRow.nil (W : Heap) (B : Nat) (h : Heap) : KRow W B h ⟨none, 0, 0⟩ [] := ⟨Row.nil _ _ _ _, rfl, by simp⟩
def absQ (qs : List TZ) : AG := qs.map fun q => (q.1.f_Name, absT q)
structure RefS (W h : Heap) (rb b : Nat) (qs : List TZ) : Prop where
  X : Ext W.size W h
  w : W.size ≤ rb
  R : ∃ s, Blk h rb (S_quaestorref25_Reg.cs ⟨s⟩) 139 ∧ Row (rb + 1) h 130 4 s (qs.flatMap tcs) ∧ s.len = qs.length
  K : ∀ q ∈ qs, KRow W (rb + 1) h q.1.f_Keys q.2 ∧ q.2.length ≤ b
  n : qs.length ≤ 8
  hb : b ≤ 1000
section
variable {W h h' : Heap} {rb b : Nat} {qs : List TZ}
theorem RefS.ext (S : RefS W h rb b qs) (X : Ext h.size h h') : RefS W h' rb b qs := by
  obtain ⟨s, P, R, l⟩ := S.R
  exact ⟨S.X.trans (X.mono S.X.size), S.w, ⟨s, P.ext X P.lt, R.ext X fun g hg => (R.bd hg).2, l⟩, fun q hq => by obtain ⟨a, c⟩ := S.K q hq; exact ⟨a.ext X, c⟩, S.n, S.hb⟩
theorem _root_.Go.Q.Row.notM {B E w : Nat} {s : Slc} {xs : List Value} (R : Row B h E w s xs) {m : Nat} {es : Array MapEntry} {ck : Nat} (M : h[m]? = some (.map es ck)) : ∀ g, s.blk = some g → g ≠ m := fun g hg e => by
  subst e
  rcases R.2.2 with ⟨k, _⟩ | ⟨g', cur, a1, a2, a3, _⟩
  · simp [Slc.blk, k] at hg
  · simp [Slc.blk, a1] at hg
    subst hg
    exact Blk.notMap a3 _ _ M
theorem RefS.upd (S : RefS W h rb b qs) {m : Nat} (M : ∃ es ck, h[m]? = some (.map es ck)) (wm : W.size ≤ m) (U : Upd m h h') : RefS W h' rb b qs := by
  obtain ⟨es, ck, M⟩ := M
  obtain ⟨s, P, R, l⟩ := S.R
  have z := S.X.size
  have kp : ∀ {B E w : Nat} {t : Slc} {xs : List Value}, Row B h E w t xs → ∀ g, t.blk = some g → h'[g]? = h[g]? := fun Q g hg => U.block g (Q.bd hg).2 (Q.notM M g hg)
  exact ⟨S.X.trans (U.ext wm z), S.w, ⟨s, P.old (U.block rb P.lt fun e => by subst e; exact Blk.notMap P _ _ M), R.keep (kp R), l⟩, fun q hq => by obtain ⟨a, c⟩ := S.K q hq; exact ⟨a.keep (kp a.1), c⟩, S.n, S.hb⟩
theorem RefS.ten (S : RefS W h rb b qs) : ∃ s, cellH h ⟨rb, 0, none⟩ = some (Slc.v s) ∧ TenAt h s (absQ qs) := by
  obtain ⟨s, P, R, l⟩ := S.R
  exact ⟨s, by rw [P.cell]; rfl, qs, LsAt.of_slc (fun x => tcs4 x) R.slc l (by omega), fun q hq => (S.K q hq).1.at S.X, rfl⟩
theorem RefS.more (S : RefS W h rb b qs) {b' : Nat} (hb : b ≤ b') (h1 : b' ≤ 1000) : RefS W h rb b' qs := ⟨S.X, S.w, S.R, fun q hq => by obtain ⟨a, c⟩ := S.K q hq; exact ⟨a, Nat.le_trans c hb⟩, S.n, h1⟩
theorem absQ_len (qs : List TZ) : (absQ qs).length = qs.length := by unfold absQ; rw [List.length_map]
theorem absQ_get {i : Nat} {q : TZ} (h : qs[i]? = some q) : (absQ qs)[i]? = some (q.1.f_Name, absT q) := by unfold absQ; rw [List.getElem?_map, h]; rfl
/-! the document's names, places and epochs -/
theorem Name16_ok {t : ByteArray} {k : Bool → Heap → Prop} {h : Heap} (ht : t.size ≤ 1000000) (H : k (nameOk t) h) : ref16_Name t k h := by
  have sl := sB_len t
  unfold ref16_Name
  refine ⟨fun i h' => 0 ≤ i ∧ i ≤ t.size ∧ ((sB t).take i.toNat).all okC = true ∧ h' = h, fun i _ => (t.size - i).toNat, ⟨by omega, by omega, by simp, rfl⟩, ?_⟩
  rintro i h' ⟨i0, i1, ha, e⟩
  subst e
  unfold ref16_Name_l1b
  by_cases hi : i < t.size
  · rw [if_pos (by rw [decide_eq_true_eq]; exact hi)]
    obtain ⟨v, hv, hs⟩ := strAt (t := t) (i := i) (by omega)
    refine ⟨v, i0, hs, ?_⟩
    have ec : (((!((decide (v ≥ 97)) && (decide (v ≤ 122)))) && (!((decide (v ≥ 48)) && (decide (v ≤ 57))))) && (v != 45)) = !okC v := by
      unfold okC
      cases (decide (v ≥ 97)) && (decide (v ≤ 122)) <;> cases (decide (v ≥ 48)) && (decide (v ≤ 57)) <;> simp [bne]
    rw [ec]
    cases hc : okC v with
    | true =>
      rw [if_neg (by simp), wrapI64 (by omega) (by omega)]
      refine ⟨_, rfl, ⟨by omega, by omega, ?_, rfl⟩, by dsimp only; omega⟩
      rw [show (i + 1).toNat = i.toNat + 1 from by omega, List.take_add_one, hv]
      simp only [Option.toList_some, List.all_append, ha, List.all_cons, List.all_nil, Bool.and_true, Bool.true_and]
      exact hc
    | false =>
      rw [if_pos (by simp)]
      have : nameOk t = false := by
        have : (sB t).all okC = false := by
          cases hh : (sB t).all okC with
          | false => rfl
          | true => have := List.all_eq_true.1 hh v (List.mem_of_getElem? hv); rw [hc] at this; cases this
        unfold nameOk; rw [this]; rfl
      rw [this] at H; exact H
  · rw [if_neg (by rw [decide_eq_true_eq]; exact hi)]
    rw [List.take_of_length_le (by omega)] at ha
    unfold nameOk at H
    rw [ha, Bool.true_and] at H
    rw [show decide ((t.size : Int) ≥ 1) = decide ((t.size : Int) > 0) from decide_eq_decide.2 (by omega)]
    exact H
theorem Find_ok {n : ByteArray} {k : Int → Heap → Prop} (S : RefS W h rb b qs) (H1 : ∀ (i : Nat) q, qs[i]? = some q → q.1.f_Name = n → k i h) (H2 : (∀ q ∈ qs, q.1.f_Name ≠ n) → k (-1) h) : ref25_Reg_find (some ⟨rb, 0, none⟩) n k h := by
  obtain ⟨s, P, R, l⟩ := S.R
  have nl := S.n
  have c0 : cellH h ⟨rb, 0, none⟩ = some (Slc.v s) := by rw [P.cell]; rfl
  have L : LsAt tcs 4 h s qs := LsAt.of_slc (fun x => tcs4 x) R.slc l (by omega)
  unfold ref25_Reg_find
  refine ⟨fun i h' => 0 ≤ i ∧ i ≤ qs.length ∧ (∀ q ∈ qs.take i.toNat, q.1.f_Name ≠ n) ∧ h' = h, fun i _ => (qs.length - i).toNat, ⟨by omega, by omega, by simp, rfl⟩, ?_⟩
  rintro i h' ⟨i0, i1, ha, e⟩
  subst e
  unfold ref25_Reg_find_l1b
  refine ⟨_, rfl, s, c0, ?_⟩
  by_cases hi : i < qs.length
  · rw [if_pos (by rw [decide_eq_true_eq]; omega)]
    have hx : qs[i.toNat]? = some (qs[i.toNat]'(by omega)) := by simp
    generalize qs[i.toNat]'(by omega) = q at *
    obtain ⟨a, h1, C⟩ := L.at' i.toNat q hx
    refine ⟨s, c0, a, h1, i0, by omega, q.1.f_Name, by have := C 0 _ rfl; rw [add0] at this; exact this, ?_⟩
    rw [ba_eq]
    by_cases hn : q.1.f_Name = n
    · rw [if_pos (decide_eq_true hn)]
      have := H1 i.toNat q hx hn
      rw [show ((i.toNat : Nat) : Int) = i from by omega] at this; exact this
    · rw [if_neg (by simpa using hn), wrapI64 (by omega) (by omega)]
      refine ⟨_, rfl, ⟨by omega, by omega, fun x hx' => ?_, rfl⟩, by dsimp only; omega⟩
      rw [show (i + 1).toNat = i.toNat + 1 from by omega, List.take_add_one, hx] at hx'
      rcases List.mem_append.1 hx' with h | h
      · exact ha x h
      · simp at h; subst h; exact hn
  · rw [if_neg (by rw [decide_eq_true_eq]; omega)]
    rw [List.take_of_length_le (by omega)] at ha
    exact ⟨_, rfl, H2 ha⟩
theorem find_mget (S : Srt (absQ qs)) {i : Nat} {q : TZ} (hx : qs[i]? = some q) : mget (absQ qs) q.1.f_Name = some (absT q) :=
  mget_self S.nd _ (List.mem_of_getElem? (absQ_get hx))
theorem find_none {n : ByteArray} (hn : ∀ q ∈ qs, q.1.f_Name ≠ n) : ∀ p ∈ absQ qs, p.1 ≠ n := fun p hp => by
  obtain ⟨q, hq, rfl⟩ := List.mem_map.1 hp
  exact hn q hq
theorem RefEpoch_ok {n : ByteArray} {k : Int → Heap → Prop} (S : RefS W h rb b qs) (so : Srt (absQ qs)) (H : k (epB ((mget (absQ qs) n).getD zAT).2.2) h) : ref25_Reg_Epoch (some ⟨rb, 0, none⟩) n k h := by
  obtain ⟨s, P, R, l⟩ := S.R
  have nl := S.n
  have c0 : cellH h ⟨rb, 0, none⟩ = some (Slc.v s) := by rw [P.cell]; rfl
  have L : LsAt tcs 4 h s qs := LsAt.of_slc (fun x => tcs4 x) R.slc l (by omega)
  unfold ref25_Reg_Epoch
  refine Find_ok S (fun i q hx hn => ?_) fun hn => ?_
  · rw [if_neg (by rw [decide_eq_true_eq]; omega)]
    have hi := (List.getElem?_eq_some_iff.1 hx).1
    obtain ⟨a, h1, C⟩ := L.at' i q hx
    have c1 : cellH h ((a.add (i * 4)).add 1) = some (Slc.v q.1.f_Keys) := C 1 _ rfl
    obtain ⟨KR, kb⟩ := S.K q (List.mem_of_getElem? hx)
    have hb := S.hb
    have kl := KR.2.1
    have KA := KR.at S.X
    have em := find_mget so hx
    rw [hn] at em
    rw [em] at H
    change k (epB (q.2.map absK)) h at H
    rw [← epA_abs] at H
    refine ⟨_, rfl, s, c0, a, h1, by omega, by omega, q.1.f_Keys, c1, ?_⟩
    unfold ref25_Reg_Epoch_g1
    by_cases h0 : q.2.length = 0
    · rw [if_pos (by rw [beq_iff_eq]; omega)]
      rw [List.eq_nil_of_length_eq_zero h0] at H; exact H
    · rw [if_neg (by rw [beq_iff_eq]; omega)]
      have hz : q.2[q.2.length - 1]? = some (q.2[q.2.length - 1]'(by omega)) := by simp
      have ez : epA q.2 = (q.2[q.2.length - 1]'(by omega)).1.f_Epoch := by unfold epA; rw [List.getLast?_eq_getElem?, hz]
      rw [ez] at H
      generalize q.2[q.2.length - 1]'(by omega) = z at *
      obtain ⟨a2, h2, C2⟩ := KA.1.at' (q.2.length - 1) z.1 (by rw [List.getElem?_map, hz]; rfl)
      have ei : ((q.1.f_Keys.len : Int) - 1).toNat = q.2.length - 1 := by omega
      refine ⟨_, rfl, s, c0, a, h1, by omega, by omega, q.1.f_Keys, c1, s, c0, a, h1, by omega, by omega, q.1.f_Keys, c1, ?_⟩
      rw [wrapI64 (by omega) (by omega)]
      refine ⟨a2, h2, by omega, by omega, z.1.f_Epoch, ?_, H⟩
      rw [ei]
      have := C2 0 _ rfl
      rw [add0] at this; exact this
  · rw [if_pos (by decide)]
    unfold ref25_Reg_Epoch_g1
    rw [if_pos rfl]
    rw [mget_none (find_none hn)] at H
    exact H
end
end Go.Q.Yb
set_option linter.unusedVariables false
set_option linter.unusedSimpArgs false
set_option maxHeartbeats 1000000
namespace Go.Q.Yb
/-! ### the document's act -/
theorem AppE {B E w bytes m : Nat} {z : List Value} {h : Heap} {s : Slc} {news xs : List Value} {k : Slc → Heap → Prop} (r : Row B h E w s xs) (hB : B ≤ h.size) (hz : z.length = w) (hl : news.length = m * w) (h1 : ∀ v ∈ news, v.oneCell' = true)
    (hb : (s.len + m) * bytes ≤ 140737488355328) (hm : s.len + m ≤ maxLen) (H : ∀ s' h', Row B h' E w s' (xs ++ news) → s'.len = s.len + m → Ext B h h' → (∀ i, i < h.size → s.blk ≠ some i → h'[i]? = h[i]?) → k s' h') : App E w bytes z h s m news k :=
  App.row r hB hz hl h1 hb hm fun s' h' R' hs hz' ho _ => H s' h' R' hs ⟨hz', fun i hi => ho i (by omega) fun e => by have := (r.bd e).1; omega⟩ ho
theorem wcs_one (w : S_api_Wrapped) : ∀ v ∈ S_api_Wrapped.cs w, v.oneCell' = true := fun v hv => by
  have e : S_api_Wrapped.cs w = .int .u32 w.f_Epoch :: (arr 12 .u8 w.f_Nonce ++ [Slc.v w.f_B]) := rfl
  rw [e, arr_nrm] at hv
  simp only [List.mem_cons, List.mem_append, List.mem_map, List.not_mem_nil, or_false] at hv
  rcases hv with rfl | ⟨a, _, rfl⟩ | rfl <;> rfl
theorem tcs_one (t : S_api_Tenant) : ∀ v ∈ S_api_Tenant.cs t, v.oneCell' = true := fun v hv => by
  have e : S_api_Tenant.cs t = [Value.string t.f_Name, Slc.v t.f_Keys, Value.int .i64 t.f_Horizon, Value.bool t.f_Shredded] := rfl
  rw [e] at hv
  simp only [List.mem_cons, List.not_mem_nil, or_false] at hv
  rcases hv with rfl | rfl | rfl | rfl <;> rfl
theorem fm_one {α : Type} {cs : α → List Value} (hc : ∀ x, ∀ v ∈ cs x, v.oneCell' = true) (xs : List α) : ∀ v ∈ xs.flatMap cs, v.oneCell' = true := fun v hv => by
  obtain ⟨x, _, hx⟩ := List.mem_flatMap.1 hv
  exact hc x v hx
theorem fm_drop {α : Type} {cs : α → List Value} {w : Nat} (hc : ∀ x, (cs x).length = w) : ∀ (xs : List α) (i : Nat), (xs.flatMap cs).drop (i * w) = (xs.drop i).flatMap cs
  | [], i => by simp
  | x :: r, 0 => by simp
  | x :: r, i + 1 => by
    rw [List.drop_succ_cons, ← fm_drop hc r i, List.flatMap_cons, List.drop_append, hc, List.drop_of_length_le (by rw [hc, Nat.add_mul]; omega), List.nil_append, show (i + 1) * w - w = i * w from by rw [Nat.add_mul]; omega]
theorem Row.one {B E w g : Nat} {h : Heap} {cs : List Value} (K : Blk h g cs E) (hB : B ≤ g) (hl : cs.length = w) : Row B h E w ⟨some ⟨g, 0, none⟩, 1, 1⟩ cs :=
  ⟨by show cs.length = 1 * w; omega, by simp [maxLen], .inr ⟨g, cs, rfl, hB, K, Nat.le_refl _, by show 1 * w ≤ _; omega, by show cs.take (1 * w) = cs; rw [List.take_of_length_le (by omega)]⟩⟩
theorem Row.none' {B E w g : Nat} {h : Heap} (K : Blk h g [] E) (hB : B ≤ g) : Row B h E w ⟨some ⟨g, 0, none⟩, 0, 0⟩ [] :=
  ⟨by simp, by simp [maxLen], .inr ⟨g, [], rfl, hB, K, Nat.le_refl _, by simp, by simp⟩⟩
section
variable {W h0 h : Heap} {rb b bt bc i : Nat} {qs : List TZ} {q : TZ} {k : Int → Heap → Prop} {c : S_api_Command} {wr : List Int}
theorem RAj7_ok {t : S_api_Tenant} {zs : List Z} {b' : Nat} (S : RefS W h0 rb b qs) (X : Ext h0.size h0 h) (T : Blk h bt (S_api_Tenant.cs t) 130) (hx : qs[i]? = some q) (KR : KRow W (rb + 1) h t.f_Keys zs) (zl : zs.length ≤ b') (hb : b ≤ b') (h1 : b' ≤ 1000)
    (H : ∀ h', RefS W h' rb b' (qs.set i (t, zs)) → Soft h0 h' → k 0 h') : ref25_Reg_Apply_j7 (some ⟨rb, 0, none⟩) (i : Int) ⟨bt, 0, none⟩ k h := by
  have S1 := S.ext X
  obtain ⟨s, P, R, l⟩ := S1.R
  have hi := (List.getElem?_eq_some_iff.1 hx).1
  have nl := S.n
  have zw := S1.X.size
  have hw := S.w
  have rl := P.lt
  have L : LsAt tcs 4 h s qs := LsAt.of_slc (fun x => tcs4 x) R.slc l (by omega)
  obtain ⟨a, ha, _⟩ := L.at' i q hx
  obtain ⟨wr, R', ga⟩ := Row.setS (fun x => tcs4 x) R l hi (t, zs) ha
  unfold ref25_Reg_Apply_j7
  rw [Int.toNat_natCast]
  refine ⟨_, rfl, s, by rw [P.cell]; rfl, t, CellsAt.of_blk T, a, ha, by omega, by omega, _, wr, rfl, ?_⟩
  have sf := Soft.row R l hi t ha
  have ne : ∀ {g}, g ≠ a.block → (setsH h (a.add (i * 4)) 0 (S_api_Tenant.cs t))[g]? = h[g]? := fun hg => setsH_other _ _ (by rw [add_block]; exact hg)
  have kk : ∀ {s2 zs2}, KRow W (rb + 1) h s2 zs2 → KRow W (rb + 1) (setsH h (a.add (i * 4)) 0 (S_api_Tenant.cs t)) s2 zs2 := fun K => K.keep fun g hg => ne fun e => K.1.ne_row R (by decide) hg (by rw [e]; simp [Slc.blk, ha])
  refine H _ ⟨S1.X.trans (Ext.sets _ _ _ (by rw [add_block]; omega)), S.w, ⟨s, P.old (ne (by omega)), R', by rw [List.length_set]; exact l⟩, fun y hy => ?_, by rw [List.length_set]; exact nl, h1⟩ ((Soft.of_ext X).trans sf)
  rcases List.mem_or_eq_of_mem_set hy with hy | rfl
  · obtain ⟨a1, a2⟩ := S1.K y hy
    exact ⟨kk a1, by omega⟩
  · exact ⟨kk KR, zl⟩
/-- the keys that are left -/
theorem RDrop_ok (S : RefS W h0 rb b qs) (X : Ext h0.size h0 h) (C : Blk h bc (S_api_Command.cs c) 32) (T : Blk h bt (S_api_Tenant.cs q.1) 130) (hbt : h0.size ≤ bt) (hx : qs[i]? = some q)
    (H : ∀ s h', RefS W h' rb b (qs.set i ({ q.1 with f_Keys := s }, q.2.filter fun z => !decide (z.1.f_Epoch < c.f_Epoch))) → Soft h0 h' → k 0 h') : ref25_Reg_Apply_l9 (some ⟨rb, 0, none⟩) ⟨bc, 0, none⟩ (i : Int) ⟨bt, 0, none⟩ ⟨none, 0, 0⟩ 0 k h := by
  obtain ⟨K0, kb⟩ := S.K q (List.mem_of_getElem? hx)
  have hb := S.hb
  have K1 := K0.ext X
  have kl := K1.2.1
  have KA := K1.at (S.ext X).X
  have zX := X.size
  have rl : rb < h0.size := by obtain ⟨s, P, _⟩ := S.R; exact P.lt
  have c1 : ∀ {h'}, Blk h' bt (S_api_Tenant.cs q.1) 130 → cellH h' ((⟨bt, 0, none⟩ : Addr).add 1) = some (Slc.v q.1.f_Keys) := fun K => by rw [add_mk, K.cell]; rfl
  unfold ref25_Reg_Apply_l9
  refine ⟨fun st h' => 0 ≤ st.2 ∧ st.2 ≤ q.2.length ∧ ∃ zs, zs = (q.2.take st.2.toNat).filter (fun z => !decide (z.1.f_Epoch < c.f_Epoch)) ∧ Row h.size h' 132 14 st.1 ((zs.map (·.1)).flatMap S_api_Wrapped.cs) ∧ st.1.len = zs.length ∧ Ext h.size h h', fun st _ => (q.2.length - st.2).toNat,
    ⟨by simp, by simp, [], by simp, Row.nil _ _ _ _, rfl, Ext.refl _ _⟩, ?_⟩
  rintro s j h1 ⟨j0, j1, zs, hzs, R1, sl, X1⟩
  dsimp only at j0 j1 hzs R1 sl
  have z1 := X1.size
  have T1 := T.ext X1 T.lt
  have C1 := C.ext X1 C.lt
  have zsl : zs.length ≤ q.2.length := by rw [hzs]; exact Nat.le_trans (List.length_filter_le _ _) (by rw [List.length_take]; omega)
  unfold ref25_Reg_Apply_l9b
  refine ⟨_, c1 T1, ?_⟩
  by_cases hj : j < q.2.length
  · rw [if_pos (by rw [decide_eq_true_eq]; omega)]
    have hz : q.2[j.toNat]? = some (q.2[j.toNat]'(by omega)) := by simp
    have hzm := List.mem_of_getElem? hz
    generalize q.2[j.toNat]'(by omega) = z at *
    obtain ⟨a, ha, D⟩ := (KA.ext X1).1.at' j.toNat z.1 (by rw [List.getElem?_map, hz]; rfl)
    refine ⟨_, c1 T1, a, ha, j0, by omega, z.1.f_Epoch, by have := D 0 _ rfl; rw [add0] at this; exact this, c.f_Epoch, by rw [add_mk, C1.cell]; rfl, ?_⟩
    have et : (q.2.take (j + 1).toNat).filter (fun z => !decide (z.1.f_Epoch < c.f_Epoch)) = zs ++ if z.1.f_Epoch < c.f_Epoch then [] else [z] := by
      rw [show (j + 1).toNat = j.toNat + 1 from by omega, List.take_add_one, hz, List.filter_append, ← hzs]
      by_cases hq : z.1.f_Epoch < c.f_Epoch <;> simp [hq]
    by_cases hq : z.1.f_Epoch < c.f_Epoch
    · rw [if_neg (by rw [decide_eq_true_eq]; omega)]
      unfold ref25_Reg_Apply_j10
      rw [wrapI64 (by omega) (by omega)]
      refine ⟨_, rfl, ⟨by dsimp only; omega, by dsimp only; omega, zs, ?_, R1, sl, X1⟩, by dsimp only; omega⟩
      dsimp only
      rw [et, if_pos hq, List.append_nil]
    · rw [if_pos (by rw [decide_eq_true_eq]; omega)]
      refine ⟨_, c1 T1, a, ha, j0, by omega, z.1, D, _, _, rfl, rfl, ?_⟩
      refine AppE (R1.pushed _) (by simp; omega) rfl (by rw [wcs_len]) (wcs_one _) (by omega) (by simp only [maxLen]; omega) fun s' h' R' hs X' _ => ?_
      unfold ref25_Reg_Apply_j10
      rw [wrapI64 (by omega) (by omega)]
      refine ⟨_, rfl, ⟨by dsimp only; omega, by dsimp only; omega, zs ++ [z], ?_, ?_, by dsimp only; rw [hs, List.length_append, sl]; rfl, X1.trans ((Ext.push h1 _ z1).trans X')⟩, by dsimp only; omega⟩
      · dsimp only
        rw [et, if_neg hq]
      · dsimp only
        rw [List.map_append, List.flatMap_append]
        simpa using R'
  · rw [if_neg (by rw [decide_eq_true_eq]; omega)]
    rw [List.take_of_length_le (by omega)] at hzs
    refine ⟨_, by rw [add_mk]; exact T1.wr (by rw [tcs_len]; omega), rfl, ?_⟩
    rw [show (⟨bt, 0, none⟩ : Addr).add 1 = ⟨bt, 1, none⟩ from by simp]
    have T2 : Blk (setH h1 ⟨bt, 1, none⟩ (Slc.v s)) bt (S_api_Tenant.cs { q.1 with f_Keys := s }) 130 := T1.set
    have X2 : Ext h0.size h0 (setH h1 ⟨bt, 1, none⟩ (Slc.v s)) := (X.trans (X1.mono zX)).trans (Ext.set _ _ hbt)
    have R2 : Row h.size (setH h1 ⟨bt, 1, none⟩ (Slc.v s)) 132 14 s ((zs.map (·.1)).flatMap S_api_Wrapped.cs) := R1.keep fun g hg => setH_other fun e => by
      have := (R1.bd hg).1
      have := T.lt
      dsimp only at e
      omega
    refine RAj7_ok S X2 T2 hx (zs := zs) ⟨R2.mono (by omega), sl, fun z hz => K0.2.2 z ?_⟩ (by omega) (Nat.le_refl _) hb fun h' S' sf => ?_
    · rw [hzs] at hz; exact (List.mem_filter.1 hz).1
    · refine H s h' ?_ sf
      rw [← hzs]; exact S'
/-- one more key -/
theorem RRot_ok {bk : Nat} {w : S_api_Wrapped} (S : RefS W h0 rb b qs) (X : Ext h0.size h0 h) (T : Blk h bt (S_api_Tenant.cs q.1) 130) (hbt : h0.size ≤ bt) (Kb : Blk h bk (S_api_Wrapped.cs w) 132) (hx : qs[i]? = some q)
    (kw : SlcAt W w.f_B (b8 wr) ∧ w.f_B.len = wr.length ∧ isB wr ∧ wr.length = 48) (hb : b + 1 ≤ 1000)
    (H : ∀ s h', RefS W h' rb (b + 1) (qs.set i ({ q.1 with f_Keys := s }, q.2 ++ [(w, wr)])) → Soft h0 h' → k 0 h') : ref25_Reg_Apply_g8 (some ⟨rb, 0, none⟩) (i : Int) ⟨bk, 0, none⟩ ⟨bt, 0, none⟩ false k h := by
  obtain ⟨K0, kb⟩ := S.K q (List.mem_of_getElem? hx)
  have K1 := K0.ext X
  have kl := K1.2.1
  have zX := X.size
  have tl := T.lt
  have bl := Kb.lt
  have rl : rb < h0.size := by obtain ⟨s, P, _⟩ := S.R; exact P.lt
  have c1 : ∀ {h'}, Ext h.size h h' → cellH h' ((⟨bt, 0, none⟩ : Addr).add 1) = some (Slc.v q.1.f_Keys) := fun X' => by rw [add_mk, (T.ext X' tl).cell]; rfl
  have ck : ∀ {h'}, Ext h.size h h' → CellsAt h' ⟨bk, 0, none⟩ (S_api_Wrapped.cs w) := fun X' => CellsAt.of_blk (Kb.ext X' bl)
  have ks : ∀ {h'}, Ext h.size h h' → SlcAt h' q.1.f_Keys ((q.2.map (·.1)).flatMap S_api_Wrapped.cs) := fun X' => (K1.ext X').1.slc
  have ml : ((q.2.map (·.1)).flatMap S_api_Wrapped.cs).length = q.1.f_Keys.len * 14 := by rw [fm_len wcs_len, List.length_map, kl]
  have fin : ∀ {s : Slc} {h' : Heap}, Row h.size h' 132 14 s (((q.2 ++ [(w, wr)]).map (·.1)).flatMap S_api_Wrapped.cs) → s.len = q.2.length + 1 → Ext h.size h h' → ∃ h84 : Heap, WrH h' ((⟨bt, 0, none⟩ : Addr).add 1) ∧ h84 = setH h' ((⟨bt, 0, none⟩ : Addr).add 1) (Slc.v s) ∧ ref25_Reg_Apply_j7 (some ⟨rb, 0, none⟩) (i : Int) ⟨bt, 0, none⟩ k h84 := fun {s h'} R' sl X' => by
    have T1 := T.ext X' tl
    refine ⟨_, by rw [add_mk]; exact T1.wr (by rw [tcs_len]; omega), rfl, ?_⟩
    rw [show (⟨bt, 0, none⟩ : Addr).add 1 = ⟨bt, 1, none⟩ from by simp]
    have T2 : Blk (setH h' ⟨bt, 1, none⟩ (Slc.v s)) bt (S_api_Tenant.cs { q.1 with f_Keys := s }) 130 := T1.set
    have X2 : Ext h0.size h0 (setH h' ⟨bt, 1, none⟩ (Slc.v s)) := (X.trans (X'.mono zX)).trans (Ext.set _ _ hbt)
    have R2 : Row h.size (setH h' ⟨bt, 1, none⟩ (Slc.v s)) 132 14 s (((q.2 ++ [(w, wr)]).map (·.1)).flatMap S_api_Wrapped.cs) := R'.keep fun g hg => setH_other fun e => by
      have := (R'.bd hg).1
      dsimp only at e
      omega
    refine RAj7_ok S X2 T2 hx (zs := q.2 ++ [(w, wr)]) ⟨R2.mono (by omega), by rw [List.length_append]; exact sl, fun z hz => ?_⟩ (by rw [List.length_append]; simp; omega) (Nat.le_succ _) hb fun h' S' sf => H s h' S' sf
    rcases List.mem_append.1 hz with hz | hz
    · exact K0.2.2 z hz
    · simp at hz; subst hz; exact kw
  have eq1 : ((q.2 ++ [(w, wr)]).map (·.1)).flatMap S_api_Wrapped.cs = (q.2.map (·.1)).flatMap S_api_Wrapped.cs ++ S_api_Wrapped.cs w := by rw [List.map_append, List.flatMap_append]; simp
  unfold ref25_Reg_Apply_g8
  rw [if_neg (by simp)]
  refine ⟨q.1.f_Keys, c1 (Ext.refl _ _), w, ck (Ext.refl _ _), ⟨_, _, rfl, rfl, ?_⟩, ⟨_, _, rfl, rfl, ?_⟩⟩
  · have E1 := Ext.push h (.cells ([] : List Value).toArray 132) (Nat.le_refl h.size)
    have N1 := Blk.push h ([] : List Value) 132
    have z1 := E1.size
    have n1 := N1.lt
    generalize h.push (.cells ([] : List Value).toArray 132) = h1 at *
    have R1 : Row h.size h1 132 14 ⟨some ⟨h.size, 0, none⟩, 0, 0⟩ [] := Row.none' N1 (Nat.le_refl _)
    refine ⟨ck E1, c1 E1, ⟨_, ks E1, ?_⟩, ⟨_, _, rfl, rfl, ?_⟩⟩
    · refine AppE R1 z1 rfl ml (fm_one wcs_one _) (by simp; omega) (by simp only [maxLen]; omega) fun s2 h2 R2 l2 X2 _ => ?_
      have E2 := E1.trans X2
      refine ⟨ck E2, _, _, rfl, rfl, ?_⟩
      have E3 := E2.trans (Ext.push h2 (.cells (S_api_Wrapped.cs w).toArray 132) E2.size)
      refine AppE (R2.pushed _) E3.size rfl (by rw [wcs_len]) (wcs_one _) (by simp only at l2; omega) (by simp only [maxLen] at l2 ⊢; omega) fun s4 h4 R4 l4 X4 _ => ?_
      refine fin ?_ (by simp only at l2; omega) (E3.trans X4)
      rw [eq1]; simpa using R4
    · have N2 := Blk.push h1 (S_api_Wrapped.cs w) 132
      have E2 := E1.trans (Ext.push h1 (.cells (S_api_Wrapped.cs w).toArray 132) z1)
      have R2 := R1.pushed (.cells (S_api_Wrapped.cs w).toArray 132)
      generalize h1.push (.cells (S_api_Wrapped.cs w).toArray 132) = h2 at *
      refine ⟨c1 E2, _, ks E2, ?_⟩
      refine AppE R2 E2.size rfl ml (fm_one wcs_one _) (by simp; omega) (by simp only [maxLen]; omega) fun s3 h3 R3 l3 X3 o3 => ?_
      have E3 := E2.trans X3
      have N3 : Blk h3 h1.size (S_api_Wrapped.cs w) 132 := N2.old (o3 _ N2.lt (by simp [Slc.blk]; omega))
      refine ⟨S_api_Wrapped.cs w, N3.slc (o := 0) (n := 14) rfl, ?_⟩
      refine AppE R3 E3.size rfl (show 14 = 1 * 14 from rfl) (wcs_one _) (by simp only at l3 ⊢; omega) (by simp only [maxLen] at l3 ⊢; omega) fun s4 h4 R4 l4 X4 _ => ?_
      refine fin ?_ (by simp only at l3 l4; omega) (E3.trans X4)
      rw [eq1]; simpa using R4
  · have N1 := Blk.push h (S_api_Wrapped.cs w) 132
    have E1 := Ext.push h (.cells (S_api_Wrapped.cs w).toArray 132) (Nat.le_refl h.size)
    have z1 := E1.size
    have n1 := N1.lt
    generalize h.push (.cells (S_api_Wrapped.cs w).toArray 132) = h1 at *
    refine ⟨c1 E1, _, _, rfl, rfl, ?_⟩
    have N2 := Blk.push h1 ([] : List Value) 132
    have Np := Ext.push h1 (.cells ([] : List Value).toArray 132) (Nat.le_refl h1.size)
    have E2 := E1.trans (Np.mono z1)
    have M2 := N1.ext Np n1
    generalize h1.push (.cells ([] : List Value).toArray 132) = h2 at *
    have R2 : Row h.size h2 132 14 ⟨some ⟨h1.size, 0, none⟩, 0, 0⟩ [] := Row.none' N2 z1
    refine ⟨c1 E2, _, ks E2, ?_⟩
    refine AppE R2 E2.size rfl ml (fm_one wcs_one _) (by simp; omega) (by simp only [maxLen]; omega) fun s3 h3 R3 l3 X3 o3 => ?_
    have E3 := E2.trans X3
    have N3 : Blk h3 h.size (S_api_Wrapped.cs w) 132 := M2.old (o3 _ M2.lt (by simp [Slc.blk]; omega))
    refine ⟨S_api_Wrapped.cs w, N3.slc (o := 0) (n := 14) rfl, ?_⟩
    refine AppE R3 E3.size rfl (show 14 = 1 * 14 from rfl) (wcs_one _) (by simp only at l3 ⊢; omega) (by simp only [maxLen] at l3 ⊢; omega) fun s4 h4 R4 l4 X4 _ => ?_
    refine fin ?_ (by simp only at l3 l4; omega) (E3.trans X4)
    rw [eq1]; simpa using R4
instance : DecidableRel ltB := fun a b => inferInstanceAs (Decidable (a.data.toList < b.data.toList))
theorem lt_iff {a b : ByteArray} : Op.bytesLess a.toList b.toList = decide (ltB a b) := by
  rw [ByteArray.toList_eq, ByteArray.toList_eq, bytesLess_lt]; rfl
/-- one more tenant -/
theorem RNew_ok {t : S_api_Tenant} {zs : List Z} {b' : Nat} (S : RefS W h0 rb b qs) (X : Ext h0.size h0 h) (C : Blk h bc (S_api_Command.cs c) 32) (T : Blk h bt (S_api_Tenant.cs t) 130) (n8 : qs.length < 8) (KR : KRow W (rb + 1) h t.f_Keys zs) (zl : zs.length ≤ b') (hb : b ≤ b') (h1 : b' ≤ 1000)
    (H : ∀ j h', j ≤ qs.length → (∀ i p, i < j → (absQ qs)[i]? = some p → ltB p.1 c.f_Tenant) → (∀ p, (absQ qs)[j]? = some p → ¬ ltB p.1 c.f_Tenant) → RefS W h' rb b' (qs.take j ++ (t, zs) :: qs.drop j) → Soft h0 h' → k 0 h') :
    ref25_Reg_Apply_l4 (some ⟨rb, 0, none⟩) ⟨bc, 0, none⟩ ⟨bt, 0, none⟩ ⟨none, 0, 0⟩ 0 k h := by
  have S1 := S.ext X
  obtain ⟨s, P, R, l⟩ := S1.R
  have rl := P.lt
  have rl0 : rb < h0.size := by obtain ⟨_, P0, _⟩ := S.R; exact P0.lt
  have zX := X.size
  have L : LsAt tcs 4 h s qs := LsAt.of_slc (fun x => tcs4 x) R.slc l (by omega)
  have cs0 : ∀ {h'}, Ext h.size h h' → cellH h' ⟨rb, 0, none⟩ = some (Slc.v s) := fun X' => by rw [(P.ext X' rl).cell]; rfl
  unfold ref25_Reg_Apply_l4
  refine ⟨fun st h' => 0 ≤ st.2 ∧ st.2 ≤ qs.length ∧ Row h.size h' 130 4 st.1 ((qs.take st.2.toNat).flatMap tcs) ∧ st.1.len = st.2.toNat ∧ (∀ i p, i < st.2.toNat → (absQ qs)[i]? = some p → ltB p.1 c.f_Tenant) ∧ Ext h.size h h', fun st _ => (qs.length - st.2).toNat,
    ⟨by simp, by simp, Row.nil _ _ _ _, rfl, fun i p hi => absurd hi (Nat.not_lt_zero _), Ext.refl _ _⟩, ?_⟩
  rintro s9 j h2 ⟨j0, j1, R2, l2, lt2, X2⟩
  dsimp only at j0 j1 R2 l2 lt2
  have z2 := X2.size
  unfold ref25_Reg_Apply_l4b
  refine ⟨_, rfl, s, cs0 X2, ?_⟩
  have stop : (∀ p, (absQ qs)[j.toNat]? = some p → ¬ ltB p.1 c.f_Tenant) → ref25_Reg_Apply_g5 (some ⟨rb, 0, none⟩) ⟨bc, 0, none⟩ ⟨bt, 0, none⟩ s9 j false k (fun st h' => (0 ≤ st.2 ∧ st.2 ≤ (qs.length : Int) ∧ Row h.size h' 130 4 st.1 ((qs.take st.2.toNat).flatMap tcs) ∧ st.1.len = st.2.toNat ∧ (∀ i p, i < st.2.toNat → (absQ qs)[i]? = some p → ltB p.1 c.f_Tenant) ∧ Ext h.size h h') ∧ ((qs.length : Int) - st.2).toNat < ((qs.length : Int) - j).toNat) h2 := fun hs => by
    unfold ref25_Reg_Apply_g5
    rw [if_neg (by simp)]
    refine ⟨_, rfl, t, CellsAt.of_blk (T.ext X2 T.lt), _, _, rfl, rfl, ?_⟩
    have X3 := X2.trans (Ext.push h2 (.cells (S_api_Tenant.cs t).toArray 130) z2)
    refine AppE (R2.pushed _) X3.size rfl (by rw [tcs_len]) (tcs_one _) (by omega) (by simp only [maxLen]; omega) fun s4 h4 R4 l4 X4 _ => ?_
    have X04 := X3.trans X4
    have z4 := X04.size
    have sp := R.cap
    rw [l2]
    refine ⟨_, rfl, s, cs0 X04, _, by omega, by omega, by omega, by omega, rfl, ?_⟩
    have SL : SlcAt h4 (subS s 4 ((j.toNat : Nat) : Int).toNat (s.len : Int).toNat (s.cap : Int).toNat) ((qs.drop j.toNat).flatMap tcs) := by
      have := SlcAt.sub (w := 4) (l := j.toNat) (u := s.len) (m := s.cap) (R.slc.ext X04) (by omega) sp
      rw [fm_drop (fun x => tcs4 x), List.take_of_length_le (by rw [fm_len (fun x => tcs4 x), List.length_drop, l]; exact Nat.le_refl _)] at this
      rw [Int.toNat_natCast, Int.toNat_natCast, Int.toNat_natCast]; exact this
    refine ⟨_, SL, ?_⟩
    have sl : (subS s 4 ((j.toNat : Nat) : Int).toNat (s.len : Int).toNat (s.cap : Int).toNat).len = qs.length - j.toNat := by rw [Int.toNat_natCast, Int.toNat_natCast, Int.toNat_natCast]; show s.len - j.toNat = _; omega
    rw [sl]
    refine AppE R4 (by omega) rfl (by rw [fm_len (fun x => tcs4 x), List.length_drop]) (fm_one (fun x : TZ => tcs_one x.1) _) (by omega) (by simp only [maxLen]; omega) fun s5 h5 R5 l5 X5 _ => ?_
    have X05 := X04.trans X5
    have P5 := P.ext X05 rl
    refine ⟨_, P5.wr (by show 0 < 1; omega), rfl, ?_⟩
    have sf := Soft.reg (v := Slc.v s5) P5
    have P6 : Blk (setH h5 ⟨rb, 0, none⟩ (Slc.v s5)) rb (S_quaestorref25_Reg.cs ⟨s5⟩) 139 := P5.set
    have ne : ∀ {g}, g ≠ rb → (setH h5 ⟨rb, 0, none⟩ (Slc.v s5))[g]? = h5[g]? := fun hg => setH_other hg
    have R6 : Row (rb + 1) (setH h5 ⟨rb, 0, none⟩ (Slc.v s5)) 130 4 s5 ((qs.take j.toNat ++ (t, zs) :: qs.drop j.toNat).flatMap tcs) := by
      have : Row (rb + 1) (setH h5 ⟨rb, 0, none⟩ (Slc.v s5)) 130 4 s5 ((qs.take j.toNat).flatMap tcs ++ S_api_Tenant.cs t ++ (qs.drop j.toNat).flatMap tcs) := (R5.mono (by omega)).keep fun g hg => ne (by have := (R5.bd hg).1; omega)
      rw [List.flatMap_append, List.flatMap_cons]
      rw [List.append_assoc] at this
      exact this
    have len : (qs.take j.toNat ++ (t, zs) :: qs.drop j.toNat).length = qs.length + 1 := by rw [List.length_append, List.length_cons, List.length_take, List.length_drop]; omega
    have XX : Ext W.size W (setH h5 ⟨rb, 0, none⟩ (Slc.v s5)) := (S1.X.trans (X05.mono S1.X.size)).trans (Ext.set _ _ S.w)
    refine H j.toNat _ (by omega) lt2 hs ⟨XX, S.w, ⟨s5, P6, R6, by rw [len, l5, l4, l2]; omega⟩, fun y hy => ?_, by omega, h1⟩ (((Soft.of_ext X).trans (Soft.of_ext X05)).trans sf)
    have kk : ∀ {s2 zs2}, KRow W (rb + 1) h s2 zs2 → KRow W (rb + 1) (setH h5 ⟨rb, 0, none⟩ (Slc.v s5)) s2 zs2 := fun K => (K.ext X05).keep fun g hg => ne (by have := ((K.ext X05).1.bd hg).1; omega)
    rcases List.mem_append.1 hy with hy | hy
    · obtain ⟨a1, a2⟩ := S1.K y (List.mem_of_mem_take hy)
      exact ⟨kk a1, by omega⟩
    · rcases List.mem_cons.1 hy with rfl | hy
      · exact ⟨kk KR, zl⟩
      · obtain ⟨a1, a2⟩ := S1.K y (List.mem_of_mem_drop hy)
        exact ⟨kk a1, by omega⟩
  by_cases hj : j < qs.length
  · rw [if_pos (by rw [decide_eq_true_eq]; omega)]
    have hx : qs[j.toNat]? = some (qs[j.toNat]'(by omega)) := by simp
    generalize qs[j.toNat]'(by omega) = y at *
    obtain ⟨a, ha, D⟩ := (L.ext X2).at' j.toNat y hx
    refine ⟨s, cs0 X2, a, ha, j0, by omega, y.1.f_Name, by have := D 0 _ rfl; rw [add0] at this; exact this, c.f_Tenant, by rw [add_mk, (C.ext X2 C.lt).cell]; rfl, ?_⟩
    rw [lt_iff]
    by_cases hlt : ltB y.1.f_Name c.f_Tenant
    · rw [decide_eq_true hlt]
      unfold ref25_Reg_Apply_g5
      rw [if_pos rfl]
      refine ⟨_, rfl, s, cs0 X2, a, ha, j0, by omega, y.1, D, _, _, rfl, rfl, ?_⟩
      refine AppE (R2.pushed _) (by simp; omega) rfl (by rw [tcs_len]) (tcs_one _) (by omega) (by simp only [maxLen]; omega) fun s4 h4 R4 l4 X4 _ => ?_
      rw [wrapI64 (by omega) (by omega)]
      refine ⟨_, rfl, ⟨by dsimp only; omega, by dsimp only; omega, ?_, by dsimp only; omega, fun i p hi hp => ?_, X2.trans ((Ext.push h2 _ z2).trans X4)⟩, by dsimp only; omega⟩
      · dsimp only
        rw [show (j + 1).toNat = j.toNat + 1 from by omega, List.take_add_one, hx, List.flatMap_append]
        simpa using R4
      · dsimp only at hi
        by_cases hij : i < j.toNat
        · exact lt2 i p hij hp
        · rw [show i = j.toNat from by omega, absQ_get hx] at hp
          cases hp; exact hlt
    · rw [decide_eq_false hlt]
      refine stop fun p hp => ?_
      rw [absQ_get hx] at hp
      cases hp; exact hlt
  · rw [if_neg (by rw [decide_eq_true_eq]; omega)]
    refine stop fun p hp => ?_
    have := (List.getElem?_eq_some_iff.1 hp).1
    rw [absQ_len] at this
    omega
end
end Go.Q.Yb
set_option linter.unusedVariables false
set_option linter.unusedSimpArgs false
set_option maxHeartbeats 1000000
namespace Go.Q.Yb
section
variable {W h : Heap} {rb b : Nat} {qs : List TZ} {k : Int → Heap → Prop} {c : S_api_Command} {wr : List Int}
theorem Find2_ok {n : ByteArray} (S : RefS W h rb b qs) (H : ∀ r : Int, ((∃ (i : Nat) (q : TZ), qs[i]? = some q ∧ q.1.f_Name = n ∧ r = i) ∨ (r = -1 ∧ ∀ q ∈ qs, q.1.f_Name ≠ n)) → k r h) : ref25_Reg_find (some ⟨rb, 0, none⟩) n k h :=
  Find_ok S (fun i q hx hn => H i (.inl ⟨i, q, hx, hn, rfl⟩)) fun hn => H (-1) (.inr ⟨rfl, hn⟩)
theorem RApply_ok (S : RefS W h rb b qs) (so : Srt (absQ qs)) (A : CmdAt W c wr) (ht : c.f_Tenant.size ≤ 100000) (wl : wr.length ≤ 100000) (hb : b + 1 ≤ 1000)
    (H : ∀ qs' h', RefS W h' rb (b + 1) qs' → absQ qs' = tenL (stepR (absQ qs) c wr).2 → Soft h h' → k (stepR (absQ qs) c wr).1 h') : ref25_Reg_Apply (some ⟨rb, 0, none⟩) c k h := by
  have code : (stepR (absQ qs) c wr).1 = applyB c wr.length (absQ qs) := rfl
  have nl := S.n
  have rl : rb < h.size := by obtain ⟨_, P0, _⟩ := S.R; exact P0.lt
  have stay : ∀ (e : Int) (h' : Heap), applyB c wr.length (absQ qs) = e → (e ≠ 0 ∨ c.f_Kind = 0) → Ext h.size h h' → k e h' := fun e h' he hn X => by
    have := H qs h' ((S.ext X).more (Nat.le_succ b) hb) (by
      show absQ qs = tenL (if applyB c wr.length (absQ qs) = 0 ∧ c.f_Kind ≠ 0 then _ else absQ qs)
      rw [if_neg (fun e' => by rcases hn with h1 | h1
                               · exact h1 (he ▸ e'.1)
                               · exact e'.2 h1), tenL_sorted so]) (Soft.of_ext X)
    rw [code, he] at this; exact this
  unfold ref25_Reg_Apply
  refine ⟨_, _, rfl, rfl, ?_⟩
  have P := Blk.push h (S_api_Command.cs c) 32
  have E2 := Ext.push h (.cells (S_api_Command.cs c).toArray 32) (Nat.le_refl h.size)
  have z2 := E2.size
  have pl := P.lt
  generalize h.push (.cells (S_api_Command.cs c).toArray 32) = h2 at *
  have c0 : ∀ {h'}, Ext h2.size h2 h' → cellH h' (⟨h.size, 0, none⟩ : Addr) = some (.int .i64 c.f_Kind) := fun X => by rw [(P.ext X pl).cell]; rfl
  have c1 : ∀ {h'}, Ext h2.size h2 h' → cellH h' ((⟨h.size, 0, none⟩ : Addr).add 1) = some (.string c.f_Tenant) := fun X => by rw [add_mk, (P.ext X pl).cell]; rfl
  have c2 : ∀ {h'}, Ext h2.size h2 h' → cellH h' ((⟨h.size, 0, none⟩ : Addr).add 2) = some (.int .u32 c.f_Epoch) := fun X => by rw [add_mk, (P.ext X pl).cell]; rfl
  have c3 : ∀ {h'}, Ext h2.size h2 h' → CellsAt h' ((⟨h.size, 0, none⟩ : Addr).add 3) (arr 12 .u8 c.f_Nonce) := fun X => by rw [add_mk]; exact (P.ext X pl).part (n := 12) rfl
  have c15 : ∀ {h'}, Ext h2.size h2 h' → cellH h' ((⟨h.size, 0, none⟩ : Addr).add 15) = some (Slc.v c.f_Wrapped) := fun X => by rw [add_mk, (P.ext X pl).cell]; rfl
  have c16 : ∀ {h'}, Ext h2.size h2 h' → cellH h' ((⟨h.size, 0, none⟩ : Addr).add 16) = some (.int .i64 c.f_Horizon) := fun X => by rw [add_mk, (P.ext X pl).cell]; rfl
  have g3 : ∀ h', Ext h2.size h2 h' → ref25_Reg_Apply_g3 (some ⟨rb, 0, none⟩) ⟨h.size, 0, none⟩ (!mayR c wr.length) k h' := fun h3 X3 => by
    have X03 : Ext h.size h h3 := E2.trans (X3.mono z2)
    unfold ref25_Reg_Apply_g3
    cases hm : mayR c wr.length with
    | false =>
      rw [if_pos (by simp)]
      exact stay 1 h3 (by unfold applyB; rw [hm, if_neg (by simp)]) (.inl (by omega)) X03
    | true =>
    have code2 : applyB c wr.length (absQ qs) = askB c (mget (absQ qs) c.f_Tenant) (absQ qs).length := by unfold applyB; rw [if_pos hm]
    rw [if_neg (by simp)]
    refine ⟨_, c0 X3, ?_⟩
    by_cases k0 : c.f_Kind = 0
    · rw [if_pos (by rw [beq_iff_eq]; exact k0)]
      exact stay 0 h3 (by rw [code2]; unfold askB; rw [if_pos k0]) (.inr k0) X03
    rw [if_neg (by rw [beq_iff_eq]; exact k0)]
    obtain ⟨kk, w48⟩ := mayR_kind hm k0
    refine ⟨_, c1 X3, Find2_ok (S.ext X03) fun r6 hr => ⟨_, c1 X3, RefEpoch_ok (S.ext X03) so ?_⟩⟩
    refine ⟨_, c2 X3, _, c3 X3, _, c15 X3, _, _, rfl, rfl, ?_⟩
    have N := Blk.push h3 (S_api_Wrapped.cs ⟨0, [], ⟨none, 0, 0⟩⟩) 132
    have N2 := N.sets_all (vs := S_api_Wrapped.cs ⟨c.f_Epoch, c.f_Nonce, c.f_Wrapped⟩) rfl
    have E4 := (Ext.push h3 (.cells (S_api_Wrapped.cs ⟨0, [], ⟨none, 0, 0⟩⟩).toArray 132) (Nat.le_refl h3.size)).trans (Ext.sets _ (a := ⟨h3.size, 0, none⟩) 0 (S_api_Wrapped.cs ⟨c.f_Epoch, c.f_Nonce, c.f_Wrapped⟩) (Nat.le_refl _))
    refine ⟨_, WrsAt.of_blk N (by rw [wcs_len]; omega), rfl, ?_⟩
    generalize setsH (h3.push (.cells (S_api_Wrapped.cs ⟨0, [], ⟨none, 0, 0⟩⟩).toArray 132)) ⟨h3.size, 0, none⟩ 0 (S_api_Wrapped.cs ⟨c.f_Epoch, c.f_Nonce, c.f_Wrapped⟩) = h4 at *
    have z3 := X3.size
    have z4 := E4.size
    have X4 : Ext h2.size h2 h4 := X3.trans (E4.mono z3)
    have X04 : Ext h.size h h4 := E2.trans (X4.mono z2)
    have S4 := S.ext X04
    have nl4 := N2.lt
    refine ⟨_, c0 X4, ?_⟩
    by_cases k1 : c.f_Kind = 1
    · -- a new one
      rw [if_pos (by rw [beq_iff_eq]; exact k1)]
      rcases hr with ⟨i, q, hx, hn, rfl⟩ | ⟨rfl, hn⟩
      · rw [if_pos (by rw [decide_eq_true_eq]; omega)]
        refine stay 7 h4 ?_ (.inl (by omega)) X04
        have := find_mget so hx
        rw [hn] at this
        rw [code2, this]
        unfold askB
        rw [if_neg k0, if_pos ⟨k1, rfl⟩]
      have mn : mget (absQ qs) c.f_Tenant = none := mget_none (find_none hn)
      rw [mn] at code2
      unfold askB at code2
      rw [if_neg k0, if_neg (fun e => by cases e.2), absQ_len] at code2
      rw [if_neg (by rw [decide_eq_true_eq]; omega)]
      obtain ⟨s, P4, R4, l4⟩ := S4.R
      refine ⟨_, rfl, s, by rw [P4.cell]; rfl, ?_⟩
      by_cases n8 : qs.length ≥ 8
      · rw [if_pos (by rw [decide_eq_true_eq]; omega)]
        exact stay 8 h4 (by rw [code2, if_pos ⟨k1, n8⟩]) (.inl (by omega)) X04
      rw [if_neg (fun e => n8 e.2), if_neg (fun e => e.1 k1), if_neg (by simp), if_pos k1] at code2
      rw [if_neg (by rw [decide_eq_true_eq]; omega)]
      refine ⟨_, c2 X4, ?_⟩
      by_cases e1 : c.f_Epoch = 1
      · rw [if_neg (by simpa using e1)]
        rw [if_neg (by simpa using e1)] at code2
        refine ⟨_, c1 X4, _, CellsAt.of_blk N2, _, _, rfl, rfl, _, _, rfl, rfl, ?_⟩
        have M := Blk.push h4 (S_api_Wrapped.cs ⟨c.f_Epoch, c.f_Nonce, c.f_Wrapped⟩) 132
        have E5 := Ext.push h4 (.cells (S_api_Wrapped.cs ⟨c.f_Epoch, c.f_Nonce, c.f_Wrapped⟩).toArray 132) (Nat.le_refl h4.size)
        have ml := M.lt
        generalize h4.push (.cells (S_api_Wrapped.cs ⟨c.f_Epoch, c.f_Nonce, c.f_Wrapped⟩).toArray 132) = h5 at *
        have z5 := E5.size
        have T0 := Blk.push h5 (S_api_Tenant.cs zT) 130
        have T := T0.sets_all (vs := S_api_Tenant.cs ⟨c.f_Tenant, ⟨some ⟨h4.size, 0, none⟩, 1, 1⟩, -9223372036854775808, false⟩) rfl
        have E6 := (Ext.push h5 (.cells (S_api_Tenant.cs zT).toArray 130) (Nat.le_refl h5.size)).trans (Ext.sets _ (a := ⟨h5.size, 0, none⟩) 0 (S_api_Tenant.cs ⟨c.f_Tenant, ⟨some ⟨h4.size, 0, none⟩, 1, 1⟩, -9223372036854775808, false⟩) (Nat.le_refl _))
        refine ⟨_, WrsAt.of_blk T0 (by rw [tcs_len]; omega), rfl, ?_⟩
        change ref25_Reg_Apply_l4 _ _ _ _ _ _ (setsH (h5.push (.cells (S_api_Tenant.cs zT).toArray 130)) ⟨h5.size, 0, none⟩ 0 (S_api_Tenant.cs ⟨c.f_Tenant, ⟨some ⟨h4.size, 0, none⟩, 1, 1⟩, -9223372036854775808, false⟩))
        generalize setsH (h5.push (.cells (S_api_Tenant.cs zT).toArray 130)) ⟨h5.size, 0, none⟩ 0 (S_api_Tenant.cs ⟨c.f_Tenant, ⟨some ⟨h4.size, 0, none⟩, 1, 1⟩, -9223372036854775808, false⟩) = h6 at *
        have z6 := E6.size
        have X26 : Ext h2.size h2 h6 := X4.trans ((E5.trans (E6.mono z5)).mono X4.size)
        have X06 : Ext h.size h h6 := E2.trans (X26.mono z2)
        have M6 := M.ext E6 ml
        have za := X04.size
        refine RNew_ok (zs := [(⟨c.f_Epoch, c.f_Nonce, c.f_Wrapped⟩, wr)]) (b' := b + 1) S X06 (P.ext X26 pl) T (by omega) ⟨?_, rfl, fun z hz => ?_⟩ (by simp) (Nat.le_succ b) hb fun j h' jl j1 j2 S' sf => ?_
        · show Row (rb + 1) h6 132 14 ⟨some ⟨h4.size, 0, none⟩, 1, 1⟩ (S_api_Wrapped.cs ⟨c.f_Epoch, c.f_Nonce, c.f_Wrapped⟩ ++ [])
          rw [List.append_nil]
          exact Row.one M6 (by omega) (wcs_len _)
        · simp only [List.mem_singleton] at hz
          subst hz
          exact ⟨A.ws, A.wl, A.wb, w48 (.inl k1)⟩
        · have := H _ h' S' ?_ sf
          · rw [code, code2] at this; exact this
          · show _ = tenL (if applyB c wr.length (absQ qs) = 0 ∧ c.f_Kind ≠ 0 then _ else absQ qs)
            rw [if_pos ⟨code2, k0⟩, mn, tenL_new so (by rw [absQ_len]; exact jl) (find_none hn) j1 j2]
            unfold newT
            rw [if_pos k1]
            unfold absQ
            rw [List.map_append, List.map_cons, List.map_take, List.map_drop]
            rfl
      · rw [if_pos (by simpa using e1)]
        rw [if_pos (by simpa using e1)] at code2
        exact stay 13 h4 code2 (.inl (by omega)) X04
    -- one that is there
    rw [if_neg (by rw [beq_iff_eq]; exact k1)]
    rcases hr with ⟨i, q, hx, hn, rfl⟩ | ⟨rfl, hn⟩
    · have mn := find_mget so hx
      rw [hn] at mn
      rw [mn] at code2 ⊢
      unfold askB at code2
      rw [if_neg k0, if_neg (fun e => k1 e.1), if_neg (fun e => k1 e.1), if_neg (fun e => by cases e.2), Option.getD_some] at code2
      rw [if_neg (by rw [decide_eq_true_eq]; omega)]
      obtain ⟨s, P4, R4, l4⟩ := S4.R
      have hi := (List.getElem?_eq_some_iff.1 hx).1
      have L4 : LsAt tcs 4 h4 s qs := LsAt.of_slc (fun x => tcs4 x) R4.slc l4 (by omega)
      obtain ⟨a, ha, D⟩ := L4.at' i q hx
      refine ⟨_, rfl, s, by rw [P4.cell]; rfl, a, ha, by omega, by omega, q.1, D, _, _, rfl, rfl, ?_⟩
      have T0 := Blk.push h4 (S_api_Tenant.cs zT) 130
      have T := T0.sets_all (vs := S_api_Tenant.cs q.1) rfl
      have E6 := (Ext.push h4 (.cells (S_api_Tenant.cs zT).toArray 130) (Nat.le_refl h4.size)).trans (Ext.sets _ (a := ⟨h4.size, 0, none⟩) 0 (S_api_Tenant.cs q.1) (Nat.le_refl _))
      refine ⟨_, WrsAt.of_blk T0 (by rw [tcs_len]; omega), rfl, ?_⟩
      show ∃ v63 : Bool, cellH (setsH (h4.push (.cells (S_api_Tenant.cs zT).toArray 130)) ⟨h4.size, 0, none⟩ 0 (S_api_Tenant.cs q.1)) _ = _ ∧ _
      generalize setsH (h4.push (.cells (S_api_Tenant.cs zT).toArray 130)) ⟨h4.size, 0, none⟩ 0 (S_api_Tenant.cs q.1) = h6 at *
      have z6 := E6.size
      have X26 : Ext h2.size h2 h6 := X4.trans (E6.mono X4.size)
      have X06 : Ext h.size h h6 := E2.trans (X26.mono z2)
      have N6 := N2.ext E6 nl4
      have za := X04.size
      have C6 := P.ext X26 pl
      have hbt : h.size ≤ h4.size := za
      refine ⟨q.1.f_Shredded, by rw [add_mk, T.cell]; rfl, ?_⟩
      obtain ⟨K0, kb⟩ := S.K q (List.mem_of_getElem? hx)
      have suc : ∀ (t' : S_api_Tenant) (zs' : List Z) (h' : Heap), applyB c wr.length (absQ qs) = 0 → t'.f_Name = c.f_Tenant → absT (t', zs') = newT c wr (absT q) → RefS W h' rb (b + 1) (qs.set i (t', zs')) → Soft h h' → k 0 h' := fun t' zs' h' e0 en et S' sf => by
        have := H _ h' S' ?_ sf
        · rw [code, e0] at this; exact this
        · show _ = tenL (if applyB c wr.length (absQ qs) = 0 ∧ c.f_Kind ≠ 0 then _ else absQ qs)
          have hi' := absQ_get hx
          rw [hn] at hi'
          rw [if_pos ⟨e0, k0⟩, mn, tenL_set so hi', Option.getD_some, ← et]
          unfold absQ
          rw [List.map_set]
          dsimp only
          rw [en]
      have g6 : ref25_Reg_Apply_g6 (some ⟨rb, 0, none⟩) ⟨h.size, 0, none⟩ (i : Int) (epB (absT q).2.2) ⟨h3.size, 0, none⟩ ⟨h4.size, 0, none⟩ (decide (q.1.f_Shredded = true ∧ c.f_Kind ≠ 5)) k h6 := by
        unfold ref25_Reg_Apply_g6
        by_cases hs : q.1.f_Shredded = true ∧ c.f_Kind ≠ 5
        · rw [if_pos (decide_eq_true hs)]
          rw [if_pos (show (absT q).2.1 = true ∧ c.f_Kind ≠ 5 from hs)] at code2
          exact stay 17 h6 code2 (.inl (by omega)) X06
        rw [if_neg (by rw [decide_eq_true_eq]; exact hs)]
        rw [if_neg (show ¬ ((absT q).2.1 = true ∧ c.f_Kind ≠ 5) from hs), if_neg k1] at code2
        refine ⟨_, c0 X26, ?_⟩
        by_cases k2 : c.f_Kind = 2
        · rw [if_pos (by rw [beq_iff_eq]; exact k2)]
          rw [if_pos k2] at code2
          by_cases e1 : epB (absT q).2.2 = 4294967295
          · rw [if_pos (by rw [beq_iff_eq]; exact e1)]
            rw [if_pos e1, if_pos rfl] at code2
            unfold ref25_Reg_Apply_g8
            rw [if_pos rfl]
            exact stay 13 h6 code2 (.inl (by omega)) X06
          rw [if_neg (by rw [beq_iff_eq]; exact e1)]
          rw [if_neg e1] at code2
          refine ⟨_, c2 X26, ?_⟩
          by_cases e2 : c.f_Epoch = IntKind.u32.wrap (epB (absT q).2.2 + 1)
          · rw [show (c.f_Epoch != IntKind.u32.wrap (epB (absT q).2.2 + 1)) = false from by simpa using e2] at code2 ⊢
            rw [if_neg (by simp)] at code2
            refine RRot_ok S X06 T hbt N6 hx ⟨A.ws, A.wl, A.wb, w48 (.inr k2)⟩ hb fun s' h' S' sf => suc { q.1 with f_Keys := s' } _ h' code2 hn ?_ S' sf
            unfold newT
            rw [if_neg k1, if_pos k2]
            show (q.1.f_Horizon, q.1.f_Shredded, (q.2 ++ [_]).map absK) = _
            rw [List.map_append]
            rfl
          · rw [show (c.f_Epoch != IntKind.u32.wrap (epB (absT q).2.2 + 1)) = true from by simpa using e2] at code2 ⊢
            rw [if_pos rfl] at code2
            unfold ref25_Reg_Apply_g8
            rw [if_pos rfl]
            exact stay 13 h6 code2 (.inl (by omega)) X06
        rw [if_neg (by rw [beq_iff_eq]; exact k2)]
        rw [if_neg k2] at code2
        by_cases k3 : c.f_Kind = 3
        · rw [if_pos (by rw [beq_iff_eq]; exact k3)]
          rw [if_pos k3] at code2
          refine ⟨_, c2 X26, ?_⟩
          by_cases e1 : c.f_Epoch > epB (absT q).2.2
          · rw [if_pos (decide_eq_true e1)]
            rw [if_pos (decide_eq_true e1)] at code2
            exact stay 13 h6 code2 (.inl (by omega)) X06
          · rw [if_neg (by rw [decide_eq_true_eq]; exact e1)]
            rw [if_neg (by rw [decide_eq_true_eq]; exact e1)] at code2
            refine RDrop_ok S X06 C6 T hbt hx fun s' h' S' sf => suc { q.1 with f_Keys := s' } _ h' code2 hn ?_ (S'.more (Nat.le_succ b) hb) sf
            unfold newT
            rw [if_neg k1, if_neg k2, if_pos k3]
            show (q.1.f_Horizon, q.1.f_Shredded, (q.2.filter _).map absK) = _
            rw [show (absT q).2.2 = q.2.map absK from rfl, List.filter_map]
            rfl
        rw [if_neg (by rw [beq_iff_eq]; exact k3)]
        rw [if_neg k3] at code2
        by_cases k4 : c.f_Kind = 4
        · rw [if_pos (by rw [beq_iff_eq]; exact k4)]
          rw [if_pos k4] at code2
          refine ⟨_, c16 X26, q.1.f_Horizon, by rw [add_mk, T.cell]; rfl, ?_⟩
          change applyB c wr.length (absQ qs) = if decide (c.f_Horizon < q.1.f_Horizon) = true then 13 else 0 at code2
          by_cases e1 : c.f_Horizon < q.1.f_Horizon
          · rw [if_pos (decide_eq_true e1)]
            rw [if_pos (decide_eq_true e1)] at code2
            exact stay 13 h6 code2 (.inl (by omega)) X06
          · rw [if_neg (by rw [decide_eq_true_eq]; exact e1)]
            rw [if_neg (by rw [decide_eq_true_eq]; exact e1)] at code2
            refine ⟨_, c16 X26, _, by rw [add_mk]; exact T.wr (by rw [tcs_len]; omega), rfl, ?_⟩
            rw [show (⟨h4.size, 0, none⟩ : Addr).add 2 = ⟨h4.size, 2, none⟩ from by simp]
            have T2 : Blk (setH h6 ⟨h4.size, 2, none⟩ (.int .i64 c.f_Horizon)) h4.size (S_api_Tenant.cs { q.1 with f_Horizon := c.f_Horizon }) 130 := T.set
            have X2 : Ext h.size h (setH h6 ⟨h4.size, 2, none⟩ (.int .i64 c.f_Horizon)) := X06.trans (Ext.set _ _ hbt)
            refine RAj7_ok (zs := q.2) S X2 T2 hx (K0.ext X2) (Nat.le_trans kb (Nat.le_succ b)) (Nat.le_succ b) hb fun h' S' sf => suc { q.1 with f_Horizon := c.f_Horizon } _ h' code2 hn ?_ S' sf
            unfold newT
            rw [if_neg k1, if_neg k2, if_neg k3, if_pos k4]
            rfl
        rw [if_neg (by rw [beq_iff_eq]; exact k4)]
        rw [if_neg k4, if_neg (by simp)] at code2
        have k5 : c.f_Kind = 5 := by omega
        rw [if_pos (by rw [beq_iff_eq]; exact k5)]
        refine ⟨_, by rw [add_mk]; exact T.wr (by rw [tcs_len]; omega), rfl, ?_⟩
        rw [show (⟨h4.size, 0, none⟩ : Addr).add 3 = ⟨h4.size, 3, none⟩ from by simp]
        have T2 : Blk (setH h6 ⟨h4.size, 3, none⟩ (.bool true)) h4.size (S_api_Tenant.cs { q.1 with f_Shredded := true }) 130 := T.set
        have X2 : Ext h.size h (setH h6 ⟨h4.size, 3, none⟩ (.bool true)) := X06.trans (Ext.set _ _ hbt)
        refine ⟨_, by rw [add_mk]; exact T2.wr (by rw [tcs_len]; omega), rfl, ?_⟩
        rw [show (⟨h4.size, 0, none⟩ : Addr).add 1 = ⟨h4.size, 1, none⟩ from by simp]
        have T3 : Blk (setH (setH h6 ⟨h4.size, 3, none⟩ (.bool true)) ⟨h4.size, 1, none⟩ (Slc.v ⟨none, 0, 0⟩)) h4.size (S_api_Tenant.cs { q.1 with f_Shredded := true, f_Keys := ⟨none, 0, 0⟩ }) 130 := T2.set
        have X3 : Ext h.size h (setH (setH h6 ⟨h4.size, 3, none⟩ (.bool true)) ⟨h4.size, 1, none⟩ (Slc.v ⟨none, 0, 0⟩)) := X2.trans (Ext.set _ _ hbt)
        refine RAj7_ok (zs := []) S X3 T3 hx (KRow.nil _ _ _) (by simp) (Nat.le_succ b) hb fun h' S' sf => suc { q.1 with f_Shredded := true, f_Keys := ⟨none, 0, 0⟩ } _ h' code2 hn ?_ S' sf
        unfold newT
        rw [if_neg k1, if_neg k2, if_neg k3, if_neg k4, if_pos k5]
        rfl
      cases hs : q.1.f_Shredded with
      | true =>
        rw [if_pos rfl]
        refine ⟨_, c0 X26, ?_⟩
        rw [show decide (q.1.f_Shredded = true ∧ c.f_Kind ≠ 5) = (c.f_Kind != 5) from by simp [hs, bne_iff_ne, bne, decide_not]; rw [Bool.beq_eq_decide_eq]] at g6
        exact g6
      | false =>
        rw [if_neg (by simp)]
        rw [show decide (q.1.f_Shredded = true ∧ c.f_Kind ≠ 5) = false from by simp [hs]] at g6
        exact g6
    · rw [if_pos (by decide)]
      refine stay 16 h4 ?_ (.inl (by omega)) X04
      have mn : mget (absQ qs) c.f_Tenant = none := mget_none (find_none hn)
      rw [code2, mn]
      unfold askB
      rw [if_neg k0, if_neg (fun e => k1 e.1), if_neg (fun e => k1 e.1), if_pos ⟨k1, rfl⟩]
  have E22 := Ext.refl h2.size h2
  have bad : mayR c wr.length = false → ∀ h', Ext h2.size h2 h' → ref25_Reg_Apply_g2 (some ⟨rb, 0, none⟩) ⟨h.size, 0, none⟩ true k h' := fun hm h' X => by
    have := g3 h' X
    rw [hm] at this
    unfold ref25_Reg_Apply_g2
    rw [if_pos rfl]; exact this
  have g11 : (nameOk c.f_Tenant = true ∨ c.f_Kind = 0) → 0 ≤ c.f_Kind ∧ c.f_Kind ≤ 5 → ref25_Reg_Apply_g2 (some ⟨rb, 0, none⟩) ⟨h.size, 0, none⟩ false k h2 := fun hn hk => by
    have := g3 h2 E22
    unfold ref25_Reg_Apply_g2
    rw [if_neg (by simp)]
    refine ⟨_, c0 E22, ?_⟩
    have w12 : c.f_Kind = 1 ∨ c.f_Kind = 2 → ref25_Reg_Apply_g11 (some ⟨rb, 0, none⟩) ⟨h.size, 0, none⟩ false true k h2 := fun h12 => by
      unfold ref25_Reg_Apply_g11
      rw [if_pos rfl]
      refine ⟨_, c15 E22, ?_⟩
      unfold ref25_Reg_Apply_g12
      have nm : nameOk c.f_Tenant = true := hn.resolve_right (by omega)
      have e : (!mayR c wr.length) = ((c.f_Wrapped.len : Int) != 48) := by
        unfold mayR
        rw [if_neg (by omega), if_pos h12, nm, Bool.true_and, A.wl]; rfl
      rw [e] at this; exact this
    by_cases k1 : c.f_Kind = 1
    · rw [if_pos (by rw [beq_iff_eq]; exact k1)]; exact w12 (.inl k1)
    rw [if_neg (by rw [beq_iff_eq]; exact k1)]
    refine ⟨_, c0 E22, ?_⟩
    by_cases k2 : c.f_Kind = 2
    · rw [show (c.f_Kind == 2) = true from by rw [beq_iff_eq]; exact k2]; exact w12 (.inr k2)
    rw [show (c.f_Kind == 2) = false from by rw [beq_eq_false_iff_ne]; exact k2]
    unfold ref25_Reg_Apply_g11
    rw [if_neg (by simp)]
    unfold ref25_Reg_Apply_g12
    have e : (!mayR c wr.length) = false := by
      unfold mayR
      by_cases k0 : c.f_Kind = 0
      · rw [if_pos k0]; rfl
      · rw [if_neg k0, if_neg (by omega), if_pos (by omega), hn.resolve_right k0]; rfl
    rw [e] at this; exact this
  have out : c.f_Kind < 0 ∨ c.f_Kind > 5 → mayR c wr.length = false := fun hk => by
    unfold mayR
    rw [if_neg (by omega), if_neg (by omega), if_neg (by omega)]
  refine ⟨_, c0 E22, ?_⟩
  by_cases kn : c.f_Kind < 0
  · rw [if_pos (decide_eq_true kn)]
    unfold ref25_Reg_Apply_g1
    rw [if_pos rfl]
    exact bad (out (.inl kn)) h2 E22
  rw [if_neg (by rw [decide_eq_true_eq]; exact kn)]
  refine ⟨_, c0 E22, ?_⟩
  unfold ref25_Reg_Apply_g1
  by_cases k6 : c.f_Kind > 5
  · rw [if_pos (decide_eq_true k6)]
    exact bad (out (.inr k6)) h2 E22
  rw [if_neg (by rw [decide_eq_true_eq]; exact k6)]
  refine ⟨_, c0 E22, ?_⟩
  by_cases kp : c.f_Kind > 0
  · rw [if_pos (decide_eq_true kp)]
    refine ⟨_, c1 E22, Name16_ok (by omega) ?_⟩
    unfold ref25_Reg_Apply_g13
    cases hn : nameOk c.f_Tenant with
    | true => exact g11 (.inl hn) (by omega)
    | false =>
      refine bad ?_ h2 E22
      unfold mayR
      rw [if_neg (by omega), hn]
      by_cases h12 : c.f_Kind = 1 ∨ c.f_Kind = 2
      · rw [if_pos h12]; rfl
      · rw [if_neg h12]; split <;> rfl
  · rw [if_neg (by rw [decide_eq_true_eq]; exact kp)]
    unfold ref25_Reg_Apply_g13
    exact g11 (.inr (by omega)) (by omega)
end
end Go.Q.Yb
set_option linter.unusedVariables false
set_option linter.unusedSimpArgs false
set_option maxHeartbeats 1000000
namespace Go.Q.Yb
/-! ### the document's form of a registry -/
/-- bytes that grow beside a tenant's copy -/
structure AcT (g h : Heap) (s : Slc) (l : List Int) (b : Nat) (t : S_api_Tenant) : Prop where
  X : Ext g.size g h
  R : Row g.size h 5 1 s (b8 l)
  T : Blk h b (S_api_Tenant.cs t) 130
abbrev NxtT (g : Heap) (l out : List Int) (c : Nat) (b : Nat) (t : S_api_Tenant) (k : Slc → Heap → Prop) : Prop := ∀ s' h' l', l' = l ++ out → l'.length ≤ l.length + c → AcT g h' s' l' b t → k s' h'
theorem b8_one (l : List Int) : ∀ v ∈ b8 l, v.oneCell' = true := fun v hv => by obtain ⟨a, _, rfl⟩ := List.mem_map.1 hv; rfl
section
variable {g h : Heap} {s : Slc} {l : List Int} {k : Slc → Heap → Prop} {b : Nat} {t : S_api_Tenant}
theorem AcT.app (M : AcT g h s l b t) {v : List Int} {n c : Nat} (hn : n = v.length) (hc : v.length ≤ c) (hl : l.length + v.length ≤ 70368744177664) (H : NxtT g l v c b t k) : App 5 1 1 [.int .u8 0] h s n (b8 v) k := by
  have sl := M.R.pb
  refine AppE M.R M.X.size rfl (by rw [List.length_map, hn, Nat.mul_one]) (b8_one _) (by omega) (by simp only [maxLen]; omega) fun s' h' R' _ X' o => ?_
  refine H s' h' _ rfl (by rw [List.length_append]; omega) ⟨M.X.trans X', ?_, M.T.old (o b M.T.lt (M.R.ne_blk M.T (by decide)))⟩
  show Row g.size h' 5 1 s' ((l ++ v).map (Value.int .u8))
  rw [List.map_append]; exact R'
theorem AcT.ext {h' : Heap} (M : AcT g h s l b t) (X : Ext h.size h h') : AcT g h' s l b t := ⟨M.X.trans (X.mono M.X.size), M.R.ext X fun g hg => (M.R.bd hg).2, M.T.ext X M.T.lt⟩
theorem AcT.bytes (M : AcT g h s l b t) {u : Slc} {v : List Int} {c : Nat} (ht : SlcAt h u (b8 v)) (hn : u.len = v.length) (hc : v.length ≤ c) (hl : l.length + v.length ≤ 70368744177664) (H : NxtT g l v c b t k) : ∃ w, SlcAt h u w ∧ App 5 1 1 [.int .u8 0] h s u.len w k :=
  ⟨_, ht, M.app hn hc hl H⟩
theorem AcT.row (M : AcT g h s l b t) {u : Slc} {v : List Int} {h1 : Heap} {c : Nat} (hR : Row h.size h1 5 1 u (b8 v)) (hX : Ext h.size h h1) (hc : v.length ≤ c) (hl : l.length + v.length ≤ 70368744177664) (H : NxtT g l v c b t k) : ∃ w, SlcAt h1 u w ∧ App 5 1 1 [.int .u8 0] h1 s u.len w k :=
  (M.ext hX).bytes hR.slc hR.pb hc hl H
theorem AcT.short (M : AcT g h s l b t) {n : Int} (n0 : 0 ≤ n) (n1 : n < 18446744073709551616) (hl : l.length ≤ 4398046511104) (H : NxtT g l (shortL n) 10 b t k) : ref01_Short n (fun r h' => ∃ w, SlcAt h' r w ∧ App 5 1 1 [.int .u8 0] h' s r.len w k) h :=
  RShort_ok n0 n1 fun r h1 R1 X1 => M.row R1 X1 (shortL_len n) (by have := shortL_len n; omega) H
theorem AcT.form (M : AcT g h s l b t) {n w : Int} (w0 : 0 ≤ w) (w1 : w ≤ 8) (n0 : 0 ≤ n) (n1 : n < 18446744073709551616) (hl : l.length ≤ 4398046511104) (H : NxtT g l (formL n w.toNat) w.toNat b t k) : ref01_Form n w (fun r h' => ∃ w, SlcAt h' r w ∧ App 5 1 1 [.int .u8 0] h' s r.len w k) h :=
  Form_ok w0 w1 n0 n1 fun r h1 R1 X1 => M.row R1 X1 (by rw [formL_length]; exact Nat.le_refl _) (by rw [formL_length]; omega) H
theorem AcT.one (M : AcT g h s l b t) {v : Int} (hl : l.length ≤ 4398046511104) (H : NxtT g l [v] 1 b t k) : ∃ (b : Nat) (h' : Heap), b = h.size ∧ h' = h.push (.cells ([.int .u8 v] : List Value).toArray 5) ∧ App 5 1 1 [.int .u8 0] h' s 1 ([.int .u8 v]) k :=
  ⟨_, _, rfl, rfl, (M.ext (Ext.push _ _ (Nat.le_refl _))).app (v := [v]) rfl (by simp) (by simp; omega) H⟩
end
section
variable {W h0 h : Heap} {rb b bt : Nat} {qs : List TZ} {q : TZ} {k : Slc → Heap → Prop} {nx1 : Slc × Int → Heap → Prop} {s : Slc} {l : List Int} {i4 : Int}
theorem FKeys_ok (M : AcT h0 h s l bt q.1) (K : KAt h0 q.1.f_Keys q.2) (kn : q.2.length ≤ 1000) (pl : l.length ≤ 10000000) (Wk : ∀ a ∈ q.2.map absK, 0 ≤ a.1 ∧ a.1 < 4294967296) (ii : 0 ≤ i4 ∧ i4 < 1000000)
    (H : ∀ s' h', AcT h0 h' s' (l ++ (q.2.map absK).flatMap keyF) bt q.1 → nx1 (s', i4 + 1) h') : ref25_Reg_Bytes_l3 (some ⟨rb, 0, none⟩) i4 ⟨bt, 0, none⟩ s 0 k nx1 h := by
  have al := K.len
  unfold ref25_Reg_Bytes_l3
  refine ⟨fun st h' => 0 ≤ st.2 ∧ st.2 ≤ q.2.length ∧ ∃ l', l' = l ++ ((q.2.take st.2.toNat).map absK).flatMap keyF ∧ l'.length ≤ l.length + st.2.toNat * 64 ∧ AcT h0 h' st.1 l' bt q.1, fun st _ => (q.2.length - st.2).toNat,
    ⟨by simp, by simp, l, by simp, by simp, M⟩, ?_⟩
  rintro s1 j h1 ⟨j0, j1, l1, el, L1, M1⟩
  dsimp only at j0 j1 el L1
  have c1 : ∀ {h' s' l'}, AcT h0 h' s' l' bt q.1 → cellH h' ((⟨bt, 0, none⟩ : Addr).add 1) = some (Slc.v q.1.f_Keys) := fun M => by rw [add_mk, M.T.cell]; rfl
  unfold ref25_Reg_Bytes_l3b
  refine ⟨_, c1 M1, ?_⟩
  by_cases hj : j < q.2.length
  · rw [if_pos (by rw [decide_eq_true_eq]; omega)]
    have hz : q.2[j.toNat]? = some (q.2[j.toNat]'(by omega)) := by simp
    have hzm := List.mem_of_getElem? hz
    have W' := Wk (absK (q.2[j.toNat]'(by omega))) (List.mem_map.2 ⟨_, hzm, rfl⟩)
    generalize q.2[j.toNat]'(by omega) = z at *
    obtain ⟨zS, zl, zB, z48⟩ := K.2 z hzm
    obtain ⟨a, ha, _⟩ := K.1.at' j.toNat z.1 (by rw [List.getElem?_map, hz]; rfl)
    have D : ∀ {h' s' l'}, AcT h0 h' s' l' bt q.1 → CellsAt h' (a.add (j.toNat * 14)) (S_api_Wrapped.cs z.1) := fun M => by
      obtain ⟨a', ha', D⟩ := (K.ext M.X).1.at' j.toNat z.1 (by rw [List.getElem?_map, hz]; rfl)
      rw [ha] at ha'; cases ha'; exact D
    have e1 : z.1.f_Epoch = (absK z).1 := rfl
    refine ⟨_, c1 M1, a, ha, j0, by omega, z.1.f_Epoch, by have := D M1 0 _ rfl; rw [add0] at this; exact this, ?_⟩
    rw [wrapU64 (by omega) (by omega)]
    have f4 : (4 : Int).toNat = 4 := rfl
    refine M1.form (by omega) (by omega) (by omega) (by omega) (by omega) fun s2 h2 l2 e2 n2 M2 => ?_
    refine ⟨_, c1 M2, a, ha, j0, by omega, _, by omega, by omega, by omega, rfl, ?_⟩
    have es : subS ⟨some ((a.add (j.toNat * 14)).add 1), 12, 12⟩ 1 (0 : Int).toNat (12 : Int).toNat 12 = ⟨some ((a.add (j.toNat * 14)).add 1), 12, 12⟩ := by simp [subS, add0]
    rw [es]
    have N : SlcAt h2 ⟨some ((a.add (j.toNat * 14)).add 1), 12, 12⟩ (b8 (nrm 12 z.1.f_Nonce)) := by
      refine ⟨fun e => (by cases e), fun x hx m v hv => ?_⟩
      cases hx
      rw [add_add2]
      refine D M2 (1 + m) v ?_
      rw [show b8 (nrm 12 z.1.f_Nonce) = arr 12 .u8 z.1.f_Nonce from (arr_nrm _ _ _).symm] at hv
      have ml := (List.getElem?_eq_some_iff.1 hv).1
      have e : S_api_Wrapped.cs z.1 = .int .u32 z.1.f_Epoch :: (arr 12 .u8 z.1.f_Nonce ++ [Slc.v z.1.f_B]) := rfl
      rw [e, Nat.add_comm 1 m, List.getElem?_cons_succ, List.getElem?_append_left ml, hv]
    refine M2.bytes N (by rw [nrm_len]) (c := 12) (by rw [nrm_len]; omega) (by rw [nrm_len]; omega) fun s3 h3 l3 e3 n3 M3 => ?_
    refine ⟨_, c1 M3, a, ha, j0, by omega, z.1.f_B, D M3 13 _ rfl, ?_⟩
    refine M3.bytes (zS.ext M3.X) zl (c := 48) (by omega) (by omega) fun s4 h4 l4 e4 n4 M4 => ?_
    rw [wrapI64 (by omega) (by omega)]
    refine ⟨_, rfl, ⟨by dsimp only; omega, by dsimp only; omega, l4, ?_, by dsimp only; omega, M4⟩, by dsimp only; omega⟩
    dsimp only
    have et : (q.2.take (j + 1).toNat).map absK = (q.2.take j.toNat).map absK ++ [absK z] := by
      rw [show (j + 1).toNat = j.toNat + 1 from by omega, List.take_add_one, hz, List.map_append]; rfl
    rw [e4, e3, e2, el, et, List.flatMap_append]
    simp [keyF, absK]
  · rw [if_neg (by rw [decide_eq_true_eq]; omega)]
    rw [List.take_of_length_le (by omega)] at el
    rw [wrapI64 (by omega) (by omega)]
    refine ⟨_, rfl, H s1 h1 ?_⟩
    rw [← el]; exact M1
theorem FTail_ok (M : AcT h0 h s l bt q.1) (K : KAt h0 q.1.f_Keys q.2) (kn : q.2.length ≤ 1000) (pl : l.length ≤ 9000000) (Wk : Wf (q.1.f_Name, absT q)) (ii : 0 ≤ i4 ∧ i4 < 1000000)
    (H : ∀ s' h', AcT h0 h' s' (l ++ (formL (zigN q.1.f_Horizon) 8 ++ (shortL q.2.length ++ (q.2.map absK).flatMap keyF))) bt q.1 → nx1 (s', i4 + 1) h') : ref25_Reg_Bytes_j2 (some ⟨rb, 0, none⟩) i4 ⟨bt, 0, none⟩ s k nx1 h := by
  have al := K.len
  have W1 : i64r q.1.f_Horizon := Wk.1
  have c1 : ∀ {h' s' l'}, AcT h0 h' s' l' bt q.1 → cellH h' ((⟨bt, 0, none⟩ : Addr).add 1) = some (Slc.v q.1.f_Keys) := fun M => by rw [add_mk, M.T.cell]; rfl
  have zb := zigN_bd W1.1 W1.2
  have e8 : (8 : Int).toNat = 8 := rfl
  unfold ref25_Reg_Bytes_j2
  refine ⟨q.1.f_Horizon, by rw [add_mk, M.T.cell]; rfl, RZig_ok W1.1 W1.2 ?_⟩
  refine M.form (by omega) (by omega) zb.1 zb.2 (by omega) fun s2 h2 l2 e2 n2 M2 => ?_
  refine ⟨_, c1 M2, ?_⟩
  rw [wrapU64 (by omega) (by omega), al]
  refine M2.short (by omega) (by omega) (by omega) fun s3 h3 l3 e3 n3 M3 => ?_
  refine FKeys_ok M3 K kn (by omega) Wk.2 ii fun s4 h4 M4 => H s4 h4 ?_
  rw [e3, e2, e8] at M4
  simpa only [List.append_assoc] using M4
theorem RBytes_ok (S : RefS W h rb b qs) (nm : ∀ p ∈ absQ qs, p.1.size ≤ 100000) (Wk : ∀ p ∈ absQ qs, Wf p) (H : ∀ s h', Row h.size h' 5 1 s (b8 (regF (absQ qs))) → Ext h.size h h' → k s h') : ref25_Reg_Bytes (some ⟨rb, 0, none⟩) k h := by
  have nl := S.n
  have hb := S.hb
  obtain ⟨s, P, R, sl⟩ := S.R
  have rl := P.lt
  have cs0 : ∀ {h'}, Ext h.size h h' → cellH h' ⟨rb, 0, none⟩ = some (Slc.v s) := fun X' => by rw [(P.ext X' rl).cell]; rfl
  have L : LsAt tcs 4 h s qs := LsAt.of_slc (fun x => tcs4 x) R.slc sl (by omega)
  have ql := absQ_len qs
  unfold ref25_Reg_Bytes
  refine ⟨_, rfl, s, cs0 (Ext.refl _ _), ?_⟩
  rw [wrapU64 (by omega) (by omega), sl]
  refine RShort_ok (by omega) (by omega) fun s1 h1 R1 X1 => ?_
  have sl10 := shortL_len qs.length
  unfold ref25_Reg_Bytes_l1
  refine ⟨fun st h' => 0 ≤ st.2 ∧ st.2 ≤ qs.length ∧ ∃ l', l' = shortL qs.length ++ ((absQ qs).take st.2.toNat).flatMap tenF ∧ l'.length ≤ 10 + st.2.toNat * 170000 ∧ Ac h h' st.1 l', fun st _ => (qs.length - st.2).toNat,
    ⟨by simp, by simp, shortL qs.length, by simp, by simpa using sl10, ⟨X1, R1⟩⟩, ?_⟩
  rintro s2 i h2 ⟨i0, i1, l2, el, L2, M2⟩
  dsimp only at i0 i1 el L2
  unfold ref25_Reg_Bytes_l1b
  refine ⟨_, rfl, s, cs0 M2.X, ?_⟩
  by_cases hi : i < qs.length
  · rw [if_pos (by rw [decide_eq_true_eq]; omega)]
    have hx : qs[i.toNat]? = some (qs[i.toNat]'(by omega)) := by simp
    have hxm := List.mem_of_getElem? hx
    generalize qs[i.toNat]'(by omega) = q at *
    have hy := absQ_get hx
    have hym := List.mem_of_getElem? hy
    obtain ⟨KR, kb⟩ := S.K q hxm
    have KA := KR.at S.X
    have qn := nm _ hym
    have Wq := Wk _ hym
    dsimp only at qn
    have y17 := tenF_le (p := (q.1.f_Name, absT q)) rfl qn (by omega) fun z hz => (KR.2.2 z hz).2.2.2
    obtain ⟨a, ha, D⟩ := (L.ext M2.X).at' i.toNat q hx
    refine ⟨s, cs0 M2.X, a, ha, i0, by omega, q.1, D, _, _, rfl, rfl, ?_⟩
    have T0 := Blk.push h2 (S_api_Tenant.cs zT) 130
    have T := T0.sets_all (vs := S_api_Tenant.cs q.1) rfl
    have E3 := (Ext.push h2 (.cells (S_api_Tenant.cs zT).toArray 130) (Nat.le_refl h2.size)).trans (Ext.sets _ (a := ⟨h2.size, 0, none⟩) 0 (S_api_Tenant.cs q.1) (Nat.le_refl _))
    refine ⟨_, WrsAt.of_blk T0 (by rw [tcs_len]; omega), rfl, ?_⟩
    show ∃ v13 : ByteArray, cellH (setsH (h2.push (.cells (S_api_Tenant.cs zT).toArray 130)) ⟨h2.size, 0, none⟩ 0 (S_api_Tenant.cs q.1)) _ = _ ∧ _
    generalize setsH (h2.push (.cells (S_api_Tenant.cs zT).toArray 130)) ⟨h2.size, 0, none⟩ 0 (S_api_Tenant.cs q.1) = h3 at *
    have M3 : AcT h h3 s2 l2 h2.size q.1 := ⟨(M2.ext E3).X, (M2.ext E3).R, T⟩
    refine ⟨q.1.f_Name, by rw [T.cell]; rfl, ?_⟩
    rw [wrapU64 (by omega) (by omega)]
    refine M3.short (by omega) (by omega) (by omega) fun s4 h4 l4 e4 n4 M4 => ?_
    refine ⟨q.1.f_Name, by rw [M4.T.cell]; rfl, ?_⟩
    refine M4.app (c := 100000) (by rw [sB_len]) (by rw [sB_len]; omega) (by rw [sB_len]; omega) fun s5 h5 l5 e5 n5 M5 => ?_
    refine ⟨q.1.f_Shredded, by rw [add_mk, M5.T.cell]; rfl, ?_⟩
    have go : ∀ (f : Int) s6 h6 l6, (f = if q.1.f_Shredded = true then 1 else 0) → l6 = l5 ++ [f] → l6.length ≤ l5.length + 1 → AcT h h6 s6 l6 h2.size q.1 → ref25_Reg_Bytes_j2 (some ⟨rb, 0, none⟩) i ⟨h2.size, 0, none⟩ s6 k (fun st h' => (0 ≤ st.2 ∧ st.2 ≤ (qs.length : Int) ∧ ∃ l', l' = shortL qs.length ++ ((absQ qs).take st.2.toNat).flatMap tenF ∧ l'.length ≤ 10 + st.2.toNat * 170000 ∧ Ac h h' st.1 l') ∧ ((qs.length : Int) - st.2).toNat < ((qs.length : Int) - i).toNat) h6 := fun f s6 h6 l6 hf e6 n6 M6 => by
      refine FTail_ok M6 KA (by omega) (by omega) Wq ⟨i0, by omega⟩ fun s7 h7 M7 => ?_
      have et : (absQ qs).take (i + 1).toNat = (absQ qs).take i.toNat ++ [(q.1.f_Name, absT q)] := by
        rw [show (i + 1).toNat = i.toNat + 1 from by omega, List.take_add_one, hy]; rfl
      have ef : formL (if (absT q).2.1 = true then 1 else 0) 1 = [f] := by
        rw [hf]; show formL (if q.1.f_Shredded = true then 1 else 0) 1 = _
        cases q.1.f_Shredded <;> rfl
      have ey : tenF (q.1.f_Name, absT q) = textL q.1.f_Name ++ ([f] ++ (formL (zigN q.1.f_Horizon) 8 ++ (shortL q.2.length ++ (q.2.map absK).flatMap keyF))) := by
        rw [← ef]
        show textL q.1.f_Name ++ (formL _ 1 ++ (formL (zigN q.1.f_Horizon) 8 ++ (shortL (q.2.map absK).length ++ (q.2.map absK).flatMap keyF))) = _
        rw [List.length_map]
      have ee : l6 ++ (formL (zigN q.1.f_Horizon) 8 ++ (shortL q.2.length ++ (q.2.map absK).flatMap keyF)) = l2 ++ tenF (q.1.f_Name, absT q) := by
        rw [e6, e5, e4, ey]
        simp only [textL, List.append_assoc]
      rw [ee] at M7
      refine ⟨⟨by dsimp only; omega, by dsimp only; omega, _, ?_, ?_, ⟨M7.X, M7.R⟩⟩, by dsimp only; omega⟩
      · dsimp only
        rw [et, List.flatMap_append, el]
        simp
      · dsimp only
        rw [List.length_append, show (i + 1).toNat = i.toNat + 1 from by omega]
        omega
    cases hs : q.1.f_Shredded with
    | true =>
      rw [if_pos rfl]
      exact M5.one (by omega) fun s6 h6 l6 e6 n6 M6 => go 1 s6 h6 l6 (by rw [hs]; rfl) e6 n6 M6
    | false =>
      rw [if_neg (by simp)]
      exact M5.one (by omega) fun s6 h6 l6 e6 n6 M6 => go 0 s6 h6 l6 (by rw [hs]; rfl) e6 n6 M6
  · rw [if_neg (by rw [decide_eq_true_eq]; omega)]
    rw [List.take_of_length_le (by omega), ← ql] at el
    refine H s2 h2 ?_ M2.X
    have := M2.R
    rw [el] at this; exact this
end
end Go.Q.Yb
