/- A part of the proof of statements of this seat: lemmas, no statement of their own. -/
import Derived.Test.YtcmbgfmbmbgbiaaYbForm
set_option linter.unusedVariables false
set_option linter.unusedSimpArgs false
namespace Go.Q.Yb
theorem flat_len {α : Type} {f : α → List Int} {c : Nat} : ∀ {l : List α}, (∀ x ∈ l, (f x).length ≤ c) → (l.flatMap f).length ≤ l.length * c
  | [], _ => by simp
  | x :: l, h => by
    have h1 := h x (by simp)
    have h2 := flat_len (l := l) fun y hy => h y (List.mem_cons_of_mem _ hy)
    simp only [List.flatMap_cons, List.length_append, List.length_cons]
    rw [Nat.add_mul]; omega
theorem flat_snoc {α : Type} {f : α → List Int} {l : List α} {i : Nat} {x : α} (hx : l[i]? = some x) : (l.take (i + 1)).flatMap f = (l.take i).flatMap f ++ f x := by
  rw [List.take_add_one, hx]; simp
/-! ### a message -/
def entL (e : Ent) : List Int := shortL e.1 ++ tx e.2
def msgL (m : S_api_Msg) (es : List Ent) (snap : List Int) : List Int :=
  [m.f_Kind % 256] ++ shortL m.f_Term ++ shortL m.f_Index ++ shortL m.f_LogTerm ++ shortL m.f_Commit ++ [if m.f_Yes then 1 else 0] ++ shortL es.length ++ es.flatMap entL ++ tx snap
structure MsgAt (h : Heap) (m : S_api_Msg) (vs : List S_api_Entry) (es : List Ent) (snap : List Int) : Prop where
  ls : LsAt S_api_Entry.cs 2 h m.f_Entries vs
  el : vs.length = es.length
  en : ∀ (i : Nat) v e, vs[i]? = some v → es[i]? = some e → v.f_Term = e.1 ∧ SlcAt h v.f_Cmd (b8 e.2) ∧ v.f_Cmd.len = e.2.length
  er : ∀ e ∈ es, (0 ≤ e.1 ∧ e.1 < 18446744073709551616) ∧ isB e.2
  ss : SlcAt h m.f_Snap (b8 snap)
  sl : m.f_Snap.len = snap.length
  sb : isB snap
  r1 : 0 ≤ m.f_Term ∧ m.f_Term < 18446744073709551616
  r2 : 0 ≤ m.f_Index ∧ m.f_Index < 18446744073709551616
  r3 : 0 ≤ m.f_LogTerm ∧ m.f_LogTerm < 18446744073709551616
  r4 : 0 ≤ m.f_Commit ∧ m.f_Commit < 18446744073709551616
structure MsgSm (es : List Ent) (snap : List Int) : Prop where
  n : es.length ≤ 10000
  e : ∀ e ∈ es, e.2.length ≤ 10000
  s : snap.length ≤ 10000
theorem MsgAt.ext {h h' : Heap} {m : S_api_Msg} {vs : List S_api_Entry} {es : List Ent} {snap : List Int} (A : MsgAt h m vs es snap) (X : Ext h.size h h') : MsgAt h' m vs es snap :=
  ⟨A.ls.ext X, A.el, fun i v e hv he => by obtain ⟨a, b, c⟩ := A.en i v e hv he; exact ⟨a, b.ext X, c⟩, A.er, A.ss.ext X, A.sl, A.sb, A.r1, A.r2, A.r3, A.r4⟩
theorem entL_len {e : Ent} (h : e.2.length ≤ 10000) : (entL e).length ≤ 10020 := by
  have := shortL_len e.1; have := tx_len e.2
  unfold entL
  rw [List.length_append]; omega
theorem msgL_len {m : S_api_Msg} {es : List Ent} {snap : List Int} (S : MsgSm es snap) : (msgL m es snap).length ≤ 100300000 := by
  have h1 := flat_len (f := entL) (c := 10020) (l := es) fun e he => entL_len (S.e e he)
  have := S.n; have := S.s; have := tx_len snap
  have := shortL_len m.f_Term; have := shortL_len m.f_Index; have := shortL_len m.f_LogTerm; have := shortL_len m.f_Commit; have := shortL_len es.length
  unfold msgL
  simp only [List.length_append, List.length_cons, List.length_nil]; omega
/-- the entries, and the rest -/
theorem mPut_l3_ok {b : Nat} {cs : List Value} {m : S_api_Msg} {vs : List S_api_Entry} {es : List Ent} {snap : List Int} {s : Slc} {pre : List Int} {k : Slc → Heap → Prop} {nx : Slc × Int → Heap → Prop} {h : Heap} (A : MsgAt h m vs es snap) (S : MsgSm es snap) (P : Blk h b (S_api_Msg.cs m) 40)
    (hl : s.len = pre.length) (hs : SlcAt h s (b8 pre)) (hp : pre.length ≤ 1000) (H : Lays' h (pre ++ es.flatMap entL ++ tx snap) k) : raft_Put_l3 ⟨b, 0, none⟩ m.f_Entries (m.f_Entries.len : Int) s 0 k nx h := by
  have nl := A.ls.l
  have el := A.el
  have sn := S.n
  refine ⟨fun q h' => ∃ cur, 0 ≤ q.2 ∧ q.2 ≤ es.length ∧ SlcAt h' q.1 (b8 cur) ∧ q.1.len = cur.length ∧ cur = pre ++ (es.take q.2.toNat).flatMap entL ∧ Ext h.size h h', fun q _ => (es.length - q.2).toNat, ⟨pre, by simp, by simp, hs, hl, by simp, Ext.refl _ _⟩, ?_⟩
  rintro s i h1 ⟨cur, i0, i1, hs, hl, hc, X⟩
  dsimp only at i0 i1 hs hl hc
  have A1 := A.ext X
  have z := X.size
  have P1 := P.ext X P.lt
  have lf := flat_len (f := entL) (c := 10020) (l := es.take i.toNat) fun e he => entL_len (S.e e (List.mem_of_mem_take he))
  rw [List.length_take] at lf
  have lc : cur.length ≤ 100250000 := by
    rw [hc, List.length_append]
    have : min i.toNat es.length * 10020 ≤ 10000 * 10020 := Nat.mul_le_mul_right _ (by omega)
    omega
  unfold raft_Put_l3b
  by_cases hi : i < es.length
  · rw [if_pos (by simp; omega)]
    have hv : vs[i.toNat]? = some (vs[i.toNat]'(by omega)) := by simp
    have he : es[i.toNat]? = some (es[i.toNat]'(by omega)) := by simp
    have sme := S.e _ (List.mem_of_getElem? he)
    have ere := A.er _ (List.mem_of_getElem? he)
    generalize vs[i.toNat]'(by omega) = v at *
    generalize es[i.toNat]'(by omega) = e at *
    obtain ⟨a, ha, C⟩ := A1.ls.at' _ _ hv
    refine ⟨a, ha, i0, by omega, v, C, _, _, rfl, rfl, ?_⟩
    have P0 := Blk.push h1 (S_api_Entry.cs ⟨0, ⟨none, 0, 0⟩⟩) 254
    have K2 := P0.sets_all (vs := S_api_Entry.cs v) rfl
    have W := (Ext.push h1 (.cells (S_api_Entry.cs ⟨0, ⟨none, 0, 0⟩⟩).toArray 254) (Nat.le_refl _)).trans (Ext.sets _ (a := ⟨h1.size, 0, none⟩) 0 (S_api_Entry.cs v) (Nat.le_refl _))
    refine ⟨_, WrsAt.of_blk P0 (by simp [S_api_Entry.cs]), rfl, ?_⟩
    generalize setsH (h1.push (.cells (S_api_Entry.cs ⟨0, ⟨none, 0, 0⟩⟩).toArray 254)) ⟨h1.size, 0, none⟩ 0 (S_api_Entry.cs v) = h2 at *
    have z2 := W.size
    have A2 := A1.ext W
    obtain ⟨t1, t2, t3⟩ := A2.en _ _ _ hv he
    refine ⟨_, by rw [K2.cell]; rfl, _, by rw [add_mk, K2.cell]; rfl, ?_⟩
    rw [t1, wrapI64 (by omega) (by omega)]
    refine PutShort_ok hl (hs.ext W) (by omega) ere.1.1 ere.1.2 fun s3 h3 R3 X3 => ?_
    have z3 := X3.size
    have K3 := K2.ext X3 K2.lt
    have l1 := shortL_len e.1
    refine ⟨by rw [add_mk, K3.cell]; rfl, ?_⟩
    refine btext_ok' R3.pb R3.slc (by simp only [List.length_append, List.length_cons, List.length_nil, formL_length, sB_len, nrm_len]; omega) t3 (t2.ext X3) (by omega) fun s4 h4 R4 X4 => ?_
    refine ⟨⟨_, by dsimp only; omega, by dsimp only; omega, R4.slc, R4.pb, ?_, X.trans ((W.mono z).trans ((X3.mono (by omega)).trans (X4.mono (by omega))))⟩, by dsimp only; omega⟩
    dsimp only
    rw [hc, show (i + 1).toNat = i.toNat + 1 from by omega, flat_snoc he, entL]
    simp only [List.append_assoc]
  · rw [if_neg (by simp; omega)]
    refine ⟨_, by rw [add_mk, P1.cell]; rfl, ?_⟩
    refine btext_ok' hl hs (by omega) A.sl (A1.ss) (by have := S.s; omega) fun s2 h2 R2 X2 => ?_
    refine H s2 h2 ?_ (X.trans (X2.mono z))
    rw [hc, show i.toNat = es.length from by omega, List.take_length] at R2
    exact R2.mono z
theorem mPut_ok {m : S_api_Msg} {vs : List S_api_Entry} {es : List Ent} {snap : List Int} {k : Slc → Heap → Prop} {h : Heap} (A : MsgAt h m vs es snap) (S : MsgSm es snap) (H : Lays' h (msgL m es snap) k) : raft_Put m k h := by
  unfold raft_Put
  refine ⟨_, _, rfl, rfl, ?_⟩
  have P := Blk.push h (S_api_Msg.cs m) 40
  have W := Ext.push h (.cells (S_api_Msg.cs m).toArray 40) (Nat.le_refl _)
  obtain ⟨h2, e2⟩ : ∃ y, y = h.push (.cells (S_api_Msg.cs m).toArray 40) := ⟨_, rfl⟩
  rw [← e2] at P W ⊢
  have pl := P.lt
  have z2 := W.size
  refine ⟨m.f_Kind, by rw [P.cell]; rfl, ?_⟩
  rw [wU8]
  refine ⟨_, _, rfl, rfl, ?_⟩
  have Q := Blk.push h2 (b8 [m.f_Kind % 256]) 5
  have W3 := Ext.push h2 (.cells (b8 [m.f_Kind % 256]).toArray 5) (Nat.le_refl _)
  obtain ⟨h3, e3⟩ : ∃ y, y = h2.push (.cells (b8 [m.f_Kind % 256]).toArray 5) := ⟨_, rfl⟩
  rw [show (Value.int .u8 (m.f_Kind % 256)) :: [] = b8 [m.f_Kind % 256] from rfl, ← e3]
  rw [← e3] at Q W3
  have P3 := P.ext W3 pl
  have z3 := W3.size
  refine ⟨_, by rw [add_mk, P3.cell]; rfl, _, by rw [add_mk, P3.cell]; rfl, _, by rw [add_mk, P3.cell]; rfl, _, by rw [add_mk, P3.cell]; rfl, _, _, rfl, rfl, ?_⟩
  have N := Blk.push h3 [.int .u64 m.f_Term, .int .u64 m.f_Index, .int .u64 m.f_LogTerm, .int .u64 m.f_Commit] 22
  have W4 := Ext.push h3 (.cells [Value.int .u64 m.f_Term, .int .u64 m.f_Index, .int .u64 m.f_LogTerm, .int .u64 m.f_Commit].toArray 22) (Nat.le_refl _)
  obtain ⟨h4, e4⟩ : ∃ y, y = h3.push (.cells [Value.int .u64 m.f_Term, .int .u64 m.f_Index, .int .u64 m.f_LogTerm, .int .u64 m.f_Commit].toArray 22) := ⟨_, rfl⟩
  rw [← e4] at N W4 ⊢
  have Q4 := Q.ext W4 Q.lt
  have P4 := P3.ext W4 P3.lt
  have z4 := W4.size
  have nl := N.lt
  have A4 := ((A.ext W).ext W3).ext W4
  have S0 : SlcAt h4 ⟨some ⟨h2.size, 0, none⟩, 1, 1⟩ (b8 [m.f_Kind % 256]) := Q4.slc (o := 0) (n := 1) rfl
  have XA : Ext h.size h h4 := W.trans ((W3.mono z2).trans (W4.mono (by omega)))
  -- the four numbers
  refine ⟨fun q h' => ∃ cur, 0 ≤ q.2 ∧ q.2 ≤ 4 ∧ SlcAt h' q.1 (b8 cur) ∧ q.1.len = cur.length ∧ cur = [m.f_Kind % 256] ++ (([m.f_Term, m.f_Index, m.f_LogTerm, m.f_Commit] : List Int).take q.2.toNat).flatMap shortL ∧ (1 ≤ q.2 → Row h4.size h' 5 1 q.1 (b8 cur)) ∧ Ext h4.size h4 h', fun q _ => (4 - q.2).toNat, ⟨_, by simp, by simp, S0, rfl, by simp, (fun h => by dsimp only at h; omega), Ext.refl _ _⟩, ?_⟩
  rintro s i h5 ⟨cur, i0, i1, hs, hl, hc, hr, X⟩
  dsimp only at i0 i1 hs hl hc hr
  have z5 := X.size
  have N5 := N.ext X nl
  have P5 := P4.ext X P4.lt
  have A5 := A4.ext X
  have lf := flat_len (f := shortL) (c := 10) (l := ([m.f_Term, m.f_Index, m.f_LogTerm, m.f_Commit] : List Int).take i.toNat) fun x _ => shortL_len x
  rw [List.length_take] at lf
  have lc : cur.length ≤ 41 := by
    rw [hc, List.length_append]
    simp only [List.length_cons, List.length_nil] at lf ⊢
    have : min i.toNat 4 * 10 ≤ 40 := by omega
    omega
  unfold raft_Put_l1b
  by_cases hi : i < 4
  · rw [if_pos (by simpa using hi)]
    have hn : ∃ x, ([m.f_Term, m.f_Index, m.f_LogTerm, m.f_Commit] : List Int)[i.toNat]? = some x ∧ 0 ≤ x ∧ x < 18446744073709551616 := by
      have : i.toNat = 0 ∨ i.toNat = 1 ∨ i.toNat = 2 ∨ i.toNat = 3 := by omega
      rcases this with e | e | e | e <;> rw [e]
      · exact ⟨_, rfl, A.r1.1, A.r1.2⟩
      · exact ⟨_, rfl, A.r2.1, A.r2.2⟩
      · exact ⟨_, rfl, A.r3.1, A.r3.2⟩
      · exact ⟨_, rfl, A.r4.1, A.r4.2⟩
    obtain ⟨x, hx, x0, x1⟩ := hn
    refine ⟨_, rfl, i0, by dsimp only; omega, x, ?_, ?_⟩
    · rw [Nat.mul_one, add_mk, Nat.zero_add, N5.cell]
      have : ([m.f_Term, m.f_Index, m.f_LogTerm, m.f_Commit].map (Value.int .u64))[i.toNat]? = some (.int .u64 x) := by rw [List.getElem?_map, hx]; rfl
      exact this
    rw [wrapI64 (by omega) (by omega)]
    refine PutShort_ok hl hs (by omega) x0 x1 fun s6 h6 R6 X6 => ?_
    refine ⟨⟨_, by dsimp only; omega, by dsimp only; omega, R6.slc, R6.pb, ?_, fun _ => R6.mono z5, X.trans (X6.mono z5)⟩, by dsimp only; omega⟩
    dsimp only
    rw [hc, show (i + 1).toNat = i.toNat + 1 from by omega, flat_snoc hx]
    simp only [List.append_assoc]
  · rw [if_neg (by simpa using hi)]
    have R := hr (by omega)
    have hc4 : cur = [m.f_Kind % 256] ++ shortL m.f_Term ++ shortL m.f_Index ++ shortL m.f_LogTerm ++ shortL m.f_Commit := by
      rw [hc, show i.toNat = 4 from by omega]; simp
    have fin : ∀ y : Int, y = (if m.f_Yes then 1 else 0) → raft_Put_j2 ⟨h.size, 0, none⟩ s y k (fun q h' => (∃ cur, 0 ≤ q.2 ∧ q.2 ≤ 4 ∧ SlcAt h' q.1 (b8 cur) ∧ q.1.len = cur.length ∧ cur = [m.f_Kind % 256] ++ (([m.f_Term, m.f_Index, m.f_LogTerm, m.f_Commit] : List Int).take q.2.toNat).flatMap shortL ∧ (1 ≤ q.2 → Row h4.size h' 5 1 q.1 (b8 cur)) ∧ Ext h4.size h4 h') ∧ (4 - q.2).toNat < (4 - i).toNat) h5 := fun y hy => by
      unfold raft_Put_j2
      refine ⟨_, by rw [add_mk, P5.cell]; rfl, _, _, rfl, rfl, ?_⟩
      have W6 := Ext.push h5 (.cells (b8 [y]).toArray 5) (Nat.le_refl _)
      obtain ⟨h6, e6⟩ : ∃ z, z = h5.push (.cells (b8 [y]).toArray 5) := ⟨_, rfl⟩
      rw [show (Value.int .u8 y) :: [] = b8 [y] from rfl, ← e6]
      rw [← e6] at W6
      have z6 := W6.size
      have P6 := P5.ext W6 P5.lt
      refine ⟨by rw [add_mk, P6.cell]; rfl, ?_⟩
      have R6 := R.ext W6 fun g hg => (R.bd hg).2
      have pb : h.size < h4.size := P4.lt
      refine AppB (m := [y]) R6 (by omega) rfl (by simp; omega) fun s7 h7 R7 X7 => ?_
      have X47 : Ext h4.size h4 h7 := X.trans ((W6.mono z5).trans X7)
      have z7 := X47.size
      have P7 := P4.ext X47 pb
      refine ⟨by rw [add_mk, P7.cell]; rfl, ?_⟩
      have A7 := A4.ext X47
      have nl := A7.ls.l
      have el := A7.el
      have sn := S.n
      rw [wrapU64 (x := (m.f_Entries.len : Int)) (by omega) (by omega)]
      refine PutShort_ok R7.pb R7.slc (by simp; omega) (by omega) (by omega) fun s8 h8 R8 X8 => ?_
      have z8 := X8.size
      have P8 := P7.ext X8 P7.lt
      refine ⟨_, by rw [add_mk, P8.cell]; rfl, ?_⟩
      rw [nl, el] at R8
      have l2 := shortL_len es.length
      refine mPut_l3_ok (cs := []) (A7.ext X8) S P8 R8.pb R8.slc (by simp only [List.length_append, List.length_cons, List.length_nil]; omega) fun s9 h9 R9 X9 => ?_
      refine H s9 h9 ?_ (XA.trans ((X47.trans ((X8.mono z7).trans (X9.mono (by omega)))).mono (by omega)))
      rw [hc4, hy] at R9
      rw [show msgL m es snap = [m.f_Kind % 256] ++ shortL m.f_Term ++ shortL m.f_Index ++ shortL m.f_LogTerm ++ shortL m.f_Commit ++ [if m.f_Yes then 1 else 0] ++ shortL es.length ++ es.flatMap entL ++ tx snap from rfl]
      exact R9.mono (by omega)
    refine ⟨_, by rw [add_mk, P5.cell]; rfl, ?_⟩
    cases hy : m.f_Yes with
    | true => rw [if_pos rfl]; exact fin 1 (by rw [hy]; rfl)
    | false => rw [if_neg (by simp)]; exact fin 0 (by rw [hy]; rfl)
end Go.Q.Yb
