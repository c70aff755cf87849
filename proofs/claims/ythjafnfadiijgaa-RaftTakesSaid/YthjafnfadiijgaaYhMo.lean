/- A part of the proof of statements of this seat: lemmas, no statement of their own. -/
import Derived.Test.YthjafnfadiijgaaYhLt
import Derived.Test.YthjafnfadiijgaaYhZm
import Derived.Test.YthjafnfadiijgaaYhOpen
import Derived.Test.YthjafnfadiijgaaQSt
import Derived.Test.YthjafnfadiijgaaQZa
import Derived.Test.YthjafnfadiijgaaRfB
set_option linter.unusedVariables false
set_option linter.unusedSimpArgs false
set_option maxRecDepth 100000
/- A member takes whatever comes, and answers. -/
namespace Go.Q.Yh
open Rf
theorem GreatT_ok {v : S_api_Msg} {vs : List S_api_Entry} {k : Bool → Heap → Prop} {h : Heap} (L : LsAt S_api_Entry.cs 2 h v.f_Entries vs) (hz : vs.length ≤ 9223372036854775807)
    (H : ∀ r h', (r = false → vs.length ≤ 100 ∧ (∀ y ∈ vs, y.f_Cmd.len ≤ 300) ∧ v.f_Snap.len ≤ 1000) → Ext h.size h h' → k r h') : ref26_Great v k h := by
  unfold ref26_Great
  refine ⟨_, _, rfl, rfl, ?_⟩
  have X := Ext.push h (.cells (S_api_Msg.cs v).toArray 26) (Nat.le_refl _)
  have C := Blk.push h (S_api_Msg.cs v) 26
  have L := L.ext X
  generalize h.push (.cells (S_api_Msg.cs v).toArray 26) = h2 at *
  have sl := L.l
  refine ⟨v.f_Entries, by rw [C.get]; rfl, ?_⟩
  unfold ref23_Great
  refine ⟨fun i h' => h' = h2 ∧ ∃ n : Nat, i = n ∧ n ≤ 100 ∧ n ≤ vs.length ∧ ∀ y ∈ vs.take n, y.f_Cmd.len ≤ 300, fun i _ => (100 - i).toNat, ⟨rfl, 0, rfl, by omega, by omega, by simp⟩, ?_⟩
  rintro i h' ⟨rfl, n, rfl, n1, n2, hb⟩
  unfold ref23_Great_l1b
  by_cases hn : n < vs.length ∧ n < 100
  · rw [if_pos (by simp; omega)]
    obtain ⟨y, hy⟩ : ∃ v, vs[n]? = some v := ⟨_, List.getElem?_eq_getElem (by omega)⟩
    obtain ⟨a, ha, D⟩ := L.at' n y hy
    refine ⟨a, ha, by omega, by omega, y.f_Cmd, by rw [Int.toNat_natCast]; exact D 1 (Slc.v y.f_Cmd) rfl, ?_⟩
    by_cases hg : y.f_Cmd.len > 300
    · rw [if_pos (by simp; omega)]
      show if true = true then _ else _
      rw [if_pos rfl]
      unfold ref26_Great_g1
      exact H true _ (fun h => by cases h) X
    · rw [if_neg (by simp; omega), wrapI64 (by omega) (by omega)]
      refine ⟨_, rfl, ⟨rfl, n + 1, by omega, by omega, by omega, fun f hf => ?_⟩, by dsimp only; omega⟩
      rw [List.take_add_one, hy] at hf
      rcases List.mem_append.1 hf with hf | hf
      · exact hb f hf
      · simp at hf; subst hf; omega
  · rw [if_neg (by simp; omega)]
    show if decide ((v.f_Entries.len : Int) > 100) = true then _ else _
    by_cases hg : vs.length > 100
    · rw [if_pos (by simp; omega)]
      unfold ref26_Great_g1
      exact H true _ (fun h => by cases h) X
    · rw [if_neg (by simp; omega)]
      have e : n = vs.length := by omega
      rw [e, List.take_length] at hb
      refine ⟨v.f_Snap, by rw [C.get]; rfl, ?_⟩
      unfold ref26_Great_g1
      exact H _ _ (fun h => ⟨by omega, hb, by rw [decide_eq_false_iff_not] at h; omega⟩) X
theorem choose_each {h : Heap} {vs : List S_api_Entry} (o : ∀ y ∈ vs, Ok_S_api_Entry h y) : ∃ es : List Ent, Each h vs es ∧ ∀ e ∈ es, (0 ≤ e.1 ∧ e.1 < 18446744073709551616) ∧ isB e.2 := by
  obtain ⟨es, hl, hz⟩ := choose_list (R := fun i (e : Ent) => ∀ v, vs[i]? = some v → EntAt h v e ∧ (0 ≤ e.1 ∧ e.1 < 18446744073709551616) ∧ isB e.2) vs.length fun i hi => by
    obtain ⟨tw, _, _, zs, zl, zc, zb⟩ := o vs[i] (List.getElem_mem hi)
    refine ⟨(vs[i].f_Term, zs), fun v hv => ?_⟩
    rw [List.getElem?_eq_getElem hi] at hv; cases hv
    exact ⟨⟨rfl, zc, zl⟩, wf_u64 tw, wf_isB zb⟩
  refine ⟨es, ⟨hl.symm, fun i v e hv he => (hz i e he v hv).1⟩, fun e he => ?_⟩
  obtain ⟨i, hi⟩ := List.getElem?_of_mem he
  have hi2 : i < vs.length := by have := (List.getElem?_eq_some_iff.1 hi).1; omega
  exact (hz i e hi vs[i] (by simp)).2
/-- a message that came in -/
theorem msg_of {h : Heap} {v : S_api_Msg} (o : Ok_S_api_Msg h v) : ∃ (m : Msg) (vs : List S_api_Entry), MsgV h v m ∧ LsAt S_api_Entry.cs 2 h v.f_Entries vs ∧ vs.length ≤ 9223372036854775807 ∧ (vs.length ≤ 100 → (∀ y ∈ vs, y.f_Cmd.len ≤ 300) → v.f_Snap.len ≤ 1000 → WFm m) := by
  obtain ⟨_, r1, r2, r3, r4, _, ⟨c1, c2, vs, L, ov⟩, ⟨_, _, snap, sl, ss, sb⟩⟩ := o
  obtain ⟨es, E, er⟩ := choose_each ov
  have ll := L.l
  simp only [maxLen] at c2
  refine ⟨⟨v.f_Kind, v.f_Term, v.f_Index, v.f_LogTerm, v.f_Commit, v.f_Yes, es, snap⟩, vs, ⟨⟨rfl, rfl, rfl, rfl, rfl, rfl⟩, ⟨by rw [ll, E.1], c1, vs, LsAt.slc (w := 2) (fun x => rfl) L (by decide), E⟩, ss, sl⟩, L, by omega, fun h1 h2 h3 => ?_⟩
  refine ⟨wf_u64 r1, wf_u64 r2, wf_u64 r3, wf_u64 r4, fun e he => ?_, by show es.length ≤ 1000; have := E.1; omega, wf_isB sb, by show snap.length ≤ _; omega⟩
  obtain ⟨i, hi⟩ := List.getElem?_of_mem he
  have hi2 : i < vs.length := by rw [E.1]; exact (List.getElem?_eq_some_iff.1 hi).1
  have h4 := E.2 i vs[i] e (by simp) hi
  have h5 := h2 _ (List.getElem_mem hi2)
  have h6 := h4.l
  exact ⟨(er e he).1, (er e he).2, by omega⟩
/-- what came out is looked at -/
theorem takes_l7_ok {O : BSet} {me n t c : Int} {i : Nat} {p4 p5 s : Slc} {ys : List S_api_Msg} {y : S_api_Msg} {L : RLy} {r : RS} {out : List Mail} {k : Bool → Heap → Prop} {nx5 : Int → Heap → Prop} {h : Heap} (R : RaftAt O h L r) (M : MailsI O h s out) (lt : RS.Lt n me r.term out)
    (A : LsAt S_api_Msg.cs 8 h p5 ys) (hy : ys[i]? = some y) (hz : out.length ≤ 1000000) (ht : t ≤ r.term) (hc : c ≤ r.commit) (H : ∀ nx7 : Int → Heap → Prop, law26_RaftTakes_g9 me n p4 p5 (some ⟨L.b, 0, none⟩) i false k nx5 nx7 h) :
    law26_RaftTakes_l7 me n p4 p5 (some ⟨L.b, 0, none⟩) i t c s 0 k nx5 h := by
  have sl := M.len
  have pl := A.l
  have hi := (List.getElem?_eq_some_iff.1 hy).1
  obtain ⟨ms, Rw, el, I⟩ := M.m
  obtain ⟨a5, ha5, C5⟩ := A.at' i y hy
  have cy : cellH h ((a5.add (i * 8)).add 1) = some (.int .u64 y.f_Term) := C5 1 _ rfl
  unfold law26_RaftTakes_l7
  refine ⟨fun q h' => h' = h ∧ ∃ m : Nat, q = m ∧ m ≤ out.length, fun q _ => (out.length - q).toNat, ⟨rfl, 0, rfl, by omega⟩, ?_⟩
  rintro q h' ⟨rfl, m, rfl, hm⟩
  unfold law26_RaftTakes_l7b
  by_cases hm2 : m < out.length
  · rw [if_pos (by simp; omega)]
    obtain ⟨x, hx⟩ : ∃ x, out[m]? = some x := ⟨_, List.getElem?_eq_getElem hm2⟩
    obtain ⟨v, hv⟩ : ∃ v, ms[m]? = some v := ⟨_, List.getElem?_eq_getElem (by omega)⟩
    obtain ⟨e1, I1⟩ := I m v x hv hx
    obtain ⟨⟨n0, n1, n2⟩, e3⟩ := lt x (List.mem_of_getElem? hx)
    have hL := LsAt.of_slc (w := 9) (fun x => rfl) Rw.slc (by omega) (by decide)
    obtain ⟨a, ha, C⟩ := hL.at' m v hv
    have c0 : cellH h' (a.add (m * 9)) = some (.int .i64 x.1) := by rw [← e1]; exact C 0 _ rfl
    have et : v.f_M.f_Term = r.term := by rw [← e3]; exact I1.now.k.2.1
    have c2 : cellH h' (((a.add (m * 9)).add 1).add 1) = some (.int .u64 r.term) := by rw [add_add2, ← et]; exact C 2 _ rfl
    have im : (m : Int).toNat = m := Int.toNat_natCast m
    have ii : (i : Int).toNat = i := Int.toNat_natCast i
    have fin : law26_RaftTakes_j8 me n p4 p5 (some ⟨L.b, 0, none⟩) i t c s m false k nx5 (fun q h'' => (h'' = h' ∧ ∃ m : Nat, q = m ∧ m ≤ out.length) ∧ (out.length - q).toNat < ((out.length : Int) - m).toNat) h' := by
      unfold law26_RaftTakes_j8
      rw [if_neg (by simp), wrapI64 (by omega) (by omega)]
      exact ⟨_, rfl, ⟨rfl, m + 1, by omega, by omega⟩, by omega⟩
    refine ⟨a, ha, by omega, by omega, x.1, by rw [im]; exact c0, ?_⟩
    rw [if_neg (by simp; omega)]
    refine ⟨a, ha, by omega, by omega, x.1, by rw [im]; exact c0, ?_⟩
    rw [if_neg (by simp; omega)]
    refine ⟨a, ha, by omega, by omega, x.1, by rw [im]; exact c0, ?_⟩
    rw [if_neg (by simpa using n2)]
    refine ⟨a, ha, by omega, by omega, r.term, by rw [im]; exact c2, a5, ha5, by omega, by omega, y.f_Term, by rw [ii]; exact cy, ?_⟩
    by_cases hlt : r.term < y.f_Term
    · rw [if_pos (by simpa using hlt)]
      refine ⟨a, ha, by omega, by omega, r.term, by rw [im]; exact c2, Term_get R ⟨by rw [im]; exact c2, ?_⟩⟩
      rw [show decide (r.term < r.term) = false from by simp]
      exact fin
    · rw [if_neg (by simpa using hlt)]
      exact fin
  · rw [if_neg (by simp; omega)]
    refine Term_get R ?_
    rw [if_neg (by simp; omega)]
    refine Committed_ok R ?_
    rw [show decide (r.commit < c) = false from by simp; omega]
    exact H _
/-- between two turns -/
def TkI (n me : Int) (b : Nat) (h : Heap) (q : Int) (h' : Heap) : Prop :=
  ∃ (i : Nat) (O : BSet) (L : RLy) (r : RS), q = i ∧ i ≤ 40 ∧ L.b = b ∧ RaftAt O h' L r ∧ (∀ g, O g → h.size ≤ g) ∧ Ext h.size h h' ∧ r.n = n ∧ r.me = me ∧ r.keeps.length ≤ 10 * i ∧ r.ticks ≤ i ∧ (r.role = 1 → ∃ l, r.ballot = some l)
theorem RaftTakes_ok {me n term vote : Int} {p4 p5 : Slc} {fs : List Int} {ys : List S_api_Msg} {k : Bool → Heap → Prop} {h : Heap} (t0 : 0 ≤ term ∧ term < 18446744073709551616) (v0 : -9223372036854775808 ≤ vote ∧ vote < 9223372036854775808)
    (F : SlcAt h p4 (fs.map (Value.int .i64))) (fl : p4.len = fs.length) (A : LsAt S_api_Msg.cs 8 h p5 ys) (o : ∀ y ∈ ys, Ok_S_api_Msg h y) (H : ∀ h', Ext h.size h h' → k true h') : law26_RaftTakes me n term vote p4 p5 k h := by
  have pl := A.l
  unfold law26_RaftTakes
  by_cases hb : n < 1 ∨ n > 32 ∨ me < 0 ∨ me ≥ n
  · refine RaftNew_bad hb ?_
    rw [if_pos (by simp; omega), if_pos (by simp)]
    unfold raft_Raft_Tick
    rw [if_pos (by simp)]
    show law26_RaftTakes_g1 none (((0 : Nat) : Int) == 0) k h
    unfold law26_RaftTakes_g1
    rw [if_pos (by simp)]
    unfold raft_Raft_Take
    refine ⟨_, _, rfl, rfl, ?_⟩
    rw [if_pos (by simp)]
    have X := Ext.push h (.cells (S_api_Msg.cs ⟨1, 0, 0, 0, 0, false, ⟨none, 0, 0⟩, ⟨none, 0, 0⟩⟩).toArray 26) (Nat.le_refl _)
    generalize h.push (.cells (S_api_Msg.cs ⟨1, 0, 0, 0, 0, false, ⟨none, 0, 0⟩, ⟨none, 0, 0⟩⟩).toArray 26) = h2 at *
    unfold raft_Raft_Take_g4 raft_Raft_Take_g5 raft_Raft_Take_g6 raft_Raft_Take_g7
    rw [if_pos rfl, if_pos rfl, if_pos rfl, if_pos rfl]
    show law26_RaftTakes_g2 none (((0 : Nat) : Int) == 0) k h2
    unfold law26_RaftTakes_g2
    rw [if_pos (by simp)]
    unfold raft_Raft_Leader
    rw [if_pos (by simp)]
    refine ⟨_, rfl, ?_⟩
    show law26_RaftTakes_g3 ((-1 : Int) == -1) k h2
    unfold law26_RaftTakes_g3
    rw [if_pos (by decide)]
    refine awake26_ok fun h' X' => ?_
    unfold law26_RaftTakes_g4
    exact H h' (X.trans (X'.mono X.size))
  refine RaftNew_ok (l := ⟨0, 0, []⟩) (snap := []) (by omega) (by omega) t0 v0 (.inl ⟨rfl, rfl⟩) (slc_nil h) rfl isB_nil (by simp) fun L0 h1 M1 o1 X1 => ?_
  have M1 := M1 (fun _ => False) fun _ h => h.elim
  have z1 := X1.size
  rw [if_neg (by simp; omega)]
  unfold law26_RaftTakes_l5
  refine ⟨TkI n me L0.b h, fun q _ => (40 - q).toNat,
    ⟨0, _, L0, _, rfl, by omega, rfl, M1, fun g hg => hg.elim (fun h => h.elim) (o1 g), X1, rfl, rfl, by simp [RS.start], by simp [RS.start], fun e => by cases e⟩, ?_⟩
  rintro q h2 ⟨i, O, L, r, rfl, hi, eb, R, oO, X, en, em, ek, et, ea⟩
  have z2 := X.size
  unfold law26_RaftTakes_l5b
  by_cases hc : i < ys.length ∧ i < fs.length ∧ i < 40
  · rw [if_pos (by simp; omega)]
    have ii : (i : Int).toNat = i := Int.toNat_natCast i
    obtain ⟨y, hy⟩ : ∃ y, ys[i]? = some y := ⟨_, List.getElem?_eq_getElem hc.1⟩
    obtain ⟨f, hf⟩ : ∃ f, fs[i]? = some f := ⟨_, List.getElem?_eq_getElem hc.2.1⟩
    have fa : ∃ a : Addr, p4.a = some a ∧ ∀ h', Ext h.size h h' → cellH h' (a.add (i * 1)) = some (.int .i64 f) := by
      obtain ⟨a, ha, hcell⟩ := SlcAt.get F (i := i) (v := .int .i64 f) (by rw [List.getElem?_map, hf]; rfl)
      exact ⟨a, ha, fun h' X => by rw [Nat.mul_one]; exact X.cellAt hcell⟩
    obtain ⟨a4, ha4, c4⟩ := fa
    obtain ⟨m, vs, V, Lv, vz, wm⟩ := msg_of (o y (List.mem_of_getElem? hy))
    obtain ⟨a5, ha5, C5⟩ := A.at' i y hy
    have cy : ∀ {h'}, Ext h.size h h' → CellsAt h' (a5.add ((i : Int).toNat * 8)) (S_api_Msg.cs y) := fun X => by rw [ii]; exact C5.ext X
    have cf : ∀ {h'}, Ext h.size h h' → cellH h' (a4.add ((i : Int).toNat * 1)) = some (.int .i64 f) := fun X => by rw [ii]; exact c4 _ X
    rw [← eb]
    refine ⟨a5, ha5, by omega, by omega, y, cy X, GreatT_ok (Lv.ext X) vz fun g h3 hg X3 => ?_⟩
    have X03 : Ext h.size h h3 := X.trans (X3.mono z2)
    have z3 := X3.size
    cases g with
    | true =>
      rw [if_pos rfl]
      exact awake26_ok fun h' X' => H h' (X03.trans (X'.mono (by omega)))
    | false =>
    rw [if_neg (by simp)]
    obtain ⟨g1, g2, g3⟩ := hg rfl
    have wm := wm g1 g2 g3
    have R3 := R.ext X3
    refine Term_get R3 (Committed_ok R3 ⟨a4, ha4, by omega, by omega, f, cf X03, a5, ha5, by omega, by omega, y, cy X03, ?_⟩)
    have MV : Imm O h3 fun h' => MsgV h' y m := Imm.of_old (h0 := h) (fun h' X => V.ext X) X03 oO
    refine Take_ok (from' := f) R3 ea (by omega) MV wm fun s h4 L4 q4 Ml sb => ?_
    obtain ⟨up, lt, bad⟩ := RS.take_ok (r := r) (f := f) (m := m)
    have oO4 := q4.ge R3 oO (by omega)
    have X4 := q4.X R3 oO (by omega)
    have X04 : Ext h.size h h4 := X03.trans X4
    have z4 := X4.size
    have R4 := q4.R
    have e4 : L4.b = L.b := q4.b
    rw [← e4]
    have A4 := A.ext X04
    -- the next turn
    have g9 : ∀ nx7 : Int → Heap → Prop, law26_RaftTakes_g9 me n p4 p5 (some ⟨L4.b, 0, none⟩) i false k (fun q h' => TkI n me L4.b h q h' ∧ (40 - q).toNat < ((40 : Int) - i).toNat) nx7 h4 := fun nx7 => by
      unfold law26_RaftTakes_g9
      rw [if_neg (by simp)]
      have k4 := up.k
      have t4 := up.tk
      refine Tick_ok R4 (by omega) (by omega) fun s5 h5 L5 q5 Ml5 sb5 => ?_
      have tu := RS.tick_up (r := (r.take f m).1)
      rw [wrapI64 (by omega) (by omega)]
      exact ⟨_, rfl, ⟨i + 1, _, L5, _, by omega, by omega, q5.b, q5.R, q5.ge R4 oO4 (by omega), X04.trans (q5.X R4 oO4 (by omega)), by rw [tu.1, up.n, en], by rw [tu.2.1, up.me, em], by have := tu.2.2.1; omega, by have := tu.2.2.2.1; omega, tu.2.2.2.2 (up.ak ea)⟩, by omega⟩
    have lt' : RS.Lt n me (r.take f m).1.term (r.take f m).2 := by rw [← en, ← em]; exact lt
    have ol : (r.take f m).2.length ≤ 1000000 := by
      have := RS.take_len (r := r) (f := f) (m := m)
      have := R3.wf.n
      omega
    have j6 : law26_RaftTakes_j6 me n p4 p5 (some ⟨L4.b, 0, none⟩) i r.term r.commit s k (fun q h' => TkI n me L4.b h q h' ∧ (40 - q).toNat < ((40 : Int) - i).toNat) h4 := by
      unfold law26_RaftTakes_j6
      exact takes_l7_ok R4 Ml lt' A4 hy ol up.t up.c g9
    have g13 : ∀ b : Bool, (b = true → r.take f m = (r, [])) → law26_RaftTakes_g13 me n p4 p5 (some ⟨L4.b, 0, none⟩) i r.term r.commit s b k (fun q h' => TkI n me L4.b h q h' ∧ (40 - q).toNat < ((40 : Int) - i).toNat) h4 := fun b hb => by
      unfold law26_RaftTakes_g13
      cases b with
      | false => rw [if_neg (by simp)]; exact j6
      | true =>
        have e := hb rfl
        have sl := Ml.len
        rw [e] at sl
        rw [if_pos rfl, if_neg (by simp at sl; simp; omega)]
        refine Term_get R4 ?_
        rw [e]
        unfold law26_RaftTakes_g14
        rw [show (r.term != r.term) = false from by simp, if_neg (by simp)]
        refine Committed_ok R4 ?_
        rw [e]
        unfold law26_RaftTakes_g15
        rw [show (r.commit != r.commit) = false from by simp, if_neg (by simp)]
        exact j6
    have ck : ∀ {h'}, Ext h.size h h' → cellH h' (a5.add ((i : Int).toNat * 8)) = some (.int .i64 m.kind) := fun X => by rw [← V.k.1]; exact cy X 0 _ rfl
    have g12 : ∀ b : Bool, (b = true ↔ (f < 0 ∨ f ≥ n ∨ f = me ∨ m.kind < 1)) → law26_RaftTakes_g12 me n p4 p5 (some ⟨L4.b, 0, none⟩) i r.term r.commit s b k (fun q h' => TkI n me L4.b h q h' ∧ (40 - q).toNat < ((40 : Int) - i).toNat) h4 := fun b hb => by
      unfold law26_RaftTakes_g12
      cases b with
      | true => rw [if_pos rfl]; exact g13 true fun _ => bad (by have := hb.1 rfl; omega)
      | false =>
        rw [if_neg (by simp)]
        exact ⟨a5, ha5, by omega, by omega, _, ck X04, g13 _ fun h => bad (by rw [decide_eq_true_eq] at h; omega)⟩
    have g11 : ∀ b : Bool, (b = true ↔ (f < 0 ∨ f ≥ n ∨ f = me)) → law26_RaftTakes_g11 me n p4 p5 (some ⟨L4.b, 0, none⟩) i r.term r.commit s b k (fun q h' => TkI n me L4.b h q h' ∧ (40 - q).toNat < ((40 : Int) - i).toNat) h4 := fun b hb => by
      unfold law26_RaftTakes_g11
      cases b with
      | true => rw [if_pos rfl]; exact g12 true ⟨fun _ => by have := hb.1 rfl; omega, fun _ => rfl⟩
      | false =>
        rw [if_neg (by simp)]
        have hg : ¬ (f < 0 ∨ f ≥ n ∨ f = me) := fun h => by have := hb.2 h; cases this
        exact ⟨a5, ha5, by omega, by omega, _, ck X04, g12 _ (by rw [decide_eq_true_eq]; omega)⟩
    have g10 : ∀ b : Bool, (b = true ↔ (f < 0 ∨ f ≥ n)) → law26_RaftTakes_g10 me n p4 p5 (some ⟨L4.b, 0, none⟩) i r.term r.commit s b k (fun q h' => TkI n me L4.b h q h' ∧ (40 - q).toNat < ((40 : Int) - i).toNat) h4 := fun b hb => by
      unfold law26_RaftTakes_g10
      cases b with
      | true => rw [if_pos rfl]; exact g11 true ⟨fun _ => by have := hb.1 rfl; omega, fun _ => rfl⟩
      | false =>
        rw [if_neg (by simp)]
        have hg : ¬ (f < 0 ∨ f ≥ n) := fun h => by have := hb.2 h; cases this
        exact ⟨a4, ha4, by omega, by omega, f, cf X04, g11 _ (by rw [beq_iff_eq]; omega)⟩
    refine ⟨a4, ha4, by omega, by omega, f, cf X04, ?_⟩
    by_cases h0 : f < 0
    · rw [if_pos (by simpa using h0)]
      exact g10 true ⟨fun _ => .inl h0, fun _ => rfl⟩
    · rw [if_neg (by simpa using h0)]
      exact ⟨a4, ha4, by omega, by omega, f, cf X04, g10 _ (by rw [decide_eq_true_eq]; omega)⟩
  · rw [if_neg (by simp; omega)]
    exact awake26_ok fun h' X' => H h' (X.trans (X'.mono (by omega)))
end Go.Q.Yh
