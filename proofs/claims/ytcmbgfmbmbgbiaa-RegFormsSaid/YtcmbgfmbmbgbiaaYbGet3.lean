/- A part of the proof of statements of this seat: lemmas, no statement of their own. -/
import Derived.Test.YtcmbgfmbmbgbiaaYbGet2
set_option linter.unusedVariables false
set_option linter.unusedSimpArgs false
namespace Go.Q.Yb
theorem mGet_l3_ok {h0 h : Heap} {r q : Nat} {l : List Int} {b : Bool} {m : S_api_Msg} {n : Int} {k : S_api_Msg × Int → Heap → Prop} (M : MS h0 h r q l b m [] []) (n0 : 0 ≤ n) (n1 : n < 18446744073709551616)
    (r1 : 0 ≤ m.f_Term ∧ m.f_Term < 18446744073709551616) (r2 : 0 ≤ m.f_Index ∧ m.f_Index < 18446744073709551616) (r3 : 0 ≤ m.f_LogTerm ∧ m.f_LogTerm < 18446744073709551616) (r4 : 0 ≤ m.f_Commit ∧ m.f_Commit < 18446744073709551616)
    (H1 : ∀ vs es snap s1 s2 h', b = false → l = es.flatMap entL ++ tx snap → n = (es.length : Int) → Held h0.size h' (fun h' => MsgAt h' { m with f_Entries := s1, f_Snap := s2 } vs es snap) → Ext h0.size h0 h' → k ({ m with f_Entries := s1, f_Snap := s2 }, 0) h') (H2 : ∀ h', Ext h0.size h0 h' → k (zMsg, 4) h') :
    raft_Get_l3 ⟨h0.size, 0, none⟩ ⟨r, 0, none⟩ ⟨q, 0, none⟩ n k h := by
  have o1 := M.o1
  have o2 := M.o2
  refine ⟨fun i h' => ∃ (vs : List S_api_Entry) (es : List Ent) (l' : List Int) (b' : Bool) (s : Slc), MS h0 h' r q l' b' { m with f_Entries := s } vs es ∧ 0 ≤ i ∧ i + es.length = n ∧ (b' = false → b = false ∧ l = es.flatMap entL ++ l'), fun i _ => i.toNat, ⟨[], [], l, b, m.f_Entries, M, n0, by simp, fun hb => ⟨hb, rfl⟩⟩, ?_⟩
  rintro i h1 ⟨vs, es, l0, b0, s, M0, i0, ix, ex⟩
  have j1 : ∀ {h5 : Heap} {l5 : List Int} {b5 : Bool}, MS h0 h5 r q l5 b5 { m with f_Entries := s } vs es → (b5 = false → i = 0 ∧ b = false ∧ l = es.flatMap entL ++ l5) → raft_Get_j1 ⟨h0.size, 0, none⟩ ⟨r, 0, none⟩ ⟨q, 0, none⟩ k h5 := fun {h5 l5 b5} M5 h5' => by
    refine mGet_j1_ok M5 r1 r2 r3 r4 (fun snap s2 h' hb hl A X => ?_) H2
    obtain ⟨a1, a2, a3⟩ := h5' hb
    exact H1 vs es snap s s2 h' a2 (by rw [a3, hl]) (by omega) A X
  unfold raft_Get_l3b
  by_cases hi : i > 0
  · rw [if_pos (by simpa using hi)]
    refine raftr_short2 M0.R fun v1 l1 b1 h2 R2 U2 v10 v11 e1 => ?_
    have M2 := M0.upd U2 R2
    have q2 := M2.Q.lt
    have r2' := M2.R.lt
    refine ⟨_, _, rfl, rfl, ?_⟩
    have K := Blk.push h2 (S_api_Entry.cs ⟨0, ⟨none, 0, 0⟩⟩) 254
    have K3 := K.sets_all (vs := S_api_Entry.cs ⟨v1, ⟨none, 0, 0⟩⟩) rfl
    have W3 := (Ext.push h2 (.cells (S_api_Entry.cs ⟨0, ⟨none, 0, 0⟩⟩).toArray 254) (Nat.le_refl _)).trans (Ext.sets _ (a := ⟨h2.size, 0, none⟩) 0 (S_api_Entry.cs ⟨v1, ⟨none, 0, 0⟩⟩) (Nat.le_refl _))
    refine ⟨_, WrsAt.of_blk K (by decide), rfl, ?_⟩
    generalize setsH (h2.push (.cells (S_api_Entry.cs ⟨0, ⟨none, 0, 0⟩⟩).toArray 254)) ⟨h2.size, 0, none⟩ 0 (S_api_Entry.cs ⟨v1, ⟨none, 0, 0⟩⟩) = h3 at *
    have z3 := W3.size
    have kl := K3.lt
    refine raftr_short2 (M2.ext W3).R fun v2 l2 b2 h4 R4 U4 v20 v21 e2 => ?_
    have z4 := U4.size
    have K4 := U4.blk K3 (by omega)
    refine raftr_bytes2 R4 v20 fun s5 x l5 b5 h5 R5 U5 Rw xB e5 => ?_
    have z5 := U5.size
    have K5 := U5.blk K4 (by omega)
    refine ⟨_, by rw [add_mk]; exact K5.wr (by show 0 + 1 < 2; omega), rfl, ?_⟩
    rw [show (⟨h2.size, 0, none⟩ : Addr).add 1 = ⟨h2.size, 1, none⟩ from by simp]
    have K6 := K5.set (i := 1) (v := Slc.v s5)
    rw [show (S_api_Entry.cs ⟨v1, ⟨none, 0, 0⟩⟩).set 1 (Slc.v s5) = S_api_Entry.cs ⟨v1, s5⟩ from rfl] at K6
    have X6 : Ext h2.size h5 (setH h5 ⟨h2.size, 1, none⟩ (Slc.v s5)) := Ext.set _ _ (Nat.le_refl _)
    have Rw6 : Row h4.size (setH h5 ⟨h2.size, 1, none⟩ (Slc.v s5)) 5 1 s5 (b8 x) := Rw.keep fun g hg => setH_other (by have := (Rw.bd hg).1; dsimp only; omega)
    generalize setH h5 ⟨h2.size, 1, none⟩ (Slc.v s5) = h6 at *
    have z6 := X6.size
    have R6 := R5.ext (X6.mono (show r + 1 ≤ h2.size by omega))
    have U26 : Upd r h2 h6 := ((Upd.of_ext W3).trans (U4.trans U5)).fresh X6
    have M6 : MS h0 h6 r q l5 b5 { m with f_Entries := s } vs es := M2.upd U26 R6
    obtain ⟨sd, Kd, _⟩ := R6
    refine ⟨b5, by rw [add_mk, Kd.cell]; rfl, ?_⟩
    cases hb : b5 with
    | true => rw [if_pos rfl]; rw [hb] at M6; exact j1 M6 fun h => by cases h
    | false =>
      rw [if_neg (by simp)]
      obtain ⟨c2, p3, p4⟩ := e5 hb
      obtain ⟨c1, p2⟩ := e2 c2
      obtain ⟨c0, p1⟩ := e1 c1
      obtain ⟨cb, pe⟩ := ex c0
      refine ⟨s, by rw [add_mk, M6.Q.cell]; rfl, ⟨v1, s5⟩, CellsAt.of_blk K6, _, _, rfl, rfl, ?_⟩
      have lens := M6.ents
      have llen := M6.R.len
      have elen : es.length ≤ 1000000 := by
        have hl0 : l.length ≤ 1000000 := M.R.len
        have : ∀ xs : List Ent, xs.length ≤ (xs.flatMap entL).length := fun xs => by
          induction xs with
          | nil => simp
          | cons e xs ih =>
            simp only [List.flatMap_cons, List.length_append, List.length_cons]
            have : 1 ≤ (entL e).length := by
              have : 1 ≤ (shortL e.1).length := by unfold shortL shortF; split <;> simp
              unfold entL; rw [List.length_append]; omega
            omega
        have h1 := this es
        have h2 := congrArg List.length pe
        rw [List.length_append] at h2
        omega
      have ls : s.len = es.length := lens
      refine App.row (M6.E.pushed _) (by simp; omega) rfl rfl (oneC (by kernel_rfl)) (by show (s.len + 1) * 32 ≤ _; omega) (by show s.len + 1 ≤ maxLen; simp only [maxLen]; omega) fun s' h7 R7 l7 z7 F7 _ => ?_
      simp at z7
      have old : ∀ g, g < h6.size → s.blk ≠ some g → h7[g]? = h6[g]? := fun g hg hn => by rw [F7 g (by simp; omega) hn, Array.getElem?_push, if_neg (by omega)]
      have sq : ∀ g, s.blk = some g → q + 1 ≤ g := fun g hg => (M6.E.bd hg).1
      have P7 := M6.P.old (old _ M6.P.lt fun e => by have := sq _ e; omega)
      have Q7 := M6.Q.old (old _ M6.Q.lt fun e => by have := sq _ e; omega)
      have X67 : Ext (q + 1) h6 h7 := ⟨by omega, fun g hg => old g (by have := M6.Q.lt; omega) fun e => by have := sq _ e; omega⟩
      have R7' := M6.R.ext (X67.mono (show r + 1 ≤ q + 1 by omega))
      have c7 : ∀ {t : Slc} {xs : List Value} {C : Nat}, Row C h6 5 1 t xs → Row C h7 5 1 t xs := fun Rt => Rt.keep fun g hg => old g (Rt.bd hg).2 fun e => Rt.ne_row M6.E (by decide) hg e
      refine ⟨_, by rw [add_mk]; exact Q7.wr (by show 0 + 6 < 8; omega), rfl, ?_⟩
      rw [show (⟨q, 0, none⟩ : Addr).add 6 = ⟨q, 6, none⟩ from by simp]
      have Q8 := Q7.set (i := 6) (v := Slc.v s')
      rw [show (S_api_Msg.cs { m with f_Entries := s }).set 6 (Slc.v s') = S_api_Msg.cs { m with f_Entries := s' } from rfl] at Q8
      have old8 : ∀ g, g ≠ q → (setH h7 ⟨q, 6, none⟩ (Slc.v s'))[g]? = h7[g]? := fun g hg => setH_other hg
      have X78 : Ext q h7 (setH h7 ⟨q, 6, none⟩ (Slc.v s')) := Ext.set _ _ (Nat.le_refl _)
      rw [wrapU64 (x := i - 1) (by omega) (by omega)]
      refine ⟨_, rfl, ⟨vs ++ [⟨v1, s5⟩], es ++ [(v1, x)], l5, false, s', ⟨P7.old (old8 _ (by omega)), by rw [← hb]; exact R7'.ext (X78.mono (by omega)), Q8, ?_, by simp [M6.el], fun j v e hv he => ?_, fun e he => ?_, ?_, o1, o2⟩, by omega, by simp; omega, fun _ => ⟨cb, ?_⟩⟩, by show (i - 1).toNat < i.toNat; omega⟩
      · have : Row (q + 1) h7 254 2 s' ((vs ++ [(⟨v1, s5⟩ : S_api_Entry)]).flatMap S_api_Entry.cs) := by simpa using R7
        exact this.keep fun g hg => old8 g (by have := (this.bd hg).1; omega)
      · have fin : ∀ {t : Slc} {xs : List Value}, Row (q + 1) h6 5 1 t xs → Row (q + 1) (setH h7 ⟨q, 6, none⟩ (Slc.v s')) 5 1 t xs := fun Rt => (c7 Rt).keep fun g hg => old8 g (by have := ((c7 Rt).bd hg).1; omega)
        rcases Nat.lt_or_ge j vs.length with hj | hj
        · rw [List.getElem?_append_left hj] at hv
          rw [List.getElem?_append_left (by rw [← M6.el]; exact hj)] at he
          obtain ⟨a1, a2⟩ := M6.en j v e hv he
          exact ⟨a1, fin a2⟩
        · rw [List.getElem?_append_right hj] at hv
          rw [List.getElem?_append_right (by rw [← M6.el]; exact hj), ← M6.el] at he
          have hj2 : j - vs.length = 0 := by
            have := (List.getElem?_eq_some_iff.1 hv).1
            simp at this; omega
          rw [hj2] at hv he
          simp at hv he
          subst hv; subst he
          exact ⟨rfl, fin (Rw6.mono (by omega))⟩
      · rcases List.mem_append.1 he with he | he
        · exact M6.er e he
        · simp at he; subst he; exact ⟨⟨v10, v11⟩, xB⟩
      · exact M6.X.trans ((X67.mono (show h0.size ≤ q + 1 by omega)).trans (X78.mono (by omega)))
      · rw [pe, p1, p2, p3, List.flatMap_append]
        simp only [List.flatMap_cons, List.flatMap_nil, List.append_nil, entL, tx, p4, List.append_assoc]
  · rw [if_neg (by simpa using hi)]
    exact j1 M0 fun hb => ⟨by omega, ex hb⟩
/-- a message is read -/
theorem mGet_ok {p0 : Slc} {l : List Int} {k : S_api_Msg × Int → Heap → Prop} {h : Heap} (hs : SlcAt h p0 (b8 l)) (hl : p0.len = l.length) (hc : p0.len ≤ p0.cap) (hB : isB l) (hz : l.length ≤ 10000)
    (H1 : ∀ m vs es snap h', Held h.size h' (fun h' => MsgAt h' m vs es snap) → MsgSm es snap → 0 ≤ m.f_Kind ∧ m.f_Kind < 256 → l = msgL m es snap → Ext h.size h h' → k (m, 0) h')
    (H2 : ∀ h', Ext h.size h h' → k (zMsg, 4) h') : raft_Get p0 k h := by
  unfold raft_Get
  refine ⟨_, _, rfl, rfl, ?_⟩
  have P := Blk.push h (S_api_Msg.cs zMsg) 40
  have W := Ext.push h (.cells (S_api_Msg.cs zMsg).toArray 40) (Nat.le_refl _)
  obtain ⟨h2, e2⟩ : ∃ y, y = h.push (.cells (S_api_Msg.cs zMsg).toArray 40) := ⟨_, rfl⟩
  rw [← e2] at P W ⊢
  have z2 := W.size
  have pl := P.lt
  refine ⟨_, _, rfl, rfl, ?_⟩
  have K := Blk.push h2 (S_raft_reader.cs ⟨p0, false⟩) 251
  have W3 := Ext.push h2 (.cells (S_raft_reader.cs ⟨p0, false⟩).toArray 251) (Nat.le_refl _)
  obtain ⟨h3, e3⟩ : ∃ y, y = h2.push (.cells (S_raft_reader.cs ⟨p0, false⟩).toArray 251) := ⟨_, rfl⟩
  rw [← e3] at K W3 ⊢
  have z3 := W3.size
  have kl := K.lt
  have P3 := P.ext W3 pl
  have R3 : Rd 251 h3 h2.size l false := ⟨p0, K, fun h' X => ⟨hs.1, fun b hb j w hj => by rw [X.cell (Nat.lt_of_lt_of_le (cellH_lt (hs.2 b hb j w hj)) z2), ← hs.2 b hb j w hj]; exact ((W.trans (W3.mono z2)).cell (cellH_lt (hs.2 b hb j w hj)))⟩, hl, hc, hB, by omega⟩
  refine raftr_byte2 R3 fun v1 l1 b1 h4 R4 U4 v10 v11 e4 => ?_
  have z4 := U4.size
  refine raftr_short2 R4 fun n1 l2 b2 h5 R5 U5 n10 n11 e5 => ?_
  have z5 := U5.size
  refine raftr_short2 R5 fun n2 l3 b3 h6 R6 U6 n20 n21 e6 => ?_
  have z6 := U6.size
  refine raftr_short2 R6 fun n3 l4 b4 h7 R7 U7 n30 n31 e7 => ?_
  have z7 := U7.size
  refine raftr_short2 R7 fun n4 l5 b5 h8 R8 U8 n40 n41 e8 => ?_
  have z8 := U8.size
  rw [wrapI64 (x := v1) (by omega) (by omega)]
  refine ⟨_, _, rfl, rfl, ?_⟩
  have Q := Blk.push h8 (S_api_Msg.cs zMsg) 40
  have Q2 := Q.sets_all (vs := S_api_Msg.cs ⟨v1, n1, n2, n3, n4, false, ⟨none, 0, 0⟩, ⟨none, 0, 0⟩⟩) rfl
  have W9 := (Ext.push h8 (.cells (S_api_Msg.cs zMsg).toArray 40) (Nat.le_refl _)).trans (Ext.sets _ (a := ⟨h8.size, 0, none⟩) 0 (S_api_Msg.cs ⟨v1, n1, n2, n3, n4, false, ⟨none, 0, 0⟩, ⟨none, 0, 0⟩⟩) (Nat.le_refl _))
  refine ⟨_, WrsAt.of_blk Q (by decide), rfl, ?_⟩
  generalize setsH (h8.push (.cells (S_api_Msg.cs zMsg).toArray 40)) ⟨h8.size, 0, none⟩ 0 (S_api_Msg.cs ⟨v1, n1, n2, n3, n4, false, ⟨none, 0, 0⟩, ⟨none, 0, 0⟩⟩) = h9 at *
  have z9 := W9.size
  have ql := Q2.lt
  refine raftr_byte2 (R8.ext (W9.mono (by omega))) fun y l6 b6 h10 R10 U10 y0 y1 e10 => ?_
  have z10 := U10.size
  have Q10 := U10.blk Q2 (by omega)
  refine ⟨_, by rw [add_mk]; exact Q10.wr (by show 0 + 5 < 8; omega), rfl, ?_⟩
  rw [show (⟨h8.size, 0, none⟩ : Addr).add 5 = ⟨h8.size, 5, none⟩ from by simp]
  have Q11 := Q10.set (i := 5) (v := .bool (y == 1))
  rw [show (S_api_Msg.cs ⟨v1, n1, n2, n3, n4, false, ⟨none, 0, 0⟩, ⟨none, 0, 0⟩⟩).set 5 (.bool (y == 1)) = S_api_Msg.cs ⟨v1, n1, n2, n3, n4, y == 1, ⟨none, 0, 0⟩, ⟨none, 0, 0⟩⟩ from rfl] at Q11
  have X11 : Ext h8.size h10 (setH h10 ⟨h8.size, 5, none⟩ (.bool (y == 1))) := Ext.set _ _ (Nat.le_refl _)
  generalize setH h10 ⟨h8.size, 5, none⟩ (.bool (y == 1)) = h11 at *
  have z11 := X11.size
  have R11 := R10.ext (X11.mono (show h2.size + 1 ≤ h8.size by omega))
  obtain ⟨sd, Kd, Sd, sdl, sdc, sdB, sdz⟩ := R11
  refine ⟨b6, by rw [add_mk, Kd.cell]; rfl, _, by rw [add_mk]; exact Kd.wr (by simp), rfl, ?_⟩
  rw [show (⟨h2.size, 0, none⟩ : Addr).add 1 = ⟨h2.size, 1, none⟩ from by simp]
  have Kd2 := Kd.set (i := 1) (v := .bool (b6 || decide (y > 1)))
  have U12 : Upd h2.size h11 (setH h11 ⟨h2.size, 1, none⟩ (.bool (b6 || decide (y > 1)))) := ⟨by rw [setH_size]; exact Nat.le_refl _, fun j hj hne => setH_other (by simpa using hne)⟩
  generalize setH h11 ⟨h2.size, 1, none⟩ (.bool (b6 || decide (y > 1))) = h12 at *
  have z12 := U12.size
  have R12 : Rd 251 h12 h2.size l6 (b6 || decide (y > 1)) := ⟨sd, Kd2, fun h' X => Sd h' ((U12.ext (Nat.le_refl _) (by omega)).trans X), sdl, sdc, sdB, sdz⟩
  refine raftr_short2 R12 fun n5 l7 b7 h13 R13 U13 n50 n51 e13 => ?_
  have z13 := U13.size
  have U39 : Upd h2.size h3 h9 := (U4.trans (U5.trans (U6.trans (U7.trans U8)))).fresh (W9.mono (by omega))
  have U313 : Upd h2.size h3 h13 := (((U39.trans U10).fresh (X11.mono (by omega))).trans U12).trans U13
  have Q13 := U13.blk (U12.blk Q11 (by omega)) (by omega)
  have P13 := U313.blk P3 (by omega)
  have M : MS h h13 h2.size h8.size l7 b7 ⟨v1, n1, n2, n3, n4, y == 1, ⟨none, 0, 0⟩, ⟨none, 0, 0⟩⟩ [] [] :=
    ⟨P13, R13, Q13, Row.nil _ _ _ _, rfl, by simp, by simp, (W.trans (W3.mono z2)).trans (U313.ext (by omega) (by omega)), by omega, by omega⟩
  refine mGet_l3_ok M n50 n51 ⟨n10, n11⟩ ⟨n20, n21⟩ ⟨n30, n31⟩ ⟨n40, n41⟩ (fun vs es snap s1 s2 h' hb el hn A X => ?_) H2
  obtain ⟨c12, q13⟩ := e13 hb
  have c6 : b6 = false ∧ ¬ (y > 1) := by
    rw [Bool.or_eq_false_iff, decide_eq_false_iff_not] at c12
    exact c12
  obtain ⟨c5, q10⟩ := e10 c6.1
  obtain ⟨c4, q8⟩ := e8 c5
  obtain ⟨c3, q7⟩ := e7 c4
  obtain ⟨c2, q6⟩ := e6 c3
  obtain ⟨c1, q5⟩ := e5 c2
  obtain ⟨_, q4⟩ := e4 c1
  have hy : (if (y == 1) = true then (1 : Int) else 0) = y := by
    by_cases h1 : y = 1
    · rw [if_pos (by simpa using h1)]; omega
    · rw [if_neg (by simpa using h1)]; omega
  have fl : l = msgL ⟨v1, n1, n2, n3, n4, y == 1, s1, s2⟩ es snap := by
    rw [q4, q5, q6, q7, q8, q10, q13, el, hn, msgL]
    dsimp only
    rw [hy, show v1 % 256 = v1 from by omega]
    simp only [List.append_assoc]
  have sm : MsgSm es snap := by
    have hlen := congrArg List.length fl
    unfold msgL at hlen
    simp only [List.length_append, List.length_cons, List.length_nil] at hlen
    have hx : (tx snap).length ≥ snap.length := by rw [tx, List.length_append]; omega
    have he : ∀ xs : List Ent, xs.length ≤ (xs.flatMap entL).length ∧ ∀ e ∈ xs, e.2.length ≤ (xs.flatMap entL).length := fun xs => by
      induction xs with
      | nil => simp
      | cons e xs ih =>
        have h1 : 1 ≤ (shortL e.1).length := by unfold shortL shortF; split <;> simp
        have h2 : (entL e).length = (shortL e.1).length + (tx e.2).length := by rw [entL, List.length_append]
        have h3 : (tx e.2).length ≥ e.2.length := by rw [tx, List.length_append]; omega
        simp only [List.flatMap_cons, List.length_append, List.length_cons]
        refine ⟨by omega, fun f hf => ?_⟩
        rcases List.mem_cons.1 hf with rfl | hf
        · omega
        · have := ih.2 f hf; omega
    have := he es
    exact ⟨by omega, fun e h => by have := this.2 e h; omega, by omega⟩
  exact H1 _ vs es snap h' A sm ⟨v10, v11⟩ fl X
end Go.Q.Yb
