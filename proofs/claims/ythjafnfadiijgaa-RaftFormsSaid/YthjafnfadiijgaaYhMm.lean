/- A part of the proof of statements of this seat: lemmas, no statement of their own. -/
import Derived.Test.YthjafnfadiijgaaYhZm
import Derived.Test.YthjafnfadiijgaaYhZr
import Derived.Test.YthjafnfadiijgaaYhLf
set_option linter.unusedVariables false
set_option linter.unusedSimpArgs false
set_option maxRecDepth 100000
/- Any message's form. -/
namespace Go.Q.Yh
theorem Same_ok {p0 p1 : Slc} {l m : List Int} {k : Bool → Heap → Prop} {h : Heap} (h0 : SlcAt h p0 (b8 l)) (l0 : p0.len = l.length) (h1 : SlcAt h p1 (b8 m)) (l1 : p1.len = m.length) (hb : l.length ≤ 4611686018427387904) (H : k (decide (l = m)) h) : ref01_Same p0 p1 k h := by
  unfold ref01_Same
  by_cases hlm : l.length = m.length
  · rw [if_neg (by simp [l0, l1, hlm])]
    refine ⟨fun i h' => 0 ≤ i ∧ i ≤ l.length ∧ l.take i.toNat = m.take i.toNat ∧ h' = h, fun i _ => (l.length - i).toNat, ⟨by omega, by omega, by simp, rfl⟩, ?_⟩
    rintro i h' ⟨i0, i1, he, rfl⟩
    unfold ref01_Same_l1b
    by_cases hi : i < l.length
    · rw [if_pos (by simp [l0]; omega)]
      have n0 : p0.a ≠ none := fun hn => by have := h0.1 hn; simp at this; simp [this] at hi; omega
      have n1 : p1.a ≠ none := fun hn => by have := h1.1 hn; simp at this; simp [this] at hlm; simp [hlm] at hi; omega
      obtain ⟨a, ha⟩ := Option.ne_none_iff_exists'.1 n0
      obtain ⟨b, hb'⟩ := Option.ne_none_iff_exists'.1 n1
      have hla : i.toNat < l.length := by omega
      have hma : i.toNat < m.length := by omega
      refine ⟨a, ha, i0, by omega, l[i.toNat], ?_, b, hb', i0, by omega, m[i.toNat], ?_, ?_⟩
      · rw [Nat.mul_one]; exact h0.2 a ha i.toNat _ (by simp [hla])
      · rw [Nat.mul_one]; exact h1.2 b hb' i.toNat _ (by simp [hma])
      · by_cases hv : l[i.toNat] = m[i.toNat]
        · rw [if_neg (by simp [hv]), wrapI64 (by omega) (by omega)]
          refine ⟨_, rfl, ⟨by omega, by omega, ?_, rfl⟩, by dsimp only; omega⟩
          rw [show (i + 1).toNat = i.toNat + 1 from by omega, List.take_succ_eq_append_getElem hla, List.take_succ_eq_append_getElem hma, he, hv]
        · rw [if_pos (by simpa using hv)]
          have : decide (l = m) = false := by
            rw [decide_eq_false_iff_not]
            rintro rfl
            exact hv rfl
          rw [← this]; exact H
    · rw [if_neg (by simp [l0]; omega)]
      have : l = m := by
        have e1 : l.take i.toNat = l := List.take_of_length_le (by omega)
        have e2 : m.take i.toNat = m := List.take_of_length_le (by omega)
        rw [e1, e2] at he; exact he
      simpa [this] using H
  · rw [if_pos (by simp [l0, l1]; omega)]
    have : decide (l = m) = false := by rw [decide_eq_false_iff_not]; rintro rfl; exact hlm rfl
    rw [← this]; exact H
theorem Great23_ok {s : Slc} {vs : List S_api_Entry} {es : List Ent} {k : Bool → Heap → Prop} {h : Heap} (L : LsAt S_api_Entry.cs 2 h s vs) (el : vs.length = es.length) (en : ∀ (i : Nat) v e, vs[i]? = some v → es[i]? = some e → v.f_Cmd.len = e.2.length) (hz : es.length ≤ 9223372036854775807)
    (H : ∀ r, (r = false → es.length ≤ 100 ∧ ∀ e ∈ es, e.2.length ≤ 300) → k r h) : ref23_Great s k h := by
  unfold ref23_Great
  have sl := L.l
  refine ⟨fun i h' => h' = h ∧ ∃ n : Nat, i = n ∧ n ≤ 100 ∧ n ≤ es.length ∧ ∀ e ∈ es.take n, e.2.length ≤ 300, fun i _ => (100 - i).toNat, ⟨rfl, 0, rfl, by omega, by omega, by simp⟩, ?_⟩
  rintro i h' ⟨rfl, n, rfl, n1, n2, hb⟩
  unfold ref23_Great_l1b
  by_cases hn : n < es.length ∧ n < 100
  · rw [if_pos (by simp; omega)]
    obtain ⟨e, he⟩ : ∃ e, es[n]? = some e := ⟨_, List.getElem?_eq_getElem hn.1⟩
    obtain ⟨v, hv⟩ : ∃ v, vs[n]? = some v := ⟨_, List.getElem?_eq_getElem (by omega)⟩
    obtain ⟨a, ha, C⟩ := L.at' n v hv
    have hc := C 1 (Slc.v v.f_Cmd) rfl
    have hl := en n v e hv he
    refine ⟨a, ha, by omega, by omega, v.f_Cmd, by rw [Int.toNat_natCast]; exact hc, ?_⟩
    by_cases hg : v.f_Cmd.len > 300
    · rw [if_pos (by simp; omega)]
      exact H true fun h => by cases h
    · rw [if_neg (by simp; omega), wrapI64 (by omega) (by omega)]
      refine ⟨_, rfl, ⟨rfl, n + 1, by omega, by omega, by omega, fun f hf => ?_⟩, by dsimp only; omega⟩
      rw [List.take_add_one, he] at hf
      rcases List.mem_append.1 hf with hf | hf
      · exact hb f hf
      · simp at hf; subst hf; omega
  · rw [if_neg (by simp; omega)]
    refine H _ fun hr => ?_
    rw [decide_eq_false_iff_not] at hr
    have : n = es.length := by omega
    rw [this, List.take_length] at hb
    exact ⟨by omega, hb⟩
theorem Great26_ok {m : S_api_Msg} {vs : List S_api_Entry} {es : List Ent} {snap : List Int} {k : Bool → Heap → Prop} {h : Heap} (L : LsAt S_api_Entry.cs 2 h m.f_Entries vs) (el : vs.length = es.length) (en : ∀ (i : Nat) v e, vs[i]? = some v → es[i]? = some e → v.f_Cmd.len = e.2.length) (hz : es.length ≤ 9223372036854775807) (sl : m.f_Snap.len = snap.length)
    (H : ∀ r h', (r = false → es.length ≤ 100 ∧ (∀ e ∈ es, e.2.length ≤ 300) ∧ snap.length ≤ 1000) → Ext h.size h h' → k r h') : ref26_Great m k h := by
  unfold ref26_Great
  refine ⟨_, _, rfl, rfl, ?_⟩
  have X := Ext.push h (.cells (S_api_Msg.cs m).toArray 26) (Nat.le_refl _)
  have C := Blk.push h (S_api_Msg.cs m) 26
  generalize h.push (.cells (S_api_Msg.cs m).toArray 26) = h2 at *
  refine ⟨m.f_Entries, by rw [C.get]; rfl, Great23_ok (L.ext X) el en hz fun r hr => ?_⟩
  cases r with
  | true =>
    rw [if_pos rfl]
    unfold ref26_Great_g1
    exact H _ h2 (fun h => by cases h) X
  | false =>
    rw [if_neg (by simp)]
    refine ⟨m.f_Snap, by rw [C.get]; rfl, ?_⟩
    unfold ref26_Great_g1
    obtain ⟨a, b⟩ := hr rfl
    exact H _ h2 (fun h => ⟨a, b, by rw [decide_eq_false_iff_not] at h; omega⟩) X
theorem msgL_B {m : S_api_Msg} {es : List Ent} {snap : List Int} (r1 : 0 ≤ m.f_Term) (r2 : 0 ≤ m.f_Index) (r3 : 0 ≤ m.f_LogTerm) (r4 : 0 ≤ m.f_Commit) (er : ∀ e ∈ es, 0 ≤ e.1 ∧ isB e.2) (sb : isB snap) : isB (msgL m es snap) := by
  unfold msgL
  refine isB_app (isB_app (isB_app (isB_app (isB_app (isB_app (isB_app (isB_app ?_ (shortL_B r1)) (shortL_B r2)) (shortL_B r3)) (shortL_B r4)) ?_) (shortL_B (by omega))) (isB_flat fun e he => isB_app (shortL_B (er e he).1) (tx_B (er e he).2))) (tx_B sb)
  · intro b hb; simp at hb; omega
  · intro b hb; simp at hb; split at hb <;> omega
theorem zMsgAt (h : Heap) : MsgAt h zMsg [] [] [] := ⟨⟨rfl, by simp⟩, rfl, by simp, by simp, slc_nil h, rfl, isB_nil, by decide, by decide, by decide, by decide⟩
theorem zMsgSm : MsgSm [] [] := ⟨by simp, by simp, by simp⟩
theorem RaftForms_ok {m : S_api_Msg} {vs : List S_api_Entry} {es : List Ent} {snap l : List Int} {p1 : Slc} {k : Bool → Heap → Prop} {h : Heap} (A : MsgAt h m vs es snap) (hz : es.length ≤ 9223372036854775807) (S : SlcAt h p1 (b8 l)) (hl : p1.len = l.length) (hcap : p1.len ≤ p1.cap) (hB : isB l) (H : ∀ h', Ext h.size h h' → k true h') : law26_RaftForms m p1 k h := by
  unfold law26_RaftForms
  refine ⟨_, _, rfl, rfl, ?_⟩
  have P := Blk.push h (S_api_Msg.cs m) 26
  have W := Ext.push h (.cells (S_api_Msg.cs m).toArray 26) (Nat.le_refl _)
  generalize h.push (.cells (S_api_Msg.cs m).toArray 26) = h2 at *
  obtain ⟨b1, e1⟩ : ∃ y, y = h.size := ⟨_, rfl⟩
  rw [← e1] at P ⊢
  have z2 := W.size
  have pl := P.lt
  have A2 := A.ext W
  refine ⟨m, CellsAt.of_blk P, Great26_ok A2.ls A2.el (fun i v e hv he => (A2.en i v e hv he).2.2) hz A2.sl fun r h5 hr X5 => ?_⟩
  have z5 := X5.size
  have X05 : Ext h.size h h5 := W.trans (X5.mono z2)
  by_cases hg : (r || decide ((p1.len : Int) > 2000)) = true
  · rw [if_pos hg]
    exact awake26_ok fun h' X => H h' (X05.trans (X.mono (by omega)))
  rw [if_neg hg]
  have hg' : r = false ∧ l.length ≤ 2000 := by
    cases r with
    | true => exact absurd rfl hg
    | false =>
      refine ⟨rfl, ?_⟩
      simp only [Bool.false_or, decide_eq_true_eq] at hg
      omega
  obtain ⟨c1, c2, c3⟩ := hr hg'.1
  have Sm : MsgSm es snap := ⟨by omega, fun e he => by have := c2 e he; omega, by omega⟩
  have P5 := P.ext X5 pl
  have A5 := A2.ext X5
  have S5 := S.ext X05
  have lz : (msgL m es snap).length ≤ 1000000 := by
    have h1 := flat_len (f := entL) (c := 320) (l := es) fun e he => by
      have := shortL_len e.1; have := tx_len e.2; have := c2 e he
      unfold entL; rw [List.length_append]; omega
    have := tx_len snap
    have := shortL_len m.f_Term; have := shortL_len m.f_Index; have := shortL_len m.f_LogTerm; have := shortL_len m.f_Commit; have := shortL_len es.length
    unfold msgL
    simp only [List.length_append, List.length_cons, List.length_nil]; omega
  have lB := msgL_B A.r1.1 A.r2.1 A.r3.1 A.r4.1 (fun e he => ⟨(A.er e he).1.1, (A.er e he).2⟩) A.sb
  refine ⟨m, CellsAt.of_blk P5, mPut_ok A5 Sm fun s6 h6 R6 X6 => ?_⟩
  have z6 := X6.size
  refine mGetF_ok R6.slc R6.pb R6.cap lB lz (by omega) A.er A.sb A.r1 A.r2 A.r3 A.r4 fun m' vs' h7 A7 e7 X7 => ?_
  have z7 := X7.size
  refine ⟨_, _, rfl, rfl, ?_⟩
  have Q0 := Blk.push h7 (S_api_Msg.cs zMsg) 26
  have Q := Q0.sets_all (vs := S_api_Msg.cs m') rfl
  have X8 : Ext h7.size h7 (setsH (h7.push (.cells (S_api_Msg.cs zMsg).toArray 26)) ⟨h7.size, 0, none⟩ 0 (S_api_Msg.cs m')) := (Ext.push h7 _ (Nat.le_refl _)).trans (Ext.sets _ _ _ (Nat.le_refl _))
  refine ⟨_, WrsAt.of_blk Q0 (by show 8 ≤ 8; omega), rfl, ?_⟩
  generalize setsH (h7.push (.cells (S_api_Msg.cs zMsg).toArray 26)) ⟨h7.size, 0, none⟩ 0 (S_api_Msg.cs m') = h8 at *
  have ql := Q.lt
  have z8 := X8.size
  have A8 := A7.now.ext X8
  have X58 : Ext h5.size h5 h8 := X6.trans ((X7.mono z6).trans (X8.mono (by omega)))
  have A58 := A5.ext X58
  have P8 := P5.ext X58 (by omega)
  have R8 := (R6.ext X7 fun g hg => (R6.bd hg).2).ext X8 fun g hg => by have := (R6.bd hg).2; omega
  have S8 := S5.ext X58
  -- behind the second reading
  have more : ∀ (m2 : S_api_Msg) (e : Int) (h9 : Heap), Ext h8.size h8 h9 → ((e = 0 ∧ ∃ vs2 es2 snap2, Held h8.size h9 (fun h' => MsgAt h' m2 vs2 es2 snap2) ∧ MsgSm es2 snap2 ∧ l = msgL m2 es2 snap2) ∨ (e = 4 ∧ m2 = zMsg)) →
      ∃ (b18 : Nat) (h19 : Heap), b18 = h9.size ∧ h19 = h9.push (.cells (S_api_Msg.cs zMsg).toArray 26) ∧ (∃ h20 : Heap, WrsAt h19 (⟨b18, 0, none⟩ : Addr) 8 ∧ h20 = setsH h19 (⟨b18, 0, none⟩ : Addr) 0 (S_api_Msg.cs m2) ∧ (∃ v21 : S_api_Msg, CellsAt h20 (⟨b1, 0, none⟩ : Addr) (S_api_Msg.cs v21) ∧ (ref26_Form v21 (fun (r22 : Slc) h23 => ref01_Same s6 r22 (fun (r24 : Bool) h25 => if ((!r24) || ((0 : Int) != 0)) then (law26_RaftForms_g1 p1 (⟨b18, 0, none⟩ : Addr) e true k h25) else (∃ v42 : S_api_Msg, CellsAt h25 (⟨h7.size, 0, none⟩ : Addr) (S_api_Msg.cs v42) ∧ (ref26_Form v42 (fun (r43 : Slc) h44 => ref01_Same r43 s6 (fun (r45 : Bool) h46 => law26_RaftForms_g1 p1 (⟨b18, 0, none⟩ : Addr) e (!r45) k h46) h44) h25))) h23) h20))) := fun m2 e h9 X9 hm => by
    have z9 := X9.size
    refine ⟨_, _, rfl, rfl, ?_⟩
    have T0 := Blk.push h9 (S_api_Msg.cs zMsg) 26
    have T := T0.sets_all (vs := S_api_Msg.cs m2) rfl
    have X10 : Ext h9.size h9 (setsH (h9.push (.cells (S_api_Msg.cs zMsg).toArray 26)) ⟨h9.size, 0, none⟩ 0 (S_api_Msg.cs m2)) := (Ext.push h9 _ (Nat.le_refl _)).trans (Ext.sets _ _ _ (Nat.le_refl _))
    refine ⟨_, WrsAt.of_blk T0 (by show 8 ≤ 8; omega), rfl, ?_⟩
    generalize setsH (h9.push (.cells (S_api_Msg.cs zMsg).toArray 26)) ⟨h9.size, 0, none⟩ 0 (S_api_Msg.cs m2) = h10 at *
    have tl := T.lt
    have z10 := X10.size
    have X810 : Ext h8.size h8 h10 := X9.trans (X10.mono z9)
    refine ⟨m, CellsAt.of_blk (P8.ext X810 (by omega)), RMsg_ok (A58.ext X810) Sm fun s11 h11 R11 X11 => ?_⟩
    have z11 := X11.size
    have X811 : Ext h8.size h8 h11 := X810.trans (X11.mono (by omega))
    have R8' := R8.ext X811 fun g hg => (R8.bd hg).2
    refine Same_ok R8'.slc R8'.pb R11.slc R11.pb (by omega) ?_
    rw [show decide (msgL m es snap = msgL m es snap) = true from by simp, if_neg (by decide)]
    refine ⟨m', CellsAt.of_blk (Q.ext X811 ql), RMsg_ok (A8.ext X811) Sm fun s12 h12 R12 X12 => ?_⟩
    have z12 := X12.size
    have R12' := R8'.ext X12 fun g hg => (R8'.bd hg).2
    refine Same_ok R12.slc R12.pb R12'.slc R12'.pb (by rw [e7]; omega) ?_
    rw [e7, show decide (msgL m es snap = msgL m es snap) = true from by simp]
    have X812 : Ext h8.size h8 h12 := X811.trans (X12.mono (by omega))
    have X912 : Ext h9.size h9 h12 := X10.trans ((X11.mono z10).trans (X12.mono (by omega)))
    have X012 : Ext h.size h h12 := X05.trans ((X58.mono (by omega)).trans (X812.mono (by omega)))
    have z912 := X912.size
    show law26_RaftForms_g1 p1 _ e false k h12
    unfold law26_RaftForms_g1
    rw [if_neg (by simp)]
    have T12 := (T.ext X11 tl).ext X12 (by omega)
    rcases hm with ⟨rfl, vs2, es2, snap2, A2', Sm2, el⟩ | ⟨rfl, rfl⟩
    · rw [if_neg (by decide)]
      have A12 : MsgAt h12 m2 vs2 es2 snap2 := A2' h12 fun g _ hg => X912.block g hg
      refine ⟨m2, CellsAt.of_blk T12, RMsg_ok A12 Sm2 fun s13 h13 R13 X13 => ?_⟩
      have X013 : Ext h.size h h13 := X012.trans (X13.mono (by omega))
      have z13 := X13.size
      refine Same_ok R13.slc R13.pb (S.ext X013) hl (by rw [← el]; omega) ?_
      rw [show decide (msgL m2 es2 snap2 = l) = true from by simp [el], if_pos rfl]
      exact awake26_ok fun h' X => H h' (X013.trans (X.mono (by omega)))
    · rw [if_pos (by decide), if_pos (by decide)]
      refine ⟨zMsg, CellsAt.of_blk T12, RMsg_ok (zMsgAt _) zMsgSm fun s13 h13 R13 X13 => ?_⟩
      have z13 := X13.size
      refine RMsg_ok (zMsgAt _) zMsgSm fun s14 h14 R14 X14 => ?_
      have z14 := X14.size
      have R13' := R13.ext X14 fun g hg => (R13.bd hg).2
      refine Same_ok R13'.slc R13'.pb R14.slc R14.pb (by have := msgL_len zMsgSm (m := zMsg); omega) ?_
      rw [show decide (msgL zMsg [] [] = msgL zMsg [] []) = true from by simp]
      unfold law26_RaftForms_g2
      rw [if_pos rfl]
      exact awake26_ok fun h' X => H h' (X012.trans ((X13.mono (by omega)).trans ((X14.mono (by omega)).trans (X.mono (by omega)))))
  refine mGet_ok S8 hl hcap hB (by omega) (fun m2 vs2 es2 snap2 h9 A9 Sm9 _ el X9 => ?_) fun h9 X9 => ?_
  · exact more m2 0 h9 X9 (.inl ⟨rfl, vs2, es2, snap2, A9, Sm9, el⟩)
  · exact more zMsg 4 h9 X9 (.inr ⟨rfl, rfl⟩)
end Go.Q.Yh
