/- A part of the proof of statements of this seat: lemmas, no statement of their own. -/
import Derived.Test.YtcmbgfmbmbgbiaaYbRef1
set_option linter.unusedVariables false
set_option linter.unusedSimpArgs false
namespace Go.Q.Yb
theorem take_snoc {α : Type} {xs : List α} {i : Nat} {x : α} (h : xs[i]? = some x) : xs.take (i + 1) = xs.take i ++ [x] := by
  rw [List.take_add_one, h]; rfl
section
variable {g h : Heap} {s : Slc} {k : Slc → Heap → Prop} {pre : List Int}
theorem RMsg_l2_ok {b : Nat} {m : S_api_Msg} {vs : List S_api_Entry} {es : List Ent} {snap : List Int} (A : MsgAt g m vs es snap) (S : MsgSm es snap) (P : Blk g b (S_api_Msg.cs m) 40) (M : Ac g h s pre) (hp : pre.length ≤ 1000)
    (H : ∀ s' h', Ac g h' s' (pre ++ es.flatMap entL ++ tx snap) → k s' h') : ref26_Form_l2 ⟨b, 0, none⟩ s 0 k h := by
  have al := A.ls.l
  have el := A.el
  have sn := S.n
  have ss := S.s
  refine ⟨fun q h' => ∃ l', Ac g h' q.1 l' ∧ 0 ≤ q.2 ∧ q.2 ≤ es.length ∧ l' = pre ++ (es.take q.2.toNat).flatMap entL ∧ l'.length ≤ pre.length + q.2.toNat * 10020, fun q _ => (es.length - q.2).toNat, ⟨pre, M, by simp, by simp, by simp, by simp⟩, ?_⟩
  rintro s1 i h1 ⟨l1, M1, i0, i1, e1, n1⟩
  dsimp only at M1 i0 i1 e1 n1
  have C : ∀ {h' : Heap} {i : Nat} {v : Value}, Ext g.size g h' → (S_api_Msg.cs m)[i]? = some v → cellH h' ((⟨b, 0, none⟩ : Addr).add i) = some v := fun X hv => by rw [add_mk, (P.ext X P.lt).cell, Nat.zero_add]; exact hv
  unfold ref26_Form_l2b
  refine ⟨m.f_Entries, C M1.X rfl, ?_⟩
  by_cases hi : i < es.length
  · rw [if_pos (by rw [decide_eq_true_eq]; omega)]
    have hx : es[i.toNat]? = some (es[i.toNat]'(by omega)) := by simp
    have hv : vs[i.toNat]? = some (vs[i.toNat]'(by omega)) := by simp
    have hm := List.mem_of_getElem? hx
    have er := A.er _ hm
    have es' := S.e _ hm
    obtain ⟨a, ha, CA⟩ := A.ls.at' _ _ hv
    obtain ⟨t1, t2, t3⟩ := A.en _ _ _ hv hx
    generalize es[i.toNat]'(by omega) = e at *
    generalize vs[i.toNat]'(by omega) = v at *
    refine ⟨_, C M1.X rfl, a, ha, i0, by omega, v.f_Term, (CA.ext M1.X) 0 (.int .u64 v.f_Term) rfl, ?_⟩
    rw [t1]
    refine M1.short er.1.1 er.1.2 (by omega) fun s2 h2 l2 e2 n2 M2 => ?_
    refine ⟨_, C M2.X rfl, a, ha, i0, by omega, v.f_Cmd, (CA.ext M2.X) 1 (Slc.v v.f_Cmd) rfl, ?_⟩
    rw [t3, wrapU64 (by omega) (by omega)]
    refine M2.short (by omega) (by omega) (by omega) fun s3 h3 l3 e3 n3 M3 => ?_
    refine ⟨_, C M3.X rfl, a, ha, i0, by omega, v.f_Cmd, (CA.ext M3.X) 1 (Slc.v v.f_Cmd) rfl, ?_⟩
    refine M3.bytes (t2.ext M3.X) t3 (c := 10000) (by omega) (by omega) fun s4 h4 l4 e4 n4 M4 => ?_
    rw [wrapI64 (by omega) (by omega)]
    refine ⟨_, rfl, ⟨l4, M4, by dsimp only; omega, by dsimp only; omega, ?_, by dsimp only; omega⟩, by dsimp only; omega⟩
    dsimp only
    rw [show (i + 1).toNat = i.toNat + 1 from by omega, take_snoc hx, List.flatMap_append, e4, e3, e2, e1]
    simp only [List.flatMap_cons, List.flatMap_nil, entL, tx, List.append_assoc, List.append_nil]
  · rw [if_neg (by rw [decide_eq_true_eq]; omega)]
    refine ⟨_, C M1.X rfl, ?_⟩
    rw [A.sl, wrapU64 (by omega) (by omega)]
    refine M1.short (by omega) (by omega) (by omega) fun s2 h2 l2 e2 n2 M2 => ?_
    refine ⟨_, C M2.X rfl, ?_⟩
    refine M2.bytes (A.ss.ext M2.X) A.sl (c := 10000) (by omega) (by omega) fun s3 h3 l3 e3 n3 M3 => ?_
    have : l3 = pre ++ es.flatMap entL ++ tx snap := by
      rw [e3, e2, e1, List.take_of_length_le (by omega), tx]; simp only [List.append_assoc]
    rw [this] at M3
    exact H _ _ M3
end
theorem RMsg_ok {m : S_api_Msg} {vs : List S_api_Entry} {es : List Ent} {snap : List Int} {k : Slc → Heap → Prop} {h : Heap} (A : MsgAt h m vs es snap) (S : MsgSm es snap) (H : Lays' h (msgL m es snap) k) : ref26_Form m k h := by
  unfold ref26_Form
  refine ⟨_, _, rfl, rfl, ?_⟩
  have P := Blk.push h (S_api_Msg.cs m) 40
  have W := Ext.push h (.cells (S_api_Msg.cs m).toArray 40) (Nat.le_refl _)
  obtain ⟨h2, e2⟩ : ∃ y, y = h.push (.cells (S_api_Msg.cs m).toArray 40) := ⟨_, rfl⟩
  rw [← e2] at P W ⊢
  have pl := P.lt
  have A2 := A.ext W
  have z2 := W.size
  have C : ∀ {h' : Heap} {i : Nat} {v : Value}, Ext h2.size h2 h' → (S_api_Msg.cs m)[i]? = some v → cellH h' ((⟨h.size, 0, none⟩ : Addr).add i) = some v := fun X hv => by rw [add_mk, (P.ext X pl).cell, Nat.zero_add]; exact hv
  refine ⟨_, by rw [P.cell]; rfl, _, _, rfl, rfl, ?_⟩
  have Q := Blk.push h2 (b8 [m.f_Kind % 256]) 5
  have W3 := Ext.push h2 (.cells (b8 [m.f_Kind % 256]).toArray 5) (Nat.le_refl _)
  rw [wU8]
  obtain ⟨h3, e3⟩ : ∃ y, y = h2.push (.cells (b8 [m.f_Kind % 256]).toArray 5) := ⟨_, rfl⟩
  rw [show (Value.int .u8 (m.f_Kind % 256)) :: [] = b8 [m.f_Kind % 256] from rfl, ← e3]
  rw [← e3] at Q W3
  have M3 : Ac h2 h3 ⟨some ⟨h2.size, 0, none⟩, 1, 1⟩ [m.f_Kind % 256] := ⟨W3, Row.of_blk (zs := []) (by simpa using Q) (Nat.le_refl _) rfl rfl (by simp [maxLen])⟩
  have n3 : ([m.f_Kind % 256] : List Int).length = 1 := rfl
  generalize e3' : [m.f_Kind % 256] = l3 at *
  refine ⟨_, C M3.X rfl, M3.short A.r1.1 A.r1.2 (by omega) fun s4 h4 l4 e4 n4 M4 => ?_⟩
  refine ⟨_, C M4.X rfl, M4.short A.r2.1 A.r2.2 (by omega) fun s5 h5 l5 e5 n5 M5 => ?_⟩
  refine ⟨_, C M5.X rfl, M5.short A.r3.1 A.r3.2 (by omega) fun s6 h6 l6 e6 n6 M6 => ?_⟩
  refine ⟨_, C M6.X rfl, M6.short A.r4.1 A.r4.2 (by omega) fun s7 h7 l7 e7 n7 M7 => ?_⟩
  refine ⟨m.f_Yes, C M7.X rfl, ?_⟩
  have fin : ∀ {s8 : Slc} {h8 : Heap} {l8 : List Int}, l8 = l7 ++ [if m.f_Yes then 1 else 0] → l8.length ≤ l7.length + 1 → Ac h2 h8 s8 l8 → ref26_Form_j1 ⟨h.size, 0, none⟩ s8 k h8 := fun {s8 h8 l8} e8 n8 M8 => by
    unfold ref26_Form_j1
    refine ⟨_, C M8.X rfl, ?_⟩
    have l1 := A.ls.l
    have l2 := A.el
    have l3 := S.n
    rw [show m.f_Entries.len = es.length from by omega, wrapU64 (by omega) (by omega)]
    refine M8.short (by omega) (by omega) (by omega) fun s9 h9 l9 e9 n9 M9 => ?_
    refine RMsg_l2_ok A2 S P M9 (by omega) fun s10 h10 M10 => ?_
    refine H s10 h10 ?_ (W.trans (M10.X.mono z2))
    have : l9 ++ es.flatMap entL ++ tx snap = msgL m es snap := by
      rw [e9, e8, e7, e6, e5, e4, ← e3', msgL]
    rw [← this]; exact M10.R.mono z2
  cases hy : m.f_Yes with
  | true => rw [if_pos rfl]; exact M7.one (by omega) fun s8 h8 l8 e8 n8 M8 => fin (by rw [hy]; exact e8) n8 M8
  | false => rw [if_neg (by simp)]; exact M7.one (by omega) fun s8 h8 l8 e8 n8 M8 => fin (by rw [hy]; exact e8) n8 M8
section
variable {g h : Heap} {s : Slc} {k : Slc → Heap → Prop} {pre : List Int} {n : S_api_Note} {ps : List S_api_Piece} {ids : List S_api_Id} {wr : List Int} {vs : List S_api_Entry} {es : List Ent} {snap : List Int} {b : Nat}
theorem isB_msgL {m : S_api_Msg} {h : Heap} (A : MsgAt h m vs es snap) : isB (msgL m es snap) := by
  have sh : ∀ {n : Int}, 0 ≤ n → isB (shortL n) := fun h => shortF_B 10 _ h
  have ap : ∀ {x y : List Int}, isB x → isB y → isB (x ++ y) := fun hx hy b hb => (List.mem_append.1 hb).elim (hx b) (hy b)
  unfold msgL
  refine ap (ap (ap (ap (ap (ap (ap (ap ?_ (sh A.r1.1)) (sh A.r2.1)) (sh A.r3.1)) (sh A.r4.1)) ?_) (sh (by omega))) ?_) (ap (sh (by omega)) A.sb)
  · intro b hb; simp at hb; omega
  · intro b hb; simp at hb; subst hb; split <;> omega
  · intro b hb
    obtain ⟨e, he, hb⟩ := List.mem_flatMap.1 hb
    exact ap (sh (A.er e he).1.1) (ap (sh (by omega)) (A.er e he).2) b hb
theorem isB_formL : ∀ (w : Nat) (n : Int), isB (formL n w)
  | 0, _ => by intro b hb; cases hb
  | w + 1, n => by
    intro b hb
    rcases List.mem_cons.1 hb with rfl | hb
    · omega
    · exact isB_formL w _ b hb
theorem isB_cmdL {c : S_api_Command} {h : Heap} (A : CmdAt h c wr) (nb : isB c.f_Nonce) : isB (cmdL c wr) := by
  have sh : ∀ {n : Int}, 0 ≤ n → isB (shortL n) := fun h => shortF_B 10 _ h
  have ap : ∀ {x y : List Int}, isB x → isB y → isB (x ++ y) := fun hx hy b hb => (List.mem_append.1 hb).elim (hx b) (hy b)
  unfold cmdL
  refine ap (ap (ap (ap (ap ?_ (ap (sh (by omega)) (sB_isB _))) (isB_formL _ _)) (isB_nrm nb)) (ap (sh (by omega)) A.wb)) (isB_formL _ _)
  intro b hb; simp at hb; omega
theorem RNote_l2_ok {nx : Slc × Int → Heap → Prop} (A : NoteAt g n ps ids wr vs es snap) (S : NoteSm n ps ids wr es snap) (P : Blk g b (S_api_Note.cs n) 42) (M : Ac g h s pre) (hp : pre.length ≤ 20000000)
    (H : ∀ s' h', Ac g h' s' (pre ++ tailL n ids es snap) → k s' h') : ref27_Form_l2 ⟨b, 0, none⟩ s 0 k nx h := by
  have al := A.ia.l
  have sn := S.i
  refine ⟨fun q h' => ∃ l', Ac g h' q.1 l' ∧ 0 ≤ q.2 ∧ q.2 ≤ ids.length ∧ l' = pre ++ (ids.take q.2.toNat).flatMap idL ∧ l'.length ≤ pre.length + q.2.toNat * 10, fun q _ => (ids.length - q.2).toNat, ⟨pre, M, by simp, by simp, by simp, by simp⟩, ?_⟩
  rintro s1 i h1 ⟨l1, M1, i0, i1, e1, n1⟩
  dsimp only at M1 i0 i1 e1 n1
  have C : ∀ {h' : Heap} {i : Nat} {v : Value}, Ext g.size g h' → (S_api_Note.cs n)[i]? = some v → cellH h' ((⟨b, 0, none⟩ : Addr).add i) = some v := fun X hv => by rw [add_mk, (P.ext X P.lt).cell, Nat.zero_add]; exact hv
  unfold ref27_Form_l2b
  refine ⟨n.f_Ids, C M1.X rfl, ?_⟩
  by_cases hi : i < ids.length
  · rw [if_pos (by rw [decide_eq_true_eq]; omega)]
    have hx : ids[i.toNat]? = some (ids[i.toNat]'(by omega)) := by simp
    have rx := A.ir _ (List.mem_of_getElem? hx)
    obtain ⟨a, ha, CA⟩ := A.ia.at' _ _ hx
    generalize ids[i.toNat]'(by omega) = x at *
    refine ⟨_, C M1.X rfl, a, ha, i0, by omega, x, CA.ext M1.X, ?_⟩
    refine RId_ok ⟨rx.1, rx.2.2.2⟩ ⟨rx.2.1, rx.2.2.1⟩ fun r h2 R2 X2 => ?_
    refine M1.row R2 X2 (c := 10) (by rw [idL_len]; omega) (by rw [idL_len]; omega) fun s4 h4 l4 e4 n4 M4 => ?_
    rw [wrapI64 (by omega) (by omega)]
    refine ⟨_, rfl, ⟨l4, M4, by dsimp only; omega, by dsimp only; omega, ?_, by dsimp only; omega⟩, by dsimp only; omega⟩
    dsimp only
    rw [show (i + 1).toNat = i.toNat + 1 from by omega, take_snoc hx, List.flatMap_append, e4, e1]
    simp only [List.flatMap_cons, List.flatMap_nil, List.append_assoc, List.append_nil]
  · rw [if_neg (by rw [decide_eq_true_eq]; omega)]
    refine ⟨_, C M1.X rfl, M1.one (by omega) fun s2 h2 l2 e2 n2 M2 => ?_⟩
    refine ⟨_, by omega, by omega, by omega, rfl, ?_⟩
    have N5 : SlcAt h2 (subS ⟨some (((⟨b, 0, none⟩ : Addr).add 30).add 1), 32, 32⟩ 1 (0 : Int).toNat (32 : Int).toNat 32) (b8 (nrm 32 n.f_Share.f_Y)) := by
      have : (subS ⟨some (((⟨b, 0, none⟩ : Addr).add 30).add 1), 32, 32⟩ 1 (0 : Int).toNat (32 : Int).toNat 32) = ⟨some ⟨b, 31, none⟩, 32, 32⟩ := by simp [subS, add_mk]
      rw [this]
      refine (P.ext M2.X P.lt).slc (n := 32) ?_
      rw [show b8 (nrm 32 n.f_Share.f_Y) = arr 32 .u8 n.f_Share.f_Y from (arr_nrm _ _ _).symm]
      rfl
    refine M2.bytes N5 (by rw [nrm_len]; rfl) (c := 32) (by rw [nrm_len]; omega) (by rw [nrm_len]; omega) fun s3 h3 l3 e3 n3 M3 => ?_
    refine ⟨n.f_M, fun j v hj => ?_, ?_⟩
    · rw [add_mk, add_mk, (P.ext M3.X P.lt).cell, Nat.zero_add]
      have hj8 : j < 8 := (List.getElem?_eq_some_iff.1 hj).1
      rw [← hj]
      show (((S_api_Note.cs n).take 63) ++ S_api_Msg.cs n.f_M)[63 + j]? = _
      rw [List.getElem?_append_right (by show 63 ≤ 63 + j; omega)]
      show (S_api_Msg.cs n.f_M)[63 + j - 63]? = _
      rw [Nat.add_sub_cancel_left]
    have ml := msgL_len (m := n.f_M) S.m
    refine RMsg_ok (A.msg.ext M3.X) S.m fun r h4 R4 X4 => ?_
    have M4 := M3.ext X4
    refine M4.btext R4.slc R4.pb (isB_msgL A.msg) (c := 100300000) ml (by omega) (by omega) fun s5 h5 l5 e5 n5 M5 => ?_
    have : l5 = pre ++ tailL n ids es snap := by
      rw [e5, e3, e2, e1, List.take_of_length_le (by omega), tailL]; simp only [List.append_assoc]
    rw [this] at M5
    exact H _ _ M5
end
end Go.Q.Yb
