/- A part of the proof of statements of this seat: lemmas, no statement of their own. -/
import Derived.Test.YtcmbgfmbmbgbiaaYbRef2
set_option linter.unusedVariables false
set_option linter.unusedSimpArgs false
namespace Go.Q.Yb
/-- what isn't bytes stays -/
def Un5 (h h' : Heap) : Prop := ∀ q cs E, E ≠ 5 → Blk h q cs E → Blk h' q cs E
theorem Un5.of_ext {h h' : Heap} (X : Ext h.size h h') : Un5 h h' := fun q cs E _ K => K.ext X K.lt
theorem Un5.trans {a b c : Heap} (x : Un5 a b) (y : Un5 b c) : Un5 a c := fun q cs E hE K => y q cs E hE (x q cs E hE K)
abbrev NxtU (g h : Heap) (l out : List Int) (c : Nat) (k : Slc → Heap → Prop) : Prop := ∀ s' h' l', l' = l ++ out → l'.length ≤ l.length + c → Ac g h' s' l' → Un5 h h' → k s' h'
section
variable {g h : Heap} {s : Slc} {l : List Int} {k : Slc → Heap → Prop}
theorem Ac.appU (M : Ac g h s l) {v : List Int} {n c : Nat} (hn : n = v.length) (hc : v.length ≤ c) (hl : l.length + v.length ≤ 70368744177664) (H : NxtU g h l v c k) : App 5 1 1 [.int .u8 0] h s n (b8 v) k := by
  subst hn
  have := M.R.len
  simp at this
  refine App.row M.R M.X.size rfl (by simp) (b8_one v) (by omega) (by simp only [maxLen]; omega) fun s' h' R' _ hz ho _ => H s' h' _ rfl (by rw [List.length_append]; omega) ⟨M.X.trans ⟨hz, fun i hi => ho i (by have := M.X.size; omega) fun e => by have := (M.R.bd e).1; omega⟩, by simpa using R'⟩ fun q cs E hE K => K.old (ho q K.lt (M.R.ne_blk K (fun e => hE e.symm)))
theorem Ac.bytesU (M : Ac g h s l) {t : Slc} {v : List Int} {c : Nat} (ht : SlcAt h t (b8 v)) (hn : t.len = v.length) (hc : v.length ≤ c) (hl : l.length + v.length ≤ 70368744177664) (H : NxtU g h l v c k) : ∃ w, SlcAt h t w ∧ App 5 1 1 [.int .u8 0] h s t.len w k :=
  ⟨_, ht, M.appU hn hc hl H⟩
theorem Ac.rowU (M : Ac g h s l) {t : Slc} {v : List Int} {h1 : Heap} {c : Nat} (hR : Row h.size h1 5 1 t (b8 v)) (hX : Ext h.size h h1) (hc : v.length ≤ c) (hl : l.length + v.length ≤ 70368744177664) (H : NxtU g h l v c k) : ∃ w, SlcAt h1 t w ∧ App 5 1 1 [.int .u8 0] h1 s t.len w k :=
  (M.ext hX).bytesU hR.slc hR.pb hc hl fun s' h' l' e n M' U => H s' h' l' e n M' ((Un5.of_ext hX).trans U)
theorem Ac.formU (M : Ac g h s l) {n w : Int} (w0 : 0 ≤ w) (w1 : w ≤ 8) (n0 : 0 ≤ n) (n1 : n < 18446744073709551616) (hl : l.length ≤ 4398046511104) (H : NxtU g h l (formL n w.toNat) 8 k) : ref01_Form n w (fun r h' => ∃ w, SlcAt h' r w ∧ App 5 1 1 [.int .u8 0] h' s r.len w k) h :=
  Form_ok w0 w1 n0 n1 fun r h1 R1 X1 => M.rowU R1 X1 (by rw [formL_length]; omega) (by rw [formL_length]; omega) H
theorem Ac.textU (M : Ac g h s l) {t : ByteArray} {c : Nat} (ht : t.size ≤ c) (hc : c ≤ 4398046511104) (hl : l.length ≤ 4398046511104) (H : NxtU g h l (textL t) (c + 10) k) : ref27_text t (fun r h' => ∃ w, SlcAt h' r w ∧ App 5 1 1 [.int .u8 0] h' s r.len w k) h :=
  RText_ok (by omega) fun r h1 R1 X1 => M.rowU R1 X1 (by have := textL_len t; omega) (by have := textL_len t; omega) H
end
theorem CellsAt.sub' {h : Heap} {b i E : Nat} {cs xs : List Value} (K : Blk h b cs E) (he : ∀ j v, xs[j]? = some v → cs[i + j]? = some v) : CellsAt h ((⟨b, 0, none⟩ : Addr).add i) xs := fun j v hj => by
  rw [add_mk, add_mk, K.cell, Nat.zero_add]; exact he j v hj
section
variable {g h : Heap} {s : Slc} {k : Slc → Heap → Prop} {pre : List Int} {n : S_api_Note} {ps : List S_api_Piece} {ids : List S_api_Id} {wr : List Int} {vs : List S_api_Entry} {es : List Ent} {snap : List Int} {b : Nat}
theorem RNote_l1_ok (A : NoteAt g n ps ids wr vs es snap) (S : NoteSm n ps ids wr es snap) (P : Blk g b (S_api_Note.cs n) 42) (M : Ac g h s pre) (hp : pre.length ≤ 100000)
    (H : ∀ s' h', Ac g h' s' (pre ++ ps.flatMap pieceL ++ midL n wr ids ++ tailL n ids es snap) → k s' h') : ref27_Form_l1 ⟨b, 0, none⟩ s 0 k h := by
  have al := A.pa.l
  have sn := S.p
  refine ⟨fun q h' => ∃ l', Ac g h' q.1 l' ∧ 0 ≤ q.2 ∧ q.2 ≤ ps.length ∧ l' = pre ++ (ps.take q.2.toNat).flatMap pieceL ∧ l'.length ≤ pre.length + q.2.toNat * 10050, fun q _ => (ps.length - q.2).toNat, ⟨pre, M, by simp, by simp, by simp, by simp⟩, ?_⟩
  rintro s1 i h1 ⟨l1, M1, i0, i1, e1, n1⟩
  dsimp only at M1 i0 i1 e1 n1
  have C : ∀ {h' : Heap} {i : Nat} {v : Value}, Ext g.size g h' → (S_api_Note.cs n)[i]? = some v → cellH h' ((⟨b, 0, none⟩ : Addr).add i) = some v := fun X hv => by rw [add_mk, (P.ext X P.lt).cell, Nat.zero_add]; exact hv
  unfold ref27_Form_l1b
  refine ⟨n.f_Pieces, C M1.X rfl, ?_⟩
  by_cases hi : i < ps.length
  · rw [if_pos (by rw [decide_eq_true_eq]; omega)]
    have hx : ps[i.toNat]? = some (ps[i.toNat]'(by omega)) := by simp
    have hm := List.mem_of_getElem? hx
    have rx := A.pr _ hm
    have sx := S.s _ hm
    obtain ⟨a, ha, CA⟩ := A.pa.at' _ _ hx
    generalize ps[i.toNat]'(by omega) = x at *
    refine ⟨_, C M1.X rfl, a, ha, i0, by omega, x, CA.ext M1.X, _, _, rfl, rfl, ?_⟩
    have P0 := Blk.push h1 (S_api_Piece.cs ⟨ByteArray.empty, 0, 0, ⟨0, 0⟩⟩) 50
    have K2 := P0.sets_all (vs := S_api_Piece.cs x) rfl
    have W := (Ext.push h1 (.cells (S_api_Piece.cs ⟨ByteArray.empty, 0, 0, ⟨0, 0⟩⟩).toArray 50) (Nat.le_refl _)).trans (Ext.sets _ (a := ⟨h1.size, 0, none⟩) 0 (S_api_Piece.cs x) (Nat.le_refl _))
    refine ⟨_, WrsAt.of_blk P0 (by show 5 ≤ 5; omega), rfl, ?_⟩
    generalize setsH (h1.push (.cells (S_api_Piece.cs ⟨ByteArray.empty, 0, 0, ⟨0, 0⟩⟩).toArray 50)) ⟨h1.size, 0, none⟩ 0 (S_api_Piece.cs x) = h2 at *
    have M2 := M1.ext W
    have D : ∀ {h' : Heap} {i : Nat} {v : Value}, Un5 h2 h' → (S_api_Piece.cs x)[i]? = some v → cellH h' ((⟨h1.size, 0, none⟩ : Addr).add i) = some v := fun X hv => by rw [add_mk, (X _ _ _ (by decide) K2).cell, Nat.zero_add]; exact hv
    refine ⟨_, by rw [K2.cell]; rfl, ?_⟩
    refine M2.textU (c := 10000) sx (by omega) (by omega) fun s3 h3 l3 e3 n3 M3 U3 => ?_
    refine ⟨_, D U3 rfl, ?_⟩
    rw [wU64]
    refine M3.formU (by omega) (by omega) (by omega) (by omega) (by omega) fun s4 h4 l4 e4 n4 M4 U4 => ?_
    have U4 := U3.trans U4
    refine ⟨_, D U4 rfl, ?_⟩
    rw [wU64]
    refine M4.formU (by omega) (by omega) (by omega) (by omega) (by omega) fun s5 h5 l5 e5 n5 M5 U5 => ?_
    have U5 := U4.trans U5
    refine ⟨x.f_Id, CellsAt.sub' (U5 _ _ _ (by decide) K2) fun j v hj => ?_, ?_⟩
    · have hj2 : j < 2 := (List.getElem?_eq_some_iff.1 hj).1
      rw [← hj]
      show (((S_api_Piece.cs x).take 3) ++ S_api_Id.cs x.f_Id)[3 + j]? = _
      rw [List.getElem?_append_right (by show 3 ≤ 3 + j; omega)]
      show (S_api_Id.cs x.f_Id)[3 + j - 3]? = _
      rw [Nat.add_sub_cancel_left]
    refine RId_ok ⟨rx.1, rx.2.2.2⟩ ⟨rx.2.1, rx.2.2.1⟩ fun r h6 R6 X6 => ?_
    refine M5.row R6 X6 (c := 10) (by rw [idL_len]; omega) (by rw [idL_len]; omega) fun s7 h7 l7 e7 n7 M7 => ?_
    rw [wrapI64 (by omega) (by omega)]
    refine ⟨_, rfl, ⟨l7, M7, by dsimp only; omega, by dsimp only; omega, ?_, by dsimp only; omega⟩, by dsimp only; omega⟩
    dsimp only
    rw [show (i + 1).toNat = i.toNat + 1 from by omega, take_snoc hx, List.flatMap_append, e7, e5, e4, e3, e1]
    simp only [List.flatMap_cons, List.flatMap_nil, pieceL, wideL, List.append_assoc, List.append_nil]
    rfl
  · rw [if_neg (by rw [decide_eq_true_eq]; omega)]
    have sq := S.q
    have A6 : ∀ i : Nat, ((⟨b, 0, none⟩ : Addr).add 6).add i = (⟨b, 0, none⟩ : Addr).add (6 + i) := fun i => by simp [add_mk]
    refine ⟨n.f_Q.f_Select, C M1.X rfl, ?_⟩
    refine M1.text (c := 10000) sq (by omega) (by omega) fun s2 h2 l2 e2 n2 M2 => ?_
    refine ⟨n.f_Q.f_From, by rw [A6]; exact C M2.X rfl, ?_⟩
    rw [wU64]
    refine M2.form (by omega) (by omega) (by omega) (by omega) (by omega) fun s3 h3 l3 e3 n3 M3 => ?_
    refine ⟨n.f_Q.f_To, by rw [A6]; exact C M3.X rfl, ?_⟩
    rw [wU64]
    refine M3.form (by omega) (by omega) (by omega) (by omega) (by omega) fun s4 h4 l4 e4 n4 M4 => ?_
    refine ⟨n.f_Q.f_Step, by rw [A6]; exact C M4.X rfl, ?_⟩
    rw [wU64]
    refine M4.form (by omega) (by omega) (by omega) (by omega) (by omega) fun s5 h5 l5 e5 n5 M5 => ?_
    refine ⟨n.f_Q.f_Agg, by rw [A6]; exact C M5.X rfl, ?_⟩
    rw [wU8]
    refine M5.one (by omega) fun s6 h6 l6 e6 n6 M6 => ?_
    refine ⟨n.f_Cmd, CellsAt.sub' (P.ext M6.X P.lt) fun j v hj => ?_, ?_⟩
    · have hj2 : j < 17 := (List.getElem?_eq_some_iff.1 hj).1
      rw [← hj]
      show (((S_api_Note.cs n).take 11) ++ (S_api_Command.cs n.f_Cmd ++ (S_api_Note.cs n).drop 28))[11 + j]? = _
      rw [List.getElem?_append_right (by show 11 ≤ 11 + j; omega)]
      show (S_api_Command.cs n.f_Cmd ++ (S_api_Note.cs n).drop 28)[11 + j - 11]? = _
      rw [Nat.add_sub_cancel_left, List.getElem?_append_left hj2]
    have cl := cmdL_len S.c
    refine RPut_ok (A.cmd.ext M6.X) S.c fun r h7 R7 X7 => ?_
    have M7 := M6.ext X7
    refine M7.btext R7.slc R7.pb (isB_cmdL A.cmd A.nb) (c := 300000) cl (by omega) (by omega) fun s8 h8 l8 e8 n8 M8 => ?_
    refine ⟨n.f_Index, C M8.X rfl, ?_⟩
    refine M8.short A.r3.1 A.r3.2 (by omega) fun s9 h9 l9 e9 n9 M9 => ?_
    refine ⟨n.f_Ids, C M9.X rfl, ?_⟩
    have il := A.ia.l
    have si := S.i
    rw [il, wrapU64 (by omega) (by omega)]
    refine M9.short (by omega) (by omega) (by omega) fun s10 h10 l10 e10 n10 M10 => ?_
    refine RNote_l2_ok A S P M10 (by omega) fun s11 h11 M11 => H _ _ ?_
    have : l10 = pre ++ ps.flatMap pieceL ++ midL n wr ids := by
      rw [e10, e9, e8, e6, e5, e4, e3, e2, e1, List.take_of_length_le (by omega), midL]; simp only [List.append_assoc, wideL]
      rfl
    rw [← this]; exact M11
end
theorem RNote_ok {n : S_api_Note} {ps : List S_api_Piece} {ids : List S_api_Id} {wr : List Int} {vs : List S_api_Entry} {es : List Ent} {snap : List Int} {k : Slc → Heap → Prop} {h : Heap} (A : NoteAt h n ps ids wr vs es snap) (S : NoteSm n ps ids wr es snap) (H : Lays' h (noteL n ps ids wr es snap) k) : ref27_Form n k h := by
  unfold ref27_Form
  refine ⟨_, _, rfl, rfl, ?_⟩
  have P := Blk.push h (S_api_Note.cs n) 42
  have W := Ext.push h (.cells (S_api_Note.cs n).toArray 42) (Nat.le_refl _)
  obtain ⟨h2, e2⟩ : ∃ y, y = h.push (.cells (S_api_Note.cs n).toArray 42) := ⟨_, rfl⟩
  rw [← e2] at P W ⊢
  have pl := P.lt
  have A2 := A.ext W
  have z2 := W.size
  have st := S.t
  have sp := S.p
  have al := A.pa.l
  have C : ∀ {h' : Heap} {i : Nat} {v : Value}, Ext h2.size h2 h' → (S_api_Note.cs n)[i]? = some v → cellH h' ((⟨h.size, 0, none⟩ : Addr).add i) = some v := fun X hv => by rw [add_mk, (P.ext X pl).cell, Nat.zero_add]; exact hv
  refine ⟨_, by rw [P.cell]; rfl, _, _, rfl, rfl, ?_⟩
  have Q := Blk.push h2 (b8 [n.f_Kind % 256]) 5
  have W3 := Ext.push h2 (.cells (b8 [n.f_Kind % 256]).toArray 5) (Nat.le_refl _)
  rw [wU8]
  obtain ⟨h3, e3⟩ : ∃ y, y = h2.push (.cells (b8 [n.f_Kind % 256]).toArray 5) := ⟨_, rfl⟩
  rw [show (Value.int .u8 (n.f_Kind % 256)) :: [] = b8 [n.f_Kind % 256] from rfl, ← e3]
  rw [← e3] at Q W3
  have M3 : Ac h2 h3 ⟨some ⟨h2.size, 0, none⟩, 1, 1⟩ [n.f_Kind % 256] := ⟨W3, Row.of_blk (zs := []) (by simpa using Q) (Nat.le_refl _) rfl rfl (by simp [maxLen])⟩
  have n3 : ([n.f_Kind % 256] : List Int).length = 1 := rfl
  generalize e3' : [n.f_Kind % 256] = l3 at *
  refine ⟨_, C M3.X rfl, M3.short A.r1.1 A.r1.2 (by omega) fun s4 h4 l4 e4 n4 M4 => ?_⟩
  refine ⟨_, C M4.X rfl, M4.short A.r2.1 A.r2.2 (by omega) fun s5 h5 l5 e5 n5 M5 => ?_⟩
  refine ⟨n.f_E, C M5.X rfl, ?_⟩
  rw [wU8]
  refine M5.one (by omega) fun s6 h6 l6 e6 n6 M6 => ?_
  refine ⟨n.f_Tenant, C M6.X rfl, M6.text (c := 10000) st (by omega) (by omega) fun s7 h7 l7 e7 n7 M7 => ?_⟩
  refine ⟨n.f_Pieces, C M7.X rfl, ?_⟩
  rw [al, wrapU64 (by omega) (by omega)]
  refine M7.short (by omega) (by omega) (by omega) fun s8 h8 l8 e8 n8 M8 => ?_
  refine RNote_l1_ok A2 S P M8 (by omega) fun s9 h9 M9 => ?_
  refine H s9 h9 ?_ (W.trans (M9.X.mono z2))
  have : l8 ++ ps.flatMap pieceL ++ midL n wr ids ++ tailL n ids es snap = noteL n ps ids wr es snap := by
    rw [e8, e7, e6, e5, e4, ← e3', noteL]
  rw [← this]; exact M9.R.mono z2
end Go.Q.Yb
