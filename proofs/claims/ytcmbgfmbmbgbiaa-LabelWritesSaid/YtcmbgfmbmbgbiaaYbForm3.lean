/- A part of the proof of statements of this seat: lemmas, no statement of their own. -/
import Derived.Test.YtcmbgfmbmbgbiaaYbForm2
set_option linter.unusedVariables false
set_option linter.unusedSimpArgs false
namespace Go.Q.Yb
def wideL (n : Int) : List Int := formL (n % 18446744073709551616) 8
def pieceL (p : S_api_Piece) : List Int := textL p.f_Series ++ wideL p.f_T ++ wideL p.f_V ++ idL p.f_Id
theorem wideL_len (n : Int) : (wideL n).length = 8 := formL_length _ _
theorem idL_len (x : S_api_Id) : (idL x).length = 10 := by simp [idL, formL_length]
theorem wide_ok' {p0 : Slc} {l : List Int} {n : Int} {k : Slc → Heap → Prop} {h : Heap} (hl : p0.len = l.length) (hs : SlcAt h p0 (b8 l)) (hsz : l.length ≤ 35184372088832)
    (H : Lays' h (l ++ wideL n) k) : pack_wide p0 n k h := wide_ok hl hs hsz H
/-- the end of a note's form -/
def tailL (n : S_api_Note) (ids : List S_api_Id) (es : List Ent) (snap : List Int) : List Int := ids.flatMap idL ++ [n.f_Share.f_X] ++ nrm 32 n.f_Share.f_Y ++ tx (msgL n.f_M es snap)
def midL (n : S_api_Note) (wr : List Int) (ids : List S_api_Id) : List Int :=
  textL n.f_Q.f_Select ++ wideL n.f_Q.f_From ++ wideL n.f_Q.f_To ++ wideL n.f_Q.f_Step ++ [n.f_Q.f_Agg % 256] ++ tx (cmdL n.f_Cmd wr) ++ shortL n.f_Index ++ shortL ids.length
def noteL (n : S_api_Note) (ps : List S_api_Piece) (ids : List S_api_Id) (wr : List Int) (es : List Ent) (snap : List Int) : List Int :=
  [n.f_Kind % 256] ++ shortL n.f_Op ++ shortL n.f_Boot ++ [n.f_E % 256] ++ textL n.f_Tenant ++ shortL ps.length ++ ps.flatMap pieceL ++ midL n wr ids ++ tailL n ids es snap
structure NoteAt (h : Heap) (n : S_api_Note) (ps : List S_api_Piece) (ids : List S_api_Id) (wr : List Int) (vs : List S_api_Entry) (es : List Ent) (snap : List Int) : Prop where
  pa : LsAt S_api_Piece.cs 5 h n.f_Pieces ps
  ia : LsAt S_api_Id.cs 2 h n.f_Ids ids
  cmd : CmdAt h n.f_Cmd wr
  msg : MsgAt h n.f_M vs es snap
  r1 : 0 ≤ n.f_Op ∧ n.f_Op < 18446744073709551616
  r2 : 0 ≤ n.f_Boot ∧ n.f_Boot < 18446744073709551616
  r3 : 0 ≤ n.f_Index ∧ n.f_Index < 18446744073709551616
  pr : ∀ p ∈ ps, 0 ≤ p.f_Id.f_N ∧ 0 ≤ p.f_Id.f_Node ∧ p.f_Id.f_Node < 65536 ∧ p.f_Id.f_N < 18446744073709551616
  nb : isB n.f_Cmd.f_Nonce
  ir : ∀ x ∈ ids, 0 ≤ x.f_N ∧ 0 ≤ x.f_Node ∧ x.f_Node < 65536 ∧ x.f_N < 18446744073709551616
structure NoteSm (n : S_api_Note) (ps : List S_api_Piece) (ids : List S_api_Id) (wr : List Int) (es : List Ent) (snap : List Int) : Prop where
  t : n.f_Tenant.size ≤ 10000
  q : n.f_Q.f_Select.size ≤ 10000
  p : ps.length ≤ 1000
  s : ∀ p ∈ ps, p.f_Series.size ≤ 10000
  i : ids.length ≤ 1000
  c : CmdSm n.f_Cmd wr
  m : MsgSm es snap
theorem NoteAt.ext {h h' : Heap} {n : S_api_Note} {ps : List S_api_Piece} {ids : List S_api_Id} {wr : List Int} {vs : List S_api_Entry} {es : List Ent} {snap : List Int} (A : NoteAt h n ps ids wr vs es snap) (X : Ext h.size h h') : NoteAt h' n ps ids wr vs es snap :=
  ⟨A.pa.ext X, A.ia.ext X, A.cmd.ext X, A.msg.ext X, A.r1, A.r2, A.r3, A.pr, A.nb, A.ir⟩
theorem pieceL_len {p : S_api_Piece} (h : p.f_Series.size ≤ 10000) : (pieceL p).length ≤ 10050 := by
  have := textL_len p.f_Series
  unfold pieceL
  simp only [List.length_append, wideL_len, idL_len]; omega
theorem isB_app {l m : List Int} (h : isB l) (k : isB m) : isB (l ++ m) := fun b hb => (List.mem_append.1 hb).elim (h b) (k b)
theorem isB_nrm {n : Nat} {l : List Int} (h : isB l) : isB (nrm n l) := by
  intro b hb
  simp only [nrm, List.mem_map, List.mem_range] at hb
  obtain ⟨i, hi, rfl⟩ := hb
  rw [List.getD_eq_getElem?_getD]
  cases hl : l[i]? with
  | none => simp
  | some x => exact h x (List.mem_of_getElem? hl)
theorem isB_one {x : Int} (h : 0 ≤ x ∧ x < 256) : isB [x] := by intro b hb; simp at hb; subst hb; exact h
theorem shortL_B {n : Int} (h : 0 ≤ n) : isB (shortL n) := shortF_B 10 n h
theorem tx_B {l : List Int} (h : isB l) : isB (tx l) := isB_app (shortL_B (by omega)) h
theorem textL_B (t : ByteArray) : isB (textL t) := isB_app (shortL_B (by omega)) (sB_isB t)
theorem isB_flat {α : Type} {f : α → List Int} : ∀ {l : List α}, (∀ x ∈ l, isB (f x)) → isB (l.flatMap f)
  | [], _ => by intro b hb; simp at hb
  | x :: l, h => by
    rw [List.flatMap_cons]
    exact isB_app (h x (by simp)) (isB_flat fun y hy => h y (List.mem_cons_of_mem _ hy))
theorem msgL_B {h : Heap} {m : S_api_Msg} {vs : List S_api_Entry} {es : List Ent} {snap : List Int} (A : MsgAt h m vs es snap) : isB (msgL m es snap) := by
  unfold msgL
  refine isB_app (isB_app (isB_app (isB_app (isB_app (isB_app (isB_app (isB_app (isB_one (by omega)) (shortL_B A.r1.1)) (shortL_B A.r2.1)) (shortL_B A.r3.1)) (shortL_B A.r4.1)) (isB_one (by split <;> omega))) (shortL_B (by omega))) (isB_flat fun e he => ?_)) (tx_B A.sb)
  have := A.er e he
  exact isB_app (shortL_B this.1.1) (tx_B this.2)
theorem cmdL_B {h : Heap} {c : S_api_Command} {wr : List Int} (A : CmdAt h c wr) (nb : isB c.f_Nonce) : isB (cmdL c wr) := by
  unfold cmdL
  exact isB_app (isB_app (isB_app (isB_app (isB_app (isB_one (by omega)) (textL_B _)) (formL_B _ _)) (isB_nrm nb)) (tx_B A.wb)) (formL_B _ _)
variable {n : S_api_Note} {ps : List S_api_Piece} {ids : List S_api_Id} {wr : List Int} {vs : List S_api_Entry} {es : List Ent} {snap : List Int}
theorem form_l2_ok {B b : Nat} {s : Slc} {pre : List Int} {k : Slc → Heap → Prop} {nx : Slc × Int → Heap → Prop} {h : Heap} (A : NoteAt h n ps ids wr vs es snap) (S : NoteSm n ps ids wr es snap) (P : Blk h b (S_api_Note.cs n) 42) (hb : b < B) (hB : B ≤ h.size)
    (AB : ∀ h', Ext B h h' → NoteAt h' n ps ids wr vs es snap) (R : Row B h 5 1 s (b8 pre)) (hp : pre.length ≤ 20000000) (H : ∀ s' h', Row B h' 5 1 s' (b8 (pre ++ tailL n ids es snap)) → Ext B h h' → k s' h') : pack_form_l2 ⟨b, 0, none⟩ n.f_Ids (n.f_Ids.len : Int) s 0 k nx h := by
  have nl := A.ia.l
  have sn := S.i
  refine ⟨fun q h' => ∃ cur, 0 ≤ q.2 ∧ q.2 ≤ ids.length ∧ Row B h' 5 1 q.1 (b8 cur) ∧ cur = pre ++ (ids.take q.2.toNat).flatMap idL ∧ Ext B h h', fun q _ => (ids.length - q.2).toNat, ⟨pre, by simp, by simp, R, by simp, Ext.refl _ _⟩, ?_⟩
  rintro s i h1 ⟨cur, i0, i1, R, hc, X⟩
  dsimp only at i0 i1 R hc
  have z := X.size
  have A1 := AB h1 X
  have P1 := P.ext X hb
  have lf := flat_len (f := idL) (c := 10) (l := ids.take i.toNat) fun x _ => Nat.le_of_eq (idL_len x)
  rw [List.length_take] at lf
  have lc : cur.length ≤ 20010000 := by
    rw [hc, List.length_append]
    have : min i.toNat ids.length * 10 ≤ 1000 * 10 := Nat.mul_le_mul_right _ (by omega)
    omega
  unfold pack_form_l2b
  by_cases hi : i < ids.length
  · rw [if_pos (by simp; omega)]
    have hx : ids[i.toNat]? = some (ids[i.toNat]'(by omega)) := by simp
    have rx := A.ir _ (List.mem_of_getElem? hx)
    generalize ids[i.toNat]'(by omega) = x at *
    obtain ⟨a, ha, C⟩ := A1.ia.at' _ _ hx
    refine ⟨a, ha, i0, by omega, x, C, _, _, rfl, rfl, ?_⟩
    have P0 := Blk.push h1 (S_api_Id.cs ⟨0, 0⟩) 48
    have K2 := P0.sets_all (vs := S_api_Id.cs x) rfl
    have W := (Ext.push h1 (.cells (S_api_Id.cs ⟨0, 0⟩).toArray 48) (Nat.le_refl _)).trans (Ext.sets _ (a := ⟨h1.size, 0, none⟩) 0 (S_api_Id.cs x) (Nat.le_refl _))
    refine ⟨_, WrsAt.of_blk P0 (by simp [S_api_Id.cs]), rfl, ?_⟩
    generalize setsH (h1.push (.cells (S_api_Id.cs ⟨0, 0⟩).toArray 48)) ⟨h1.size, 0, none⟩ 0 (S_api_Id.cs x) = h2 at *
    have z2 := W.size
    refine ⟨x, CellsAt.of_blk K2, ?_⟩
    have R2 := R.ext W fun g hg => (R.bd hg).2
    rw [wrapI64 (by omega) (by omega)]
    refine id_ok R2.pb R2.slc (by omega) rx.1 ⟨rx.2.1, rx.2.2.1⟩ fun s3 h3 R3 X3 => ?_
    refine ⟨⟨_, by dsimp only; omega, by dsimp only; omega, R3.mono (by omega), ?_, X.trans ((W.mono (by omega)).trans (X3.mono (by omega)))⟩, by dsimp only; omega⟩
    dsimp only
    rw [hc, show (i + 1).toNat = i.toNat + 1 from by omega, flat_snoc hx]
    simp only [List.append_assoc]
  · rw [if_neg (by simp; omega)]
    refine ⟨n.f_Share.f_X, by rw [add_mk, P1.cell]; rfl, _, by omega, by omega, by omega, rfl, _, _, rfl, rfl, ?_⟩
    have W2 := Ext.push h1 (.cells (b8 [n.f_Share.f_X]).toArray 5) (Nat.le_refl _)
    obtain ⟨h2, e2⟩ : ∃ z, z = h1.push (.cells (b8 [n.f_Share.f_X]).toArray 5) := ⟨_, rfl⟩
    rw [show (Value.int .u8 n.f_Share.f_X) :: [] = b8 [n.f_Share.f_X] from rfl, ← e2]
    rw [← e2] at W2
    have z2 := W2.size
    have R2 := R.ext W2 fun g hg => (R.bd hg).2
    refine AppB (m := [n.f_Share.f_X]) R2 (by omega) rfl (by simp; omega) fun s3 h3 R3 X3 => ?_
    have X13 : Ext B h1 h3 := (W2.mono (by omega)).trans X3
    have z3 := X13.size
    have P3 := P1.ext X13 hb
    have N3 : SlcAt h3 (subS ⟨some (((⟨b, 0, none⟩ : Addr).add 30).add 1), 32, 32⟩ 1 (0 : Int).toNat (32 : Int).toNat 32) (b8 (nrm 32 n.f_Share.f_Y)) := by
      have : (subS ⟨some (((⟨b, 0, none⟩ : Addr).add 30).add 1), 32, 32⟩ 1 (0 : Int).toNat (32 : Int).toNat 32) = ⟨some ⟨b, 31, none⟩, 32, 32⟩ := by simp [subS]
      rw [this]
      refine P3.slc (n := 32) ?_
      rw [show b8 (nrm 32 n.f_Share.f_Y) = arr 32 .u8 n.f_Share.f_Y from (arr_nrm _ _ _).symm]
      rfl
    refine ⟨_, N3, ?_⟩
    refine AppB R3 (by omega) (by rw [nrm_len]; rfl) (by simp only [List.length_append, List.length_cons, List.length_nil, formL_length, sB_len, nrm_len]; omega) fun s4 h4 R4 X4 => ?_
    have X14 := X13.trans X4
    have z4 := X14.size
    have P4 := P1.ext X14 hb
    have A4 := AB h4 (X.trans X14)
    refine ⟨n.f_M, ?_, ?_⟩
    · rw [add_mk]; exact P4.part (n := 8) rfl
    have ml := msgL_len (m := n.f_M) S.m
    refine mPut_ok A4.msg S.m fun s5 h5 R5 X5 => ?_
    have z5 := X5.size
    have mb : isB (msgL n.f_M es snap) := msgL_B A4.msg
    refine ⟨_, R5.pb.symm, R5.slc, ?_⟩
    have R45 := R4.ext X5 fun g hg => (R4.bd hg).2
    refine text_ok' R45.pb R45.slc (by simp only [List.length_append, List.length_cons, List.length_nil, formL_length, sB_len, nrm_len]; omega) (by rw [bsOf_size]; omega) fun s6 h6 R6 X6 => ?_
    rw [textL_bs mb] at R6
    refine H s6 h6 ?_ (X.trans (X14.trans ((X5.mono (by omega)).trans (X6.mono (by omega)))))
    rw [hc, show i.toNat = ids.length from by omega, List.take_length] at R6
    rw [show pre ++ tailL n ids es snap = pre ++ ids.flatMap idL ++ [n.f_Share.f_X] ++ nrm 32 n.f_Share.f_Y ++ tx (msgL n.f_M es snap) from by simp only [tailL, List.append_assoc]]
    exact R6.mono (by omega)
theorem form_l1_ok {b : Nat} {s : Slc} {pre : List Int} {k : Slc → Heap → Prop} {h : Heap} (A : NoteAt h n ps ids wr vs es snap) (S : NoteSm n ps ids wr es snap) (P : Blk h b (S_api_Note.cs n) 42)
    (hl : s.len = pre.length) (hs : SlcAt h s (b8 pre)) (hp : pre.length ≤ 20000) (H : Lays' h (pre ++ ps.flatMap pieceL ++ midL n wr ids ++ tailL n ids es snap) k) : pack_form_l1 ⟨b, 0, none⟩ n.f_Pieces (n.f_Pieces.len : Int) s 0 k h := by
  have nl := A.pa.l
  have sn := S.p
  refine ⟨fun q h' => ∃ cur, 0 ≤ q.2 ∧ q.2 ≤ ps.length ∧ SlcAt h' q.1 (b8 cur) ∧ q.1.len = cur.length ∧ cur = pre ++ (ps.take q.2.toNat).flatMap pieceL ∧ Ext h.size h h', fun q _ => (ps.length - q.2).toNat, ⟨pre, by simp, by simp, hs, hl, by simp, Ext.refl _ _⟩, ?_⟩
  rintro s i h1 ⟨cur, i0, i1, hs, hl, hc, X⟩
  dsimp only at i0 i1 hs hl hc
  have z := X.size
  have A1 := A.ext X
  have P1 := P.ext X P.lt
  have lf := flat_len (f := pieceL) (c := 10050) (l := ps.take i.toNat) fun x hx => pieceL_len (S.s x (List.mem_of_mem_take hx))
  rw [List.length_take] at lf
  have lc : cur.length ≤ 10070000 := by
    rw [hc, List.length_append]
    have : min i.toNat ps.length * 10050 ≤ 1000 * 10050 := Nat.mul_le_mul_right _ (by omega)
    omega
  unfold pack_form_l1b
  by_cases hi : i < ps.length
  · rw [if_pos (by simp; omega)]
    have hx : ps[i.toNat]? = some (ps[i.toNat]'(by omega)) := by simp
    have rx := A.pr _ (List.mem_of_getElem? hx)
    have sx := S.s _ (List.mem_of_getElem? hx)
    generalize ps[i.toNat]'(by omega) = x at *
    obtain ⟨a, ha, C⟩ := A1.pa.at' _ _ hx
    refine ⟨a, ha, i0, by omega, x, C, _, _, rfl, rfl, ?_⟩
    have P0 := Blk.push h1 (S_api_Piece.cs ⟨ByteArray.empty, 0, 0, ⟨0, 0⟩⟩) 50
    have K2 := P0.sets_all (vs := S_api_Piece.cs x) rfl
    have W := (Ext.push h1 (.cells (S_api_Piece.cs ⟨ByteArray.empty, 0, 0, ⟨0, 0⟩⟩).toArray 50) (Nat.le_refl _)).trans (Ext.sets _ (a := ⟨h1.size, 0, none⟩) 0 (S_api_Piece.cs x) (Nat.le_refl _))
    refine ⟨_, WrsAt.of_blk P0 (by simp [S_api_Piece.cs, S_api_Id.cs]), rfl, ?_⟩
    generalize setsH (h1.push (.cells (S_api_Piece.cs ⟨ByteArray.empty, 0, 0, ⟨0, 0⟩⟩).toArray 50)) ⟨h1.size, 0, none⟩ 0 (S_api_Piece.cs x) = h2 at *
    have z2 := W.size
    have kl := K2.lt
    have g1 : ∀ {h'}, Blk h' h1.size (S_api_Piece.cs x) 50 → cellH h' ((⟨h1.size, 0, none⟩ : Addr).add 1) = some (.int .i64 x.f_T) := fun K => by rw [add_mk, K.cell]; rfl
    have g2 : ∀ {h'}, Blk h' h1.size (S_api_Piece.cs x) 50 → cellH h' ((⟨h1.size, 0, none⟩ : Addr).add 2) = some (.int .i64 x.f_V) := fun K => by rw [add_mk, K.cell]; rfl
    have g3 : ∀ {h'}, Blk h' h1.size (S_api_Piece.cs x) 50 → CellsAt h' ((⟨h1.size, 0, none⟩ : Addr).add 3) (S_api_Id.cs x.f_Id) := fun K => by rw [add_mk]; exact K.part (n := 2) rfl
    refine ⟨_, by rw [K2.cell]; rfl, _, g1 K2, _, g2 K2, _, g3 K2, ?_⟩
    rw [wrapI64 (by omega) (by omega)]
    refine text_ok' hl (hs.ext W) (by omega) (by omega) fun s3 h3 R3 X3 => ?_
    have z3 := X3.size
    have K3 := K2.ext X3 kl
    have l1 := textL_len x.f_Series
    refine ⟨g3 K3, g2 K3, g1 K3, wide_ok' R3.pb R3.slc (by simp only [List.length_append, List.length_cons, List.length_nil, formL_length, sB_len, nrm_len]; omega) fun s4 h4 R4 X4 => ?_⟩
    have z4 := X4.size
    have K4 := K3.ext X4 K3.lt
    refine ⟨g3 K4, g2 K4, wide_ok' R4.pb R4.slc (by simp only [List.length_append, wideL_len]; omega) fun s5 h5 R5 X5 => ?_⟩
    have z5 := X5.size
    have K5 := K4.ext X5 K4.lt
    refine ⟨g3 K5, id_ok R5.pb R5.slc (by simp only [List.length_append, wideL_len]; omega) rx.1 ⟨rx.2.1, rx.2.2.1⟩ fun s6 h6 R6 X6 => ?_⟩
    refine ⟨⟨_, by dsimp only; omega, by dsimp only; omega, R6.slc, R6.pb, ?_, X.trans ((W.mono z).trans ((X3.mono (by omega)).trans ((X4.mono (by omega)).trans ((X5.mono (by omega)).trans (X6.mono (by omega))))))⟩, by dsimp only; omega⟩
    dsimp only
    rw [hc, show (i + 1).toNat = i.toNat + 1 from by omega, flat_snoc hx, pieceL]
    simp only [List.append_assoc]
  · rw [if_neg (by simp; omega)]
    have sq := S.q
    have tl := textL_len n.f_Q.f_Select
    have g1 : ∀ {h'}, Blk h' b (S_api_Note.cs n) 42 → cellH h' (((⟨b, 0, none⟩ : Addr).add 6).add 1) = some (.int .i64 n.f_Q.f_From) := fun K => by rw [add_mk, add_mk, K.cell]; rfl
    have g2 : ∀ {h'}, Blk h' b (S_api_Note.cs n) 42 → cellH h' (((⟨b, 0, none⟩ : Addr).add 6).add 2) = some (.int .i64 n.f_Q.f_To) := fun K => by rw [add_mk, add_mk, K.cell]; rfl
    have g4 : ∀ {h'}, Blk h' b (S_api_Note.cs n) 42 → cellH h' (((⟨b, 0, none⟩ : Addr).add 6).add 4) = some (.int .i64 n.f_Q.f_Step) := fun K => by rw [add_mk, add_mk, K.cell]; rfl
    have g5 : ∀ {h'}, Blk h' b (S_api_Note.cs n) 42 → CellsAt h' ((⟨b, 0, none⟩ : Addr).add 11) (S_api_Command.cs n.f_Cmd) := fun K => by rw [add_mk]; exact K.part (n := 17) rfl
    refine ⟨_, by rw [add_mk, P1.cell]; rfl, _, g1 P1, _, g2 P1, _, g4 P1, ?_⟩
    refine text_ok' hl hs (by omega) (by omega) fun s2 h2 R2 X2 => ?_
    have z2 := X2.size
    have P2 := P1.ext X2 P1.lt
    refine ⟨g4 P2, g2 P2, g1 P2, wide_ok' R2.pb R2.slc (by simp only [List.length_append]; omega) fun s3 h3 R3 X3 => ?_⟩
    have z3 := X3.size
    have P3 := P2.ext X3 P2.lt
    refine ⟨g4 P3, g2 P3, wide_ok' R3.pb R3.slc (by simp only [List.length_append, wideL_len]; omega) fun s4 h4 R4 X4 => ?_⟩
    have z4 := X4.size
    have P4 := P3.ext X4 P3.lt
    refine ⟨g4 P4, wide_ok' R4.pb R4.slc (by simp only [List.length_append, wideL_len]; omega) fun s5 h5 R5 X5 => ?_⟩
    have z5 := X5.size
    have P5 := P4.ext X5 P4.lt
    refine ⟨n.f_Q.f_Agg, by rw [add_mk, add_mk, P5.cell]; rfl, n.f_Cmd, g5 P5, ?_⟩
    rw [wU8]
    refine ⟨_, _, rfl, rfl, ?_⟩
    have W6 := Ext.push h5 (.cells (b8 [n.f_Q.f_Agg % 256]).toArray 5) (Nat.le_refl _)
    obtain ⟨h6, e6⟩ : ∃ z, z = h5.push (.cells (b8 [n.f_Q.f_Agg % 256]).toArray 5) := ⟨_, rfl⟩
    rw [show (Value.int .u8 (n.f_Q.f_Agg % 256)) :: [] = b8 [n.f_Q.f_Agg % 256] from rfl, ← e6]
    rw [← e6] at W6
    have z6 := W6.size
    have P6 := P5.ext W6 P5.lt
    have R56 := (R5.ext W6 fun g hg => (R5.bd hg).2)
    refine ⟨g5 P6, ?_⟩
    refine AppB (m := [n.f_Q.f_Agg % 256]) R56 (by omega) rfl (by simp only [List.length_append, wideL_len, List.length_cons, List.length_nil]; omega) fun s7 h7 R7 X7 => ?_
    have X17 : Ext h1.size h1 h7 := X2.trans ((X3.mono (by omega)).trans ((X4.mono (by omega)).trans ((X5.mono (by omega)).trans ((W6.mono (by omega)).trans (X7.mono (by omega))))))
    have z7 := X17.size
    have P7 := P1.ext X17 P1.lt
    have A7 := A1.ext X17
    refine ⟨g5 P7, rPut_ok A7.cmd S.c fun s8 h8 R8 X8 => ?_⟩
    have z8 := X8.size
    have cl := cmdL_len S.c
    have cb := cmdL_B A.cmd A.nb
    have R78 := R7.ext X8 fun g hg => (R7.bd hg).2
    refine ⟨_, R8.pb.symm, R8.slc, text_ok' R78.pb R78.slc (by simp only [List.length_append, wideL_len, List.length_cons, List.length_nil]; omega) (by rw [bsOf_size]; omega) fun s9 h9 R9 X9 => ?_⟩
    rw [textL_bs cb] at R9
    have X19 : Ext h1.size h1 h9 := X17.trans ((X8.mono z7).trans (X9.mono (by omega)))
    have z9 := X19.size
    have P9 := P1.ext X19 P1.lt
    have A9 := A1.ext X19
    have cl2 := tx_len (cmdL n.f_Cmd wr)
    have g6 : ∀ {h'}, Blk h' b (S_api_Note.cs n) 42 → cellH h' ((⟨b, 0, none⟩ : Addr).add 29) = some (Slc.v n.f_Ids) := fun K => by rw [add_mk, K.cell]; rfl
    refine ⟨n.f_Index, by rw [add_mk, P9.cell]; rfl, n.f_Ids, g6 P9, ?_⟩
    refine PutShort_ok R9.pb R9.slc (by simp only [List.length_append, wideL_len, List.length_cons, List.length_nil]; omega) A.r3.1 A.r3.2 fun s10 h10 R10 X10 => ?_
    have z10 := X10.size
    have P10 := P9.ext X10 P9.lt
    have sl1 := shortL_len n.f_Index
    have sl2 := shortL_len ids.length
    have il := A.ia.l
    have si := S.i
    refine ⟨g6 P10, ?_⟩
    rw [wrapU64 (x := (n.f_Ids.len : Int)) (by omega) (by omega), il]
    refine PutShort_ok R10.pb R10.slc (by simp only [List.length_append, wideL_len, List.length_cons, List.length_nil]; omega) (by omega) (by omega) fun s11 h11 R11 X11 => ?_
    have X111 : Ext h1.size h1 h11 := X19.trans ((X10.mono z9).trans (X11.mono (by omega)))
    have z11 := X111.size
    have P11 := P1.ext X111 P1.lt
    refine ⟨n.f_Ids, g6 P11, ?_⟩
    have hbl := P1.lt
    refine form_l2_ok (B := h1.size) (A1.ext X111) S P11 hbl z11 (fun h' Y => A1.ext (X111.trans Y)) (R11.mono (by omega)) (by simp only [List.length_append, wideL_len, List.length_cons, List.length_nil]; omega) fun s12 h12 R12 X12 => ?_
    refine H s12 h12 ?_ (X.trans ((X111.trans X12).mono z))
    rw [hc, show i.toNat = ps.length from by omega, List.take_length] at R12
    rw [show pre ++ ps.flatMap pieceL ++ midL n wr ids ++ tailL n ids es snap = pre ++ ps.flatMap pieceL ++ textL n.f_Q.f_Select ++ wideL n.f_Q.f_From ++ wideL n.f_Q.f_To ++ wideL n.f_Q.f_Step ++ [n.f_Q.f_Agg % 256] ++ tx (cmdL n.f_Cmd wr) ++ shortL n.f_Index ++ shortL ids.length ++ tailL n ids es snap from by simp only [midL, List.append_assoc]]
    exact R12.mono z
theorem form_ok {k : Slc → Heap → Prop} {h : Heap} (A : NoteAt h n ps ids wr vs es snap) (S : NoteSm n ps ids wr es snap) (H : Lays' h (noteL n ps ids wr es snap) k) : pack_form n k h := by
  have st := S.t
  have tl := textL_len n.f_Tenant
  have sl1 := shortL_len n.f_Op
  have sl2 := shortL_len n.f_Boot
  have sl3 := shortL_len ps.length
  have pl := A.pa.l
  have sp := S.p
  unfold pack_form
  refine ⟨_, _, rfl, rfl, ?_⟩
  have P := Blk.push h (S_api_Note.cs n) 42
  have W := Ext.push h (.cells (S_api_Note.cs n).toArray 42) (Nat.le_refl _)
  obtain ⟨h2, e2⟩ : ∃ y, y = h.push (.cells (S_api_Note.cs n).toArray 42) := ⟨_, rfl⟩
  rw [← e2] at P W ⊢
  have z2 := W.size
  have g0 : ∀ {h'}, Blk h' h.size (S_api_Note.cs n) 42 → cellH h' (⟨h.size, 0, none⟩ : Addr) = some (.int .i64 n.f_Kind) := fun K => by rw [K.cell]; rfl
  have g1 : ∀ {h'}, Blk h' h.size (S_api_Note.cs n) 42 → cellH h' ((⟨h.size, 0, none⟩ : Addr).add 1) = some (.int .u64 n.f_Op) := fun K => by rw [add_mk, K.cell]; rfl
  have g2 : ∀ {h'}, Blk h' h.size (S_api_Note.cs n) 42 → cellH h' ((⟨h.size, 0, none⟩ : Addr).add 2) = some (.int .u64 n.f_Boot) := fun K => by rw [add_mk, K.cell]; rfl
  have g3 : ∀ {h'}, Blk h' h.size (S_api_Note.cs n) 42 → cellH h' ((⟨h.size, 0, none⟩ : Addr).add 3) = some (.int .i64 n.f_E) := fun K => by rw [add_mk, K.cell]; rfl
  have g4 : ∀ {h'}, Blk h' h.size (S_api_Note.cs n) 42 → cellH h' ((⟨h.size, 0, none⟩ : Addr).add 4) = some (.string n.f_Tenant) := fun K => by rw [add_mk, K.cell]; rfl
  have g5 : ∀ {h'}, Blk h' h.size (S_api_Note.cs n) 42 → cellH h' ((⟨h.size, 0, none⟩ : Addr).add 5) = some (Slc.v n.f_Pieces) := fun K => by rw [add_mk, K.cell]; rfl
  refine ⟨_, g0 P, _, g1 P, _, g2 P, ?_⟩
  rw [wU8]
  refine ⟨_, _, rfl, rfl, ?_⟩
  have Q := Blk.push h2 (b8 [n.f_Kind % 256]) 5
  have W3 := Ext.push h2 (.cells (b8 [n.f_Kind % 256]).toArray 5) (Nat.le_refl _)
  obtain ⟨h3, e3⟩ : ∃ y, y = h2.push (.cells (b8 [n.f_Kind % 256]).toArray 5) := ⟨_, rfl⟩
  rw [show (Value.int .u8 (n.f_Kind % 256)) :: [] = b8 [n.f_Kind % 256] from rfl, ← e3]
  rw [← e3] at Q W3
  have z3 := W3.size
  have P3 := P.ext W3 P.lt
  have S3 : SlcAt h3 ⟨some ⟨h2.size, 0, none⟩, 1, 1⟩ (b8 [n.f_Kind % 256]) := Q.slc (o := 0) (n := 1) rfl
  refine ⟨g2 P3, g1 P3, PutShort_ok rfl S3 (by simp) A.r1.1 A.r1.2 fun s4 h4 R4 X4 => ?_⟩
  have z4 := X4.size
  have P4 := P3.ext X4 P3.lt
  refine ⟨g2 P4, PutShort_ok R4.pb R4.slc (by simp only [List.length_append, List.length_cons, List.length_nil]; omega) A.r2.1 A.r2.2 fun s5 h5 R5 X5 => ?_⟩
  have z5 := X5.size
  have P5 := P4.ext X5 P4.lt
  refine ⟨_, g3 P5, _, g4 P5, ?_⟩
  rw [wU8]
  refine ⟨_, _, rfl, rfl, ?_⟩
  have W6 := Ext.push h5 (.cells (b8 [n.f_E % 256]).toArray 5) (Nat.le_refl _)
  obtain ⟨h6, e6⟩ : ∃ z, z = h5.push (.cells (b8 [n.f_E % 256]).toArray 5) := ⟨_, rfl⟩
  rw [show (Value.int .u8 (n.f_E % 256)) :: [] = b8 [n.f_E % 256] from rfl, ← e6]
  rw [← e6] at W6
  have z6 := W6.size
  have P6 := P5.ext W6 P5.lt
  have R56 := (R5.ext W6 fun g hg => (R5.bd hg).2)
  refine ⟨g4 P6, ?_⟩
  have pb : h.size < h2.size := P.lt
  refine AppB (m := [n.f_E % 256]) R56 (by omega) rfl (by simp only [List.length_append, List.length_cons, List.length_nil]; omega) fun s7 h7 R7 X7 => ?_
  have X27 : Ext h2.size h2 h7 := W3.trans ((X4.mono (by omega)).trans ((X5.mono (by omega)).trans ((W6.mono (by omega)).trans (X7.mono (by omega)))))
  have z7 := X27.size
  have P7 := P.ext X27 pb
  refine ⟨g4 P7, text_ok' R7.pb R7.slc (by simp only [List.length_append, List.length_cons, List.length_nil]; omega) (by omega) fun s8 h8 R8 X8 => ?_⟩
  have z8 := X8.size
  have P8 := P7.ext X8 P7.lt
  refine ⟨_, g5 P8, ?_⟩
  rw [wrapU64 (x := (n.f_Pieces.len : Int)) (by omega) (by omega)]
  refine PutShort_ok R8.pb R8.slc (by simp only [List.length_append, List.length_cons, List.length_nil]; omega) (by omega) (by omega) fun s9 h9 R9 X9 => ?_
  have X29 : Ext h2.size h2 h9 := X27.trans ((X8.mono z7).trans (X9.mono (by omega)))
  have z9 := X29.size
  have P9 := P.ext X29 pb
  refine ⟨_, g5 P9, ?_⟩
  rw [pl] at R9
  have A9 := (A.ext W).ext X29
  refine form_l1_ok A9 S P9 R9.pb R9.slc (by simp only [List.length_append, List.length_cons, List.length_nil]; omega) fun s10 h10 R10 X10 => ?_
  refine H s10 h10 (R10.mono (by omega)) (W.trans ((X29.trans (X10.mono z9)).mono z2))
end Go.Q.Yb
