/- A part of the proof of statements of this seat: lemmas, no statement of their own. -/
import Derived.Test.YtcmbgfmbmbgbiaaYbGet3
import Derived.Test.YtcmbgfmbmbgbiaaYbRd3
import Derived.Test.YtcmbgfmbmbgbiaaYbChk
set_option linter.unusedVariables false
set_option linter.unusedSimpArgs false
namespace Go.Q.Yb
abbrev zCmd : S_api_Command := ⟨0, ByteArray.empty, 0, [], ⟨none, 0, 0⟩, 0⟩
abbrev zNote : S_api_Note := ⟨0, 0, 0, 0, ByteArray.empty, ⟨none, 0, 0⟩, ⟨ByteArray.empty, 0, 0, 0, 0⟩, zCmd, 0, ⟨none, 0, 0⟩, ⟨0, []⟩, zMsg⟩
theorem form1 {x : Int} (x0 : 0 ≤ x) (x1 : x < 256) : formL x 1 = [x] := by simp [formL]; omega
theorem ncs_len (n : S_api_Note) : (S_api_Note.cs n).length = 71 := rfl
theorem Row.cap {B E w : Nat} {h : Heap} {s : Slc} {xs : List Value} (R : Row B h E w s xs) : s.len ≤ s.cap := by
  rcases R.2.2 with ⟨_, a, b⟩ | ⟨g, cur, _, _, _, a, _⟩
  · omega
  · exact a
section
variable {h : Heap} {r : Nat} {l : List Int} {bad : Bool}
theorem packr_text3 {k : ByteArray → Heap → Prop} (R : Rd 173 h r l bad)
    (H : ∀ t l' b' h', Rd 173 h' r l' b' → Upd r h h' → (t = ByteArray.empty ∨ (bad = false ∧ l = textL t ++ l')) → (b' = false → bad = false ∧ l = textL t ++ l') → k t h') : pack_reader_text (some ⟨r, 0, none⟩) k h :=
  packr_text_ok R (fun t l' h' b e R' U => H t l' false h' R' U (.inr ⟨b, e⟩) fun _ => ⟨b, e⟩) fun l' h' R' U => H _ l' true h' R' U (.inl rfl) fun h => by cases h
theorem packr_bytes2 {n : Int} {k : Slc → Heap → Prop} (R : Rd 173 h r l bad) (n0 : 0 ≤ n)
    (H : ∀ (s : Slc) (x l' : List Int) (b' : Bool) (h' : Heap), Rd 173 h' r l' b' → Upd r h h' → SlcAt h' s (b8 x) → s.len = x.length → (x = [] ∨ x.length = n.toNat) → isB x → (b' = false → bad = false ∧ l = x ++ l' ∧ x.length = n.toNat) → k s h') : pack_reader_bytes (some ⟨r, 0, none⟩) n k h := by
  have hB := R.isB
  refine packr_bytes_ok R n0 (fun s h' b hn R' U S ls cs => ?_) fun h' R' U => ?_
  · have hl : (l.take n.toNat).length = n.toNat := by rw [List.length_take]; omega
    exact H s (l.take n.toNat) _ false h' R' U (S h' (Ext.refl _ _)) (by omega) (.inr hl) (isB_take hB _) fun _ => ⟨b, (List.take_append_drop _ _).symm, hl⟩
  · exact H _ [] l true h' R' U ⟨fun _ => rfl, fun a ha => by cases ha⟩ rfl (.inl rfl) (by intro b hb; cases hb) fun h => by cases h
end
structure GS (h0 h : Heap) (r q : Nat) (l : List Int) (b : Bool) (n : S_api_Note) (p : Heap → Prop) : Prop where
  P : Blk h h0.size (S_api_Note.cs zNote) 42
  R : Rd 173 h r l b
  Q : Blk h q (S_api_Note.cs n) 42
  K : Held (q + 1) h p
  X : Ext h0.size h0 h
  o1 : h0.size < r
  o2 : r < q
section
variable {h0 h h' : Heap} {r q : Nat} {l l' : List Int} {b b' : Bool} {n n' : S_api_Note} {p p' : Heap → Prop}
theorem GS.upd (M : GS h0 h r q l b n p) (U : Upd r h h') (R : Rd 173 h' r l' b') : GS h0 h' r q l' b' n p :=
  have o1 := M.o1
  have o2 := M.o2
  have xs := M.X.size
  ⟨U.blk M.P (by omega), R, U.blk M.Q (by omega), M.K.step U.size fun g g1 g2 => U.block g g2 (by omega), M.X.trans (U.ext (by omega) xs), o1, o2⟩
theorem GS.ext (M : GS h0 h r q l b n p) (X : Ext h.size h h') : GS h0 h' r q l b n p := M.upd (Upd.of_ext X) (M.R.ext (X.mono M.R.lt))
theorem GS.and (M : GS h0 h r q l b n p) (K : Held (q + 1) h p') : GS h0 h r q l b n (fun h' => p h' ∧ p' h') := ⟨M.P, M.R, M.Q, fun h' e => ⟨M.K h' e, K h' e⟩, M.X, M.o1, M.o2⟩
theorem GS.imp (M : GS h0 h r q l b n p) (K : ∀ h', p h' → p' h') : GS h0 h r q l b n p' := ⟨M.P, M.R, M.Q, M.K.imp K, M.X, M.o1, M.o2⟩
theorem GS.put (M : GS h0 h r q l b n p) (Q : Blk h' q (S_api_Note.cs n') 42) (z : h'.size = h.size) (o : ∀ g, g ≠ q → h'[g]? = h[g]?) : GS h0 h' r q l b n' p :=
  have o1 := M.o1
  have o2 := M.o2
  have X : Ext q h h' := ⟨by omega, fun g hg => o g (by omega)⟩
  ⟨M.P.old (o _ (by omega)), M.R.ext (X.mono (by omega)), Q, M.K.step (by omega) fun g g1 g2 => o g (by omega), M.X.trans (X.mono (by omega)), o1, o2⟩
theorem GS.set1 (M : GS h0 h r q l b n p) {i : Nat} {v : Value} (hn : (S_api_Note.cs n).set i v = S_api_Note.cs n') : GS h0 (setH h ⟨q, i, none⟩ v) r q l b n' p :=
  M.put (by rw [← hn]; exact M.Q.set) setH_size fun g hg => setH_other hg
theorem GS.setN (M : GS h0 h r q l b n p) {i : Nat} {vs : List Value} (hi : i + vs.length ≤ 71) (hn : (S_api_Note.cs n).take i ++ vs ++ (S_api_Note.cs n).drop (i + vs.length) = S_api_Note.cs n') : GS h0 (setsH h ⟨q, i, none⟩ 0 vs) r q l b n' p :=
  M.put (by have := M.Q.sets vs i 0 (by rw [ncs_len]; omega); rw [Nat.add_zero, hn] at this; exact this) (setsH_size _ _) fun g hg => setsH_other _ _ hg
theorem GS.flag (M : GS h0 h r q l b n p) (c : Bool) : GS h0 (setH h ⟨r, 1, none⟩ (.bool c)) r q l c n p := by
  obtain ⟨s, K, S, sl, sc, hB, hz⟩ := M.R
  have U : Upd r h (setH h ⟨r, 1, none⟩ (.bool c)) := ⟨by rw [setH_size]; exact Nat.le_refl _, fun g _ hg => setH_other hg⟩
  have rl := K.lt
  exact M.upd U ⟨s, K.set, fun h' X => S h' ((U.ext (Nat.le_refl _) (by omega)).trans X), sl, sc, hB, hz⟩
theorem GS.wr (M : GS h0 h r q l b n p) {i : Nat} (hi : i < 71) : WrH h ((⟨q, 0, none⟩ : Addr).add i) := by rw [add_mk]; exact M.Q.wr (by rw [ncs_len]; omega)
theorem GS.wrs (M : GS h0 h r q l b n p) {i c : Nat} (hi : i + c ≤ 71) : WrsAt h ((⟨q, 0, none⟩ : Addr).add i) c := fun j hj => by rw [add_mk, add_mk]; exact M.Q.wr (by rw [ncs_len]; omega)
end
theorem Check_big {n : S_api_Note} {ps : List S_api_Piece} {ids : List S_api_Id} {k : Int → Heap → Prop} {h : Heap} (pl : n.f_Pieces.len = ps.length) (il : n.f_Ids.len = ids.length) (hb : ps.length > 32 ∨ ids.length > 64) (H : ∀ h', Ext h.size h h' → k 3 h') : pack_Check n k h := by
  unfold pack_Check
  refine ⟨_, _, rfl, rfl, ?_⟩
  have P := Blk.push h (S_api_Note.cs n) 42
  have W := Ext.push h (.cells (S_api_Note.cs n).toArray 42) (Nat.le_refl _)
  obtain ⟨h2, e2⟩ : ∃ y, y = h.push (.cells (S_api_Note.cs n).toArray 42) := ⟨_, rfl⟩
  rw [← e2] at P W ⊢
  refine ⟨n.f_Pieces, by rw [add_mk, P.cell]; rfl, ?_⟩
  by_cases h1 : ps.length > 32
  · rw [if_pos (by rw [decide_eq_true_eq]; omega)]
    unfold pack_Check_g1
    rw [if_pos rfl]; exact H _ W
  · rw [if_neg (by rw [decide_eq_true_eq]; omega)]
    refine ⟨n.f_Ids, by rw [add_mk, P.cell]; rfl, ?_⟩
    rw [show decide ((n.f_Ids.len : Int) > 64) = true from by rw [decide_eq_true_eq]; omega]
    unfold pack_Check_g1
    rw [if_pos rfl]; exact H _ W
section
variable {h0 h : Heap} {r q : Nat} {l : List Int} {b : Bool} {n : S_api_Note} {p : Heap → Prop} {k : S_api_Note × Int → Heap → Prop}
theorem pGet_bad (M : GS h0 h r q l b n p) (H2 : ∀ h', Ext h0.size h0 h' → k (zNote, 4) h') : pack_Get_g4 ⟨h0.size, 0, none⟩ ⟨q, 0, none⟩ true k h := by
  unfold pack_Get_g4
  rw [if_pos rfl]
  exact ⟨_, WrsAt.of_blk M.P (by rw [ncs_len]; omega), rfl, _, CellsAt.of_blk (M.P.sets_all (vs := S_api_Note.cs zNote) rfl), H2 _ (M.X.trans (Ext.sets _ _ _ (Nat.le_refl _)))⟩
variable {ps : List S_api_Piece} {ids : List S_api_Id} {wr : List Int} {vs : List S_api_Entry} {es : List Ent} {snap : List Int}
theorem pGet_j2_ok (M : GS h0 h r q l b n fun h' => NoteAt h' n ps ids wr vs es snap) (S : b = false → l = [] → ps.length ≤ 32 → ids.length ≤ 64 → NoteSm n ps ids wr es snap)
    (H1 : ∀ h', b = false → l = [] → chk n ps ids wr es snap = 0 → NoteSm n ps ids wr es snap → NoteAt h' n ps ids wr vs es snap → Ext h0.size h0 h' → k (n, 0) h') (H2 : ∀ h', Ext h0.size h0 h' → k (zNote, 4) h') : pack_Get_j2 ⟨h0.size, 0, none⟩ ⟨r, 0, none⟩ ⟨q, 0, none⟩ k h := by
  unfold pack_Get_j2
  have o1 := M.o1
  have o2 := M.o2
  obtain ⟨sd, Kd, Sd, sdl, _⟩ := M.R
  refine ⟨b, by rw [add_mk, Kd.cell]; rfl, ?_⟩
  cases hb : b with
  | true => rw [if_pos rfl]; unfold pack_Get_g3; rw [if_pos rfl]; exact pGet_bad M H2
  | false =>
    rw [if_neg (by simp)]
    refine ⟨sd, by rw [Kd.cell]; rfl, ?_⟩
    by_cases hr : l.length > 0
    · rw [show decide ((sd.len : Int) > 0) = true from by rw [decide_eq_true_eq]; omega]
      unfold pack_Get_g3; rw [if_pos rfl]; exact pGet_bad M H2
    · rw [show decide ((sd.len : Int) > 0) = false from by rw [decide_eq_false_iff_not]; omega]
      unfold pack_Get_g3; rw [if_neg (by simp)]
      have l0 : l = [] := List.eq_nil_of_length_eq_zero (by omega)
      refine ⟨n, CellsAt.of_blk M.Q, ?_⟩
      by_cases hbig : ps.length > 32 ∨ ids.length > 64
      · refine Check_big M.K.now.pa.l M.K.now.ia.l hbig fun h' X => ?_
        exact pGet_bad (M.ext X) H2
      · have Sm := S hb l0 (by omega) (by omega)
        refine Check_ok M.K.now Sm fun h' X => ?_
        have M' := M.ext X
        by_cases hc : chk n ps ids wr es snap = 0
        · rw [show (chk n ps ids wr es snap != 0) = false from by simp [hc]]
          unfold pack_Get_g4
          rw [if_neg (by simp)]
          refine ⟨n, CellsAt.of_blk M'.Q, _, WrsAt.of_blk M'.P (by rw [ncs_len]; omega), rfl, n, CellsAt.of_blk (M'.P.sets_all (vs := S_api_Note.cs n) rfl), ?_⟩
          exact H1 _ hb l0 hc Sm (M'.K _ fun g g1 g2 => setsH_other _ _ (by dsimp only; omega)) (M'.X.trans (Ext.sets _ _ _ (Nat.le_refl _)))
        · rw [show (chk n ps ids wr es snap != 0) = true from by simp [hc]]
          exact pGet_bad M' H2
theorem pGet_j1_ok (M : GS h0 h r q l b n fun h' => Row (q + 1) h' 50 5 n.f_Pieces (ps.flatMap S_api_Piece.cs) ∧ CmdAt h' n.f_Cmd wr) (hY : n.f_Share.f_Y = [])
    (r1 : 0 ≤ n.f_Op ∧ n.f_Op < 18446744073709551616) (r2 : 0 ≤ n.f_Boot ∧ n.f_Boot < 18446744073709551616) (pr : ∀ p ∈ ps, 0 ≤ p.f_Id.f_N ∧ 0 ≤ p.f_Id.f_Node ∧ p.f_Id.f_Node < 65536 ∧ p.f_Id.f_N < 18446744073709551616) (nb : isB n.f_Cmd.f_Nonce)
    (pl : n.f_Pieces.len = ps.length) (hl : b = false → l.length ≤ 5000)
    (S0 : b = false → ps.length ≤ 32 → n.f_Tenant.size ≤ 10000 ∧ n.f_Q.f_Select.size ≤ 10000 ∧ (∀ p ∈ ps, p.f_Series.size ≤ 10000) ∧ CmdSm n.f_Cmd wr)
    (H1 : ∀ v s x y m ids vs es snap h', b = false → l = shortL v ++ shortL ids.length ++ tailL { n with f_Index := v, f_Ids := s, f_Share := ⟨x, y⟩, f_M := m } ids es snap → 0 ≤ m.f_Kind ∧ m.f_Kind < 256 →
      chk { n with f_Index := v, f_Ids := s, f_Share := ⟨x, y⟩, f_M := m } ps ids wr es snap = 0 → NoteSm { n with f_Index := v, f_Ids := s, f_Share := ⟨x, y⟩, f_M := m } ps ids wr es snap →
      NoteAt h' { n with f_Index := v, f_Ids := s, f_Share := ⟨x, y⟩, f_M := m } ps ids wr vs es snap → Ext h0.size h0 h' → k ({ n with f_Index := v, f_Ids := s, f_Share := ⟨x, y⟩, f_M := m }, 0) h')
    (H2 : ∀ h', Ext h0.size h0 h' → k (zNote, 4) h') : pack_Get_j1 ⟨h0.size, 0, none⟩ ⟨r, 0, none⟩ ⟨q, 0, none⟩ k h := by
  have A : ∀ i : Nat, (⟨q, 0, none⟩ : Addr).add i = ⟨q, i, none⟩ := fun i => by rw [add_mk, Nat.zero_add]
  unfold pack_Get_j1
  have o1 := M.o1
  have o2 := M.o2
  refine packr_short2 M.R fun v l1 b1 h1 R1 U1 v0 v1 e1 => ?_
  have M1 := M.upd U1 R1
  refine ⟨_, M1.wr (by omega), rfl, ?_⟩
  rw [A 28]
  have M2 : GS h0 (setH h1 ⟨q, 28, none⟩ (.int .u64 v)) r q l1 b1 { n with f_Index := v } _ := M1.set1 rfl
  generalize setH h1 ⟨q, 28, none⟩ (.int .u64 v) = h2 at *
  have q2 := M2.Q.lt
  refine packr_ids_ok M2.R fun s ids l3 b3 h3 R3 U3 Rw sl il ir e3 => ?_
  have M3 := M2.upd U3 R3
  have M3 := M3.and ((Held.of_row Rw).mono (show q + 1 ≤ h2.size by omega))
  refine ⟨_, M3.wr (by omega), rfl, ?_⟩
  rw [A 29]
  have M4 : GS h0 (setH h3 ⟨q, 29, none⟩ (Slc.v s)) r q l3 b3 { n with f_Index := v, f_Ids := s } _ := M3.set1 rfl
  generalize setH h3 ⟨q, 29, none⟩ (Slc.v s) = h4 at *
  refine packr_number2 M4.R (by omega) (by omega) fun x l5 b5 h5 R5 U5 x0 x1 e5 => ?_
  have M5 := M4.upd U5 R5
  have x1' : x < 256 := x1
  refine ⟨_, M5.wr (by omega), rfl, ?_⟩
  rw [A 30, wrapU8 x0 x1']
  have M6 : GS h0 (setH h5 ⟨q, 30, none⟩ (.int .u8 x)) r q l5 b5 { n with f_Index := v, f_Ids := s, f_Share := ⟨x, []⟩ } _ := M5.set1 (by show _ = S_api_Note.cs { n with f_Index := v, f_Ids := s, f_Share := ⟨x, []⟩ }; rw [← hY]; rfl)
  generalize setH h5 ⟨q, 30, none⟩ (.int .u8 x) = h6 at *
  refine ⟨_, by omega, by omega, by omega, rfl, ?_⟩
  rw [show subS ⟨some ((⟨q, 30, none⟩ : Addr).add 1), 32, 32⟩ 1 (0 : Int).toNat (32 : Int).toNat 32 = ⟨some ⟨q, 31, none⟩, 32, 32⟩ from by simp [subS, add_mk]]
  refine packr_bytes2 M6.R (by omega) fun sy y l7 b7 h7 R7 U7 S7 ls hy yB e7 => ?_
  have M7 := M6.upd U7 R7
  rw [show (32 : Int).toNat = 32 from rfl] at hy e7
  have yl : y.length ≤ 32 := by
    rcases hy with rfl | hy
    · simp
    · omega
  refine ⟨b8 y, ⟨b8 y, S7, by simp [ls], ?_⟩, b8_one y, (fun hn => by cases hn), (fun a ha j hj => ?_), ?_⟩
  · rw [show min sy.len (⟨some ⟨q, 31, none⟩, 32, 32⟩ : Slc).len * 1 = y.length from by dsimp only; omega, List.take_of_length_le (by simp)]
  · cases ha
    rw [add_mk]; exact M7.Q.wr (by rw [ncs_len]; simp at hj; omega)
  dsimp only
  have M8 : GS h0 (setsH h7 ⟨q, 31, none⟩ 0 (b8 y)) r q l7 b7 { n with f_Index := v, f_Ids := s, f_Share := ⟨x, y⟩ } _ := M7.setN (by simp; omega) (by
    rcases hy with rfl | hy
    · simp
    · rw [show (31 + (b8 y).length) = 63 from by simp [hy]]
      have : arr 32 .u8 y = b8 y := arr_id hy
      rw [← this]; rfl)
  generalize setsH h7 ⟨q, 31, none⟩ 0 (b8 y) = h8 at *
  refine packr_text3 M8.R fun t l9 b9 h9 R9 U9 tt e9 => ?_
  have M9 := M8.upd U9 R9
  have chain : b7 = false → b = false ∧ b1 = false ∧ b3 = false ∧ b5 = false := fun h => by
    obtain ⟨c5, _⟩ := e7 h; obtain ⟨c3, _⟩ := e5 c5; obtain ⟨c1, _⟩ := e3 c3; obtain ⟨c0, _⟩ := e1 c1
    exact ⟨c0, c1, c3, c5⟩
  have tz : t.size ≤ 10000 := by
    rcases tt with rfl | ⟨hb, ht⟩
    · show (0 : Nat) ≤ 10000; omega
    · obtain ⟨c0, c1, c3, c5⟩ := chain hb
      have a0 := hl c0
      have a1 := congrArg List.length (e1 c1).2
      have a3 := (e3 c3).2.1
      have a5 := congrArg List.length (e5 c5).2
      have a7 := congrArg List.length (e7 hb).2.1
      have a9 := congrArg List.length ht
      have : (textL t).length ≥ t.size := by rw [textL, List.length_append, sB_len]; omega
      rw [List.length_append] at a1 a5 a7 a9
      omega
  refine ⟨by have : maxLen = 9223372036854775807 := rfl; omega, S2B_ok fun s10 h10 Rw10 X10 => ?_⟩
  have M10 := M9.ext X10
  have q10 := M10.Q.lt
  refine mGet_ok Rw10.slc (by have := Rw10.pb; exact this) Rw10.cap (sB_isB _) (by rw [sB_len]; exact tz) (fun m vs es snap h11 A11 sm mk ml X11 => ?_) fun h11 X11 => ?_
  · have M11 := (M10.ext X11).and (A11.mono (show q + 1 ≤ h10.size by omega))
    refine ⟨_, _, rfl, rfl, ?_⟩
    have B12 := Blk.push h11 (S_api_Msg.cs ⟨0, 0, 0, 0, 0, false, ⟨none, 0, 0⟩, ⟨none, 0, 0⟩⟩) 40
    have B13 := B12.sets_all (vs := S_api_Msg.cs m) rfl
    have X13 := (Ext.push h11 (.cells (S_api_Msg.cs ⟨0, 0, 0, 0, 0, false, ⟨none, 0, 0⟩, ⟨none, 0, 0⟩⟩).toArray 40) (Nat.le_refl _)).trans (Ext.sets _ (a := ⟨h11.size, 0, none⟩) 0 (S_api_Msg.cs m) (Nat.le_refl _))
    refine ⟨_, WrsAt.of_blk B12 (by decide), rfl, ?_⟩
    dsimp only
    have M13 := M11.ext X13
    generalize setsH (h11.push (.cells (S_api_Msg.cs ⟨0, 0, 0, 0, 0, false, ⟨none, 0, 0⟩, ⟨none, 0, 0⟩⟩).toArray 40)) ⟨h11.size, 0, none⟩ 0 (S_api_Msg.cs m) = h13 at *
    obtain ⟨s13, K13, _⟩ := M13.R
    refine ⟨m, CellsAt.of_blk B13, b9, by rw [add_mk, K13.cell]; rfl, ?_⟩
    have M14 : GS h0 (setsH h13 ⟨q, 63, none⟩ 0 (S_api_Msg.cs m)) r q l9 b9 { n with f_Index := v, f_Ids := s, f_Share := ⟨x, y⟩, f_M := m } _ := M13.setN (by show 63 + 8 ≤ 71; omega) rfl
    have fin : ∀ {h15 : Heap} {b15 : Bool}, (b15 = false → b9 = false) → GS h0 h15 r q l9 b15 { n with f_Index := v, f_Ids := s, f_Share := ⟨x, y⟩, f_M := m } (fun h' => ((Row (q + 1) h' 50 5 n.f_Pieces (ps.flatMap S_api_Piece.cs) ∧ CmdAt h' n.f_Cmd wr) ∧ Row h2.size h' 48 2 s (ids.flatMap S_api_Id.cs)) ∧ MsgAt h' m vs es snap) → pack_Get_j2 ⟨h0.size, 0, none⟩ ⟨r, 0, none⟩ ⟨q, 0, none⟩ k h15 := fun {h15 b15} hb15 M15 => by
      refine pGet_j2_ok (ps := ps) (ids := ids) (wr := wr) (vs := vs) (es := es) (snap := snap) (M15.imp fun h' H => ?_) (fun hb l0 p32 i64 => ?_) (fun h' hb l0 hc Sm NA X => ?_) H2
      · obtain ⟨⟨⟨a1, a2⟩, a3⟩, a4⟩ := H
        exact ⟨LsAt.of_slc (w := 5) (fun x => rfl) a1.slc pl (by decide), LsAt.of_slc (w := 2) (fun x => rfl) a3.slc sl (by decide), a2, a4, r1, r2, ⟨v0, v1⟩, pr, nb, ir⟩
      · obtain ⟨c0, _⟩ := chain (e9 (hb15 hb)).1
        obtain ⟨s1, s2, s3, s4⟩ := S0 c0 p32
        exact ⟨s1, s2, by omega, s3, by omega, s4, sm⟩
      · obtain ⟨c7, t7⟩ := e9 (hb15 hb)
        obtain ⟨c0, c1, c3, c5⟩ := chain c7
        refine H1 v s x y m ids vs es snap h' c0 ?_ mk hc Sm NA X
        have i64 : ids.length ≤ 64 := by
          rcases Nat.lt_or_ge 64 ids.length with h | h
          · unfold chk at hc; rw [if_pos (.inr h)] at hc; cases hc
          · exact h
        obtain ⟨_, t1⟩ := e1 c1
        obtain ⟨_, _, t3⟩ := e3 c3
        obtain ⟨_, t5⟩ := e5 c5
        obtain ⟨_, t6, t66⟩ := e7 c7
        rw [t1, t3 i64, t5, t6, t7, l0, tailL]
        dsimp only
        rw [← ml, nrm_id t66, show (1 : Int).toNat = 1 from rfl, show formL x 1 = [x] from form1 x0 x1', show tx (sB t) = textL t from by simp only [tx, textL, sB_len]]
        simp only [List.append_assoc, List.append_nil]
    cases hb9 : b9 with
    | true =>
      rw [if_pos rfl]
      refine ⟨_, M13.wrs (by show 63 + 8 ≤ 71; omega), rfl, ?_⟩
      rw [A 63]
      obtain ⟨s14, K14, _⟩ := M14.R
      refine ⟨_, by rw [add_mk]; exact K14.wr (by show 0 + 1 < 2; omega), rfl, ?_⟩
      rw [show (⟨r, 0, none⟩ : Addr).add 1 = ⟨r, 1, none⟩ from by simp]
      exact fin (by simp) (M14.flag true)
    | false =>
      rw [if_neg (by simp)]
      refine ⟨_, M13.wrs (by show 63 + 8 ≤ 71; omega), rfl, ?_⟩
      rw [A 63]
      obtain ⟨s14, K14, _⟩ := M14.R
      refine ⟨_, by rw [add_mk]; exact K14.wr (by show 0 + 1 < 2; omega), rfl, ?_⟩
      rw [show (⟨r, 0, none⟩ : Addr).add 1 = ⟨r, 1, none⟩ from by simp]
      exact fin (fun _ => hb9) (M14.flag _)
  · have M11 := M10.ext X11
    refine ⟨_, _, rfl, rfl, ?_⟩
    have B12 := Blk.push h11 (S_api_Msg.cs ⟨0, 0, 0, 0, 0, false, ⟨none, 0, 0⟩, ⟨none, 0, 0⟩⟩) 40
    have B13 := B12.sets_all (vs := S_api_Msg.cs zMsg) rfl
    have X13 := (Ext.push h11 (.cells (S_api_Msg.cs ⟨0, 0, 0, 0, 0, false, ⟨none, 0, 0⟩, ⟨none, 0, 0⟩⟩).toArray 40) (Nat.le_refl _)).trans (Ext.sets _ (a := ⟨h11.size, 0, none⟩) 0 (S_api_Msg.cs zMsg) (Nat.le_refl _))
    refine ⟨_, WrsAt.of_blk B12 (by decide), rfl, ?_⟩
    dsimp only
    have M13 := M11.ext X13
    generalize setsH (h11.push (.cells (S_api_Msg.cs ⟨0, 0, 0, 0, 0, false, ⟨none, 0, 0⟩, ⟨none, 0, 0⟩⟩).toArray 40)) ⟨h11.size, 0, none⟩ 0 (S_api_Msg.cs zMsg) = h13 at *
    obtain ⟨s13, K13, _⟩ := M13.R
    refine ⟨zMsg, CellsAt.of_blk B13, b9, by rw [add_mk, K13.cell]; rfl, ?_⟩
    have M14 : GS h0 (setsH h13 ⟨q, 63, none⟩ 0 (S_api_Msg.cs zMsg)) r q l9 b9 { n with f_Index := v, f_Ids := s, f_Share := ⟨x, y⟩, f_M := zMsg } _ := M13.setN (by show 63 + 8 ≤ 71; omega) rfl
    have fin : ∀ {h15 : Heap} {n' : S_api_Note} {p : Heap → Prop}, GS h0 h15 r q l9 true n' p → pack_Get_j2 ⟨h0.size, 0, none⟩ ⟨r, 0, none⟩ ⟨q, 0, none⟩ k h15 := fun {h15 n' p} M15 => by
      unfold pack_Get_j2
      obtain ⟨sd, Kd, _⟩ := M15.R
      refine ⟨true, by rw [add_mk, Kd.cell]; rfl, ?_⟩
      rw [if_pos rfl]; unfold pack_Get_g3; rw [if_pos rfl]; exact pGet_bad M15 H2
    cases hb9 : b9 with
    | true =>
      rw [if_pos rfl]
      refine ⟨_, M13.wrs (by show 63 + 8 ≤ 71; omega), rfl, ?_⟩
      rw [A 63]
      obtain ⟨s14, K14, _⟩ := M14.R
      refine ⟨_, by rw [add_mk]; exact K14.wr (by show 0 + 1 < 2; omega), rfl, ?_⟩
      rw [show (⟨r, 0, none⟩ : Addr).add 1 = ⟨r, 1, none⟩ from by simp]
      exact fin (M14.flag true)
    | false =>
      rw [if_neg (by simp)]
      refine ⟨_, M13.wrs (by show 63 + 8 ≤ 71; omega), rfl, ?_⟩
      rw [A 63]
      obtain ⟨s14, K14, _⟩ := M14.R
      refine ⟨_, by rw [add_mk]; exact K14.wr (by show 0 + 1 < 2; omega), rfl, ?_⟩
      rw [show (⟨r, 0, none⟩ : Addr).add 1 = ⟨r, 1, none⟩ from by simp]
      exact fin (M14.flag true)
end
/-- a note is read -/
theorem pGet_ok {p0 : Slc} {l : List Int} {k : S_api_Note × Int → Heap → Prop} {h : Heap} (hs : SlcAt h p0 (b8 l)) (hlen : p0.len = l.length) (hcap : p0.len ≤ p0.cap) (hB : isB l) (hz : l.length ≤ 5000)
    (H1 : ∀ n ps ids wr vs es snap h', NoteAt h' n ps ids wr vs es snap → NoteSm n ps ids wr es snap → chk n ps ids wr es snap = 0 → l = noteL n ps ids wr es snap → Ext h.size h h' → k (n, 0) h')
    (H2 : ∀ h', Ext h.size h h' → k (zNote, 4) h') : pack_Get p0 k h := by
  unfold pack_Get
  refine ⟨_, _, rfl, rfl, ?_⟩
  have P := Blk.push h (S_api_Note.cs zNote) 42
  have W := Ext.push h (.cells (S_api_Note.cs zNote).toArray 42) (Nat.le_refl _)
  obtain ⟨h2, e2⟩ : ∃ y, y = h.push (.cells (S_api_Note.cs zNote).toArray 42) := ⟨_, rfl⟩
  rw [← e2] at P W ⊢
  have z2 := W.size
  have pl := P.lt
  refine ⟨_, _, rfl, rfl, ?_⟩
  have K := Blk.push h2 (S_pack_reader.cs ⟨p0, false⟩) 173
  have W3 := Ext.push h2 (.cells (S_pack_reader.cs ⟨p0, false⟩).toArray 173) (Nat.le_refl _)
  obtain ⟨h3, e3⟩ : ∃ y, y = h2.push (.cells (S_pack_reader.cs ⟨p0, false⟩).toArray 173) := ⟨_, rfl⟩
  rw [← e3] at K W3 ⊢
  have z3 := W3.size
  have kl := K.lt
  have P3 := P.ext W3 pl
  have R3 : Rd 173 h3 h2.size l false := ⟨p0, K, fun h' X => ⟨hs.1, fun b hb j w hj => by rw [X.cell (Nat.lt_of_lt_of_le (cellH_lt (hs.2 b hb j w hj)) z2), ← hs.2 b hb j w hj]; exact ((W.trans (W3.mono z2)).cell (cellH_lt (hs.2 b hb j w hj)))⟩, hlen, hcap, hB, by omega⟩
  refine packr_number2 R3 (by omega) (by omega) fun v1 l1 b1 h4 R4 U4 v10 v11 e4 => ?_
  have z4 := U4.size
  refine packr_short2 R4 fun n1 l2 b2 h5 R5 U5 n10 n11 e5 => ?_
  have z5 := U5.size
  refine packr_short2 R5 fun n2 l3 b3 h6 R6 U6 n20 n21 e6 => ?_
  have z6 := U6.size
  refine packr_number2 R6 (by omega) (by omega) fun v4 l4 b4 h7 R7 U7 v40 v41 e7 => ?_
  have z7 := U7.size
  refine packr_text2 R7 fun t l5 b5 h8 R8 U8 tz e8 => ?_
  have z8 := U8.size
  have v11' : v1 < 256 := v11
  have v41' : v4 < 256 := v41
  rw [wrapI64 (x := v1) (by omega) (by omega), wrapI64 (x := v4) (by omega) (by omega)]
  refine ⟨_, _, rfl, rfl, ?_⟩
  obtain ⟨n0, en0⟩ : ∃ n0 : S_api_Note, n0 = ⟨v1, n1, n2, v4, t, ⟨none, 0, 0⟩, ⟨ByteArray.empty, 0, 0, 0, 0⟩, zCmd, 0, ⟨none, 0, 0⟩, ⟨0, []⟩, zMsg⟩ := ⟨_, rfl⟩
  rw [← en0]
  have Q := Blk.push h8 (S_api_Note.cs zNote) 42
  have Q2 := Q.sets_all (vs := S_api_Note.cs n0) (by rw [ncs_len, ncs_len])
  have W9 := (Ext.push h8 (.cells (S_api_Note.cs zNote).toArray 42) (Nat.le_refl _)).trans (Ext.sets _ (a := ⟨h8.size, 0, none⟩) 0 (S_api_Note.cs n0) (Nat.le_refl _))
  refine ⟨_, WrsAt.of_blk Q (by rw [ncs_len]; omega), rfl, ?_⟩
  generalize setsH (h8.push (.cells (S_api_Note.cs zNote).toArray 42)) ⟨h8.size, 0, none⟩ 0 (S_api_Note.cs n0) = h9 at *
  have z9 := W9.size
  have ql := Q2.lt
  have U39 : Upd h2.size h3 h9 := (U4.trans (U5.trans (U6.trans (U7.trans U8)))).fresh (W9.mono (by omega))
  have M9 : GS h h9 h2.size h8.size l5 b5 n0 (fun _ => True) := ⟨U39.blk P3 (by omega), R8.ext (W9.mono (by omega)), Q2, fun _ _ => trivial, (W.trans (W3.mono z2)).trans (U39.ext (by omega) (by omega)), by omega, by omega⟩
  generalize h2.size = r at *
  generalize h8.size = q at *
  have A : ∀ i : Nat, (⟨q, 0, none⟩ : Addr).add i = ⟨q, i, none⟩ := fun i => by rw [add_mk, Nat.zero_add]
  have q9 := M9.Q.lt
  refine packr_pieces_ok M9.R fun s ps l10 b10 h10 R10 U10 Rw10 sl pz pr e10 => ?_
  have M10 := (M9.upd U10 R10).and ((Held.of_row Rw10).mono (show q + 1 ≤ h9.size by omega))
  refine ⟨_, M10.wr (by omega), rfl, ?_⟩
  rw [A 5]
  have M11 : GS h (setH h10 ⟨q, 5, none⟩ (Slc.v s)) r q l10 b10 { n0 with f_Pieces := s } _ := M10.set1 rfl
  generalize setH h10 ⟨q, 5, none⟩ (Slc.v s) = h11 at *
  refine packr_query_ok M11.R fun x l12 b12 h12 R12 U12 xz xa e12 => ?_
  have M12 := M11.upd U12 R12
  refine ⟨_, M12.wrs (by omega), rfl, ?_⟩
  rw [A 6]
  have M13 : GS h (setsH h12 ⟨q, 6, none⟩ 0 (S_api_Query.cs x)) r q l12 b12 { n0 with f_Pieces := s, f_Q := x } _ := M12.setN (by show 6 + 5 ≤ 71; omega) rfl
  generalize setsH h12 ⟨q, 6, none⟩ 0 (S_api_Query.cs x) = h13 at *
  refine packr_text3 M13.R fun t2 l14 b14 h14 R14 U14 tt e14 => ?_
  have M14 := M13.upd U14 R14
  have chain : b12 = false → b10 = false ∧ b5 = false ∧ b4 = false ∧ b3 = false ∧ b2 = false ∧ b1 = false := fun hb => by
    obtain ⟨c10, _⟩ := e12 hb; obtain ⟨c5, _⟩ := e10 c10; obtain ⟨c4, _⟩ := e8 c5; obtain ⟨c3, _⟩ := e7 c4; obtain ⟨c2, _⟩ := e6 c3; obtain ⟨c1, _⟩ := e5 c2
    exact ⟨c10, c5, c4, c3, c2, c1⟩
  have lens : b12 = false → l12.length + x.f_Select.size ≤ 5000 ∧ t.size ≤ 5000 ∧ (ps.length ≤ 32 → ∀ p ∈ ps, p.f_Series.size ≤ 5000) := fun hb => by
    obtain ⟨c10, c5, c4, c3, c2, c1⟩ := chain hb
    have a1 := congrArg List.length (e4 c1).2
    have a2 := congrArg List.length (e5 c2).2
    have a3 := congrArg List.length (e6 c3).2
    have a4 := congrArg List.length (e7 c4).2
    have a5 := congrArg List.length (e8 c5).2
    obtain ⟨_, a10, f10⟩ := e10 c10
    have a12 := congrArg List.length (e12 hb).2
    have y1 : (textL t).length ≥ t.size := by rw [textL, List.length_append, sB_len]; omega
    have y2 : (textL x.f_Select).length ≥ x.f_Select.size := by rw [textL, List.length_append, sB_len]; omega
    simp only [List.length_append] at a1 a2 a3 a4 a5 a12
    refine ⟨by omega, by omega, fun h32 p hp => ?_⟩
    have f1 := congrArg List.length (f10 h32)
    have f2 : (pieceL p).length ≤ (ps.flatMap pieceL).length := by
      obtain ⟨u, v, huv⟩ := List.append_of_mem hp
      rw [huv]; simp only [List.flatMap_append, List.flatMap_cons, List.length_append]; omega
    have f3 : (pieceL p).length ≥ p.f_Series.size := by
      unfold pieceL
      simp only [List.length_append]
      have : (textL p.f_Series).length ≥ p.f_Series.size := by rw [textL, List.length_append, sB_len]; omega
      omega
    simp only [List.length_append] at f1
    omega
  have tz2 : t2.size ≤ 100000 := by
    rcases tt with rfl | ⟨hb, ht⟩
    · show (0 : Nat) ≤ 100000; omega
    · have := (lens hb).1
      have a := congrArg List.length ht
      have y : (textL t2).length ≥ t2.size := by rw [textL, List.length_append, sB_len]; omega
      rw [List.length_append] at a
      omega
  refine ⟨by have : maxLen = 9223372036854775807 := rfl; omega, S2B_ok fun s15 h15 Rw15 X15 => ?_⟩
  have M15 := M14.ext X15
  have q15 := M15.Q.lt
  have goOn : ∀ (c : S_api_Command) (cwr : List Int) (er : Int) (h16 : Heap), Held h15.size h16 (fun h' => CmdAt h' c cwr) → isB c.f_Nonce → (er = 0 → CmdSm c cwr ∧ (0 ≤ c.f_Kind ∧ c.f_Kind < 256) ∧ sB t2 = cmdL c cwr) → Ext h15.size h15 h16 →
      (∃ (b30 : Nat) (h31 : Heap), b30 = h16.size ∧ h31 = h16.push (.cells (S_api_Command.cs zCmd).toArray 32) ∧ (∃ h32 : Heap, WrsAt h31 (⟨b30, 0, none⟩ : Addr) 17 ∧ h32 = setsH h31 (⟨b30, 0, none⟩ : Addr) 0 (S_api_Command.cs c) ∧ (∃ v72 : S_api_Command, CellsAt h32 (⟨b30, 0, none⟩ : Addr) (S_api_Command.cs v72) ∧ (∃ v73 : Bool, cellH h32 ((⟨r, 0, none⟩ : Addr).add 1) = some (.bool v73) ∧ (if v73 then (∃ h74 : Heap, WrsAt h32 ((⟨q, 0, none⟩ : Addr).add 11) 17 ∧ h74 = setsH h32 ((⟨q, 0, none⟩ : Addr).add 11) 0 (S_api_Command.cs v72) ∧ (∃ h75 : Heap, WrH h74 ((⟨r, 0, none⟩ : Addr).add 1) ∧ h75 = setH h74 ((⟨r, 0, none⟩ : Addr).add 1) (.bool true) ∧ (pack_Get_j1 (⟨h.size, 0, none⟩ : Addr) (⟨r, 0, none⟩ : Addr) (⟨q, 0, none⟩ : Addr) k h75))) else (∃ h76 : Heap, WrsAt h32 ((⟨q, 0, none⟩ : Addr).add 11) 17 ∧ h76 = setsH h32 ((⟨q, 0, none⟩ : Addr).add 11) 0 (S_api_Command.cs v72) ∧ (∃ h77 : Heap, WrH h76 ((⟨r, 0, none⟩ : Addr).add 1) ∧ h77 = setH h76 ((⟨r, 0, none⟩ : Addr).add 1) (.bool (er != 0)) ∧ (pack_Get_j1 (⟨h.size, 0, none⟩ : Addr) (⟨r, 0, none⟩ : Addr) (⟨q, 0, none⟩ : Addr) k h77)))))))) := by
    intro c cwr er h16 CA cB cG X16
    have M16 := (M15.ext X16).and (CA.mono (show q + 1 ≤ h15.size by omega))
    refine ⟨_, _, rfl, rfl, ?_⟩
    have B12 := Blk.push h16 (S_api_Command.cs zCmd) 32
    have B13 := B12.sets_all (vs := S_api_Command.cs c) rfl
    have X13 := (Ext.push h16 (.cells (S_api_Command.cs zCmd).toArray 32) (Nat.le_refl _)).trans (Ext.sets _ (a := ⟨h16.size, 0, none⟩) 0 (S_api_Command.cs c) (Nat.le_refl _))
    refine ⟨_, WrsAt.of_blk B12 (by show 17 ≤ 17; omega), rfl, ?_⟩
    have M17 := M16.ext X13
    generalize setsH (h16.push (.cells (S_api_Command.cs zCmd).toArray 32)) ⟨h16.size, 0, none⟩ 0 (S_api_Command.cs c) = h17 at *
    obtain ⟨s17, K17, _⟩ := M17.R
    refine ⟨c, CellsAt.of_blk B13, b14, by rw [add_mk, K17.cell]; rfl, ?_⟩
    have M18 : GS h (setsH h17 ⟨q, 11, none⟩ 0 (S_api_Command.cs c)) r q l14 b14 { n0 with f_Pieces := s, f_Q := x, f_Cmd := c } _ := M17.setN (by show 11 + 17 ≤ 71; omega) rfl
    have fin : ∀ {h19 : Heap} {b19 : Bool}, (b19 = false → b14 = false ∧ er = 0) → GS h h19 r q l14 b19 { n0 with f_Pieces := s, f_Q := x, f_Cmd := c } (fun h' => (True ∧ Row h9.size h' 50 5 s (ps.flatMap S_api_Piece.cs)) ∧ CmdAt h' c cwr) → pack_Get_j1 ⟨h.size, 0, none⟩ ⟨r, 0, none⟩ ⟨q, 0, none⟩ k h19 := fun {h19 b19} hb19 M19 => by
      subst en0
      refine pGet_j1_ok (ps := ps) (wr := cwr) (M19.imp fun h' H => ⟨H.1.2.mono (by omega), H.2⟩) rfl ⟨n10, n11⟩ ⟨n20, n21⟩ pr cB sl (fun hb => ?_) (fun hb p32 => ?_) (fun v s2 x2 y m ids vs es snap h' hb el mk hc Sm NA X => ?_) H2
      · obtain ⟨c14, _⟩ := hb19 hb
        obtain ⟨c12, q14⟩ := e14 c14
        have := (lens c12).1
        have a := congrArg List.length q14
        rw [List.length_append] at a
        omega
      · obtain ⟨c14, ce⟩ := hb19 hb
        obtain ⟨c12, q14⟩ := e14 c14
        obtain ⟨a1, a2, a3⟩ := lens c12
        exact ⟨by show t.size ≤ 10000; omega, by show x.f_Select.size ≤ 10000; omega, fun p hp => by have := a3 p32 p hp; omega, (cG ce).1⟩
      · obtain ⟨c14, ce⟩ := hb19 hb
        obtain ⟨c12, q14⟩ := e14 c14
        obtain ⟨c10, c5, c4, c3, c2, c1⟩ := chain c12
        obtain ⟨_, ck, cl⟩ := cG ce
        refine H1 _ ps ids cwr vs es snap h' NA Sm hc ?_ X
        have p32 : ps.length ≤ 32 := by
          rcases Nat.lt_or_ge 32 ps.length with h | h
          · unfold chk at hc; rw [if_pos (.inl h)] at hc; cases hc
          · exact h
        rw [(e4 c1).2, (e5 c2).2, (e6 c3).2, (e7 c4).2, (e8 c5).2, (e10 c10).2.2 p32, (e12 c12).2, q14, el, noteL, midL]
        dsimp only
        rw [← cl, show (1 : Int).toNat = 1 from rfl, form1 v10 v11', form1 v40 v41', show tx (sB t2) = textL t2 from by simp only [tx, textL, sB_len], show v1 % 256 = v1 from by omega, show v4 % 256 = v4 from by omega]
        simp only [List.append_assoc]
    cases hb9 : b14 with
    | true =>
      rw [if_pos rfl]
      refine ⟨_, M17.wrs (by omega), rfl, ?_⟩
      rw [A 11]
      obtain ⟨s14, K14, _⟩ := M18.R
      refine ⟨_, by rw [add_mk]; exact K14.wr (by show 0 + 1 < 2; omega), rfl, ?_⟩
      rw [show (⟨r, 0, none⟩ : Addr).add 1 = ⟨r, 1, none⟩ from by simp]
      exact fin (by simp) (M18.flag true)
    | false =>
      rw [if_neg (by simp)]
      refine ⟨_, M17.wrs (by omega), rfl, ?_⟩
      rw [A 11]
      obtain ⟨s14, K14, _⟩ := M18.R
      refine ⟨_, by rw [add_mk]; exact K14.wr (by show 0 + 1 < 2; omega), rfl, ?_⟩
      rw [show (⟨r, 0, none⟩ : Addr).add 1 = ⟨r, 1, none⟩ from by simp]
      exact fin (fun h => ⟨hb9, by simpa using h⟩) (M18.flag _)
  refine rGet_ok Rw15.slc (by have := Rw15.pb; exact this) Rw15.cap (sB_isB _) (by rw [sB_len]; exact tz2) (fun c cwr h16 CA cB cS ck cl X16 => goOn c cwr 0 h16 CA cB (fun _ => ⟨cS, ck, cl⟩) X16) fun h16 X16 => goOn zCmd [] 4 h16 (fun _ _ => ⟨⟨fun _ => rfl, fun a ha => by cases ha⟩, rfl, (by intro b hb; cases hb), (by decide), (by decide)⟩) (by intro b hb; cases hb) (fun h => by cases h) X16
end Go.Q.Yb
