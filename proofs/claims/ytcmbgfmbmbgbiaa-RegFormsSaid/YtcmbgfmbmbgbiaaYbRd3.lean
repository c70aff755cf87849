/- A part of the proof of statements of this seat: lemmas, no statement of their own. -/
import Derived.Test.YtcmbgfmbmbgbiaaYbRd2
set_option linter.unusedVariables false
set_option linter.unusedSimpArgs false
namespace Go.Q.Yb
section
variable {h : Heap} {r : Nat} {l : List Int} {bad : Bool}
theorem packr_number2 {w : Int} {k : Int → Heap → Prop} (R : Rd 173 h r l bad) (w0 : 1 ≤ w) (w1 : w ≤ 8)
    (H : ∀ v l' b' h', Rd 173 h' r l' b' → Upd r h h' → 0 ≤ v → v < 256 ^ w.toNat → (b' = false → bad = false ∧ l = formL v w.toNat ++ l') → k v h') : pack_reader_number (some ⟨r, 0, none⟩) w k h :=
  packr_number_ok R w0 w1 (fun v l' h' b e v0 v1 R' U => H v l' false h' R' U v0 v1 fun _ => ⟨b, e⟩) fun l' h' R' U => H 0 l' true h' R' U (by omega) (Int.pow_pos (by omega)) fun h => by cases h
theorem packr_short2 {k : Int → Heap → Prop} (R : Rd 173 h r l bad)
    (H : ∀ v l' b' h', Rd 173 h' r l' b' → Upd r h h' → 0 ≤ v → v < 18446744073709551616 → (b' = false → bad = false ∧ l = shortL v ++ l') → k v h') : pack_reader_short (some ⟨r, 0, none⟩) k h :=
  packr_short_ok R (fun v l' h' b e v0 v1 R' U => H v l' false h' R' U v0 v1 fun _ => ⟨b, e⟩) fun v l' h' v0 v1 R' U => H v l' true h' R' U v0 v1 fun h => by cases h
theorem packr_text2 {k : ByteArray → Heap → Prop} (R : Rd 173 h r l bad)
    (H : ∀ t l' b' h', Rd 173 h' r l' b' → Upd r h h' → t.size ≤ 1000000 → (b' = false → bad = false ∧ l = textL t ++ l') → k t h') : pack_reader_text (some ⟨r, 0, none⟩) k h :=
  packr_text_ok R (fun t l' h' b e R' U => H t l' false h' R' U (by
    have := R.len
    rw [e, List.length_append] at this
    have : (textL t).length ≥ t.size := by rw [textL, List.length_append, sB_len]; omega
    omega) fun _ => ⟨b, e⟩) fun l' h' R' U => H _ l' true h' R' U (by decide) fun h => by cases h
theorem regr_number2 {w : Int} {k : Int → Heap → Prop} (R : Rd 155 h r l bad) (w0 : 1 ≤ w) (w1 : w ≤ 8)
    (H : ∀ v l' b' h', Rd 155 h' r l' b' → Upd r h h' → 0 ≤ v → v < 256 ^ w.toNat → (b' = false → bad = false ∧ l = formL v w.toNat ++ l') → k v h') : reg_reader_number (some ⟨r, 0, none⟩) w k h :=
  regr_number_ok R w0 w1 (fun v l' h' b e v0 v1 R' U => H v l' false h' R' U v0 v1 fun _ => ⟨b, e⟩) fun l' h' R' U => H 0 l' true h' R' U (by omega) (Int.pow_pos (by omega)) fun h => by cases h
theorem regr_short2 {k : Int → Heap → Prop} (R : Rd 155 h r l bad)
    (H : ∀ v l' b' h', Rd 155 h' r l' b' → Upd r h h' → 0 ≤ v → v < 18446744073709551616 → (b' = false → bad = false ∧ l = shortL v ++ l') → k v h') : reg_reader_short (some ⟨r, 0, none⟩) k h :=
  regr_short_ok R (fun v l' h' b e v0 v1 R' U => H v l' false h' R' U v0 v1 fun _ => ⟨b, e⟩) fun v l' h' v0 v1 R' U => H v l' true h' R' U v0 v1 fun h => by cases h
theorem regr_text2 {k : ByteArray → Heap → Prop} (R : Rd 155 h r l bad)
    (H : ∀ t l' b' h', Rd 155 h' r l' b' → Upd r h h' → t.size ≤ 1000000 → (b' = false → bad = false ∧ l = textL t ++ l') → k t h') : reg_reader_text (some ⟨r, 0, none⟩) k h :=
  regr_text_ok R (fun t l' h' b e R' U => H t l' false h' R' U (by
    have := R.len
    rw [e, List.length_append] at this
    have : (textL t).length ≥ t.size := by rw [textL, List.length_append, sB_len]; omega
    omega) fun _ => ⟨b, e⟩) fun l' h' R' U => H _ l' true h' R' U (by decide) fun h => by cases h
theorem raftr_short2 {k : Int → Heap → Prop} (R : Rd 251 h r l bad)
    (H : ∀ v l' b' h', Rd 251 h' r l' b' → Upd r h h' → 0 ≤ v → v < 18446744073709551616 → (b' = false → bad = false ∧ l = shortL v ++ l') → k v h') : raft_reader_short (some ⟨r, 0, none⟩) k h :=
  raftr_short_ok R (fun v l' h' b e v0 v1 R' U => H v l' false h' R' U v0 v1 fun _ => ⟨b, e⟩) fun v l' h' v0 v1 R' U => H v l' true h' R' U v0 v1 fun h => by cases h
theorem _root_.Go.Q.Upd.push' {c : Nat} (h : Heap) (o : Obj) : Upd c h (h.push o) := Upd.of_ext (Ext.push h o (Nat.le_refl _))
theorem _root_.Go.Q.Upd.to_ext {c B : Nat} {h h' : Heap} (U : Upd c h h') (hB : B ≤ c) (hs : B ≤ h.size) : Ext B h h' := U.ext hB hs
/-- blocks that are not the reader's stay -/
theorem _root_.Go.Q.Upd.keep {c b E : Nat} {h h' : Heap} {cs : List Value} (U : Upd c h h') (K : Blk h b cs E) (hb : b ≠ c) : Blk h' b cs E := U.blk K hb
/-- writing a block that was made since -/
theorem _root_.Go.Q.Upd.fresh {c : Nat} {h h' h2 : Heap} (U : Upd c h h') (X : Ext h.size h' h2) : Upd c h h2 := ⟨Nat.le_trans U.size X.size, fun i hi hne => (X.block i hi).trans (U.block i hi hne)⟩
theorem packr_id_ok {k : S_api_Id → Heap → Prop} (R : Rd 173 h r l bad)
    (H : ∀ (x : S_api_Id) (l' : List Int) (b' : Bool) (h' : Heap), Rd 173 h' r l' b' → Upd r h h' → (0 ≤ x.f_N ∧ 0 ≤ x.f_Node ∧ x.f_Node < 65536 ∧ x.f_N < 18446744073709551616) → (b' = false → bad = false ∧ l = idL x ++ l') → k x h') : pack_reader_id (some ⟨r, 0, none⟩) k h := by
  unfold pack_reader_id
  refine ⟨_, _, rfl, rfl, ?_⟩
  have P := Blk.push h (S_api_Id.cs ⟨0, 0⟩) 48
  have W := Ext.push h (.cells (S_api_Id.cs ⟨0, 0⟩).toArray 48) (Nat.le_refl _)
  obtain ⟨h2, e2⟩ : ∃ y, y = h.push (.cells (S_api_Id.cs ⟨0, 0⟩).toArray 48) := ⟨_, rfl⟩
  rw [← e2] at P W ⊢
  have rl := R.lt
  have z2 := W.size
  have U2 : Upd r h h2 := Upd.of_ext W
  refine packr_number2 (R.ext (W.mono (by omega))) (by omega) (by omega) fun v1 l1 b1 h3 R3 U3 v10 v11 e1 => ?_
  have z3 := U3.size
  refine packr_number2 R3 (by omega) (by omega) fun v2 l2' b2 h4 R4 U4 v20 v21 e2' => ?_
  have z4 := U4.size
  have v21' : v2 < 65536 := v21
  have P4 := (P.old (U3.block _ P.lt (by omega)))
  have P5 := P4.old (U4.block _ P4.lt (by omega))
  rw [wrapU16 v20 v21']
  refine ⟨_, WrsAt.of_blk P5 (by simp [S_api_Id.cs]), rfl, ⟨v1, v2⟩, CellsAt.of_blk (P5.sets_all (vs := S_api_Id.cs ⟨v1, v2⟩) rfl), ?_⟩
  have X5 := Ext.sets h4 (a := ⟨h.size, 0, none⟩) 0 (S_api_Id.cs ⟨v1, v2⟩) (B := h.size) (Nat.le_refl _)
  refine H _ l2' b2 _ (R4.ext (X5.mono (by omega))) ((U2.trans (U3.trans U4)).fresh X5) ⟨v10, v20, v21', v11⟩ fun hb => ?_
  obtain ⟨hb1, q2⟩ := e2' hb
  obtain ⟨hb0, q1⟩ := e1 hb1
  refine ⟨hb0, ?_⟩
  rw [q1, q2, idL, List.append_assoc]; rfl
def i64r (n : Int) : Prop := -9223372036854775808 ≤ n ∧ n < 9223372036854775808
theorem wrapI_wide {v : Int} (v0 : 0 ≤ v) (v1 : v < 18446744073709551616) : wideL (IntKind.i64.wrap v) = formL v 8 := by
  have : IntKind.i64.wrap v % 18446744073709551616 = v := by
    unfold IntKind.wrap; simp [IntKind.signed, IntKind.bits]; omega
  rw [wideL, this]
theorem packr_query_ok {k : S_api_Query → Heap → Prop} (R : Rd 173 h r l bad)
    (H : ∀ (x : S_api_Query) (l' : List Int) (b' : Bool) (h' : Heap), Rd 173 h' r l' b' → Upd r h h' → x.f_Select.size ≤ 1000000 → (0 ≤ x.f_Agg ∧ x.f_Agg < 256) → (b' = false → bad = false ∧ l = textL x.f_Select ++ wideL x.f_From ++ wideL x.f_To ++ wideL x.f_Step ++ [x.f_Agg % 256] ++ l') → k x h') : pack_reader_query (some ⟨r, 0, none⟩) k h := by
  unfold pack_reader_query
  refine ⟨_, _, rfl, rfl, ?_⟩
  have P := Blk.push h (S_api_Query.cs ⟨ByteArray.empty, 0, 0, 0, 0⟩) 26
  have W := Ext.push h (.cells (S_api_Query.cs ⟨ByteArray.empty, 0, 0, 0, 0⟩).toArray 26) (Nat.le_refl _)
  obtain ⟨h2, e2⟩ : ∃ y, y = h.push (.cells (S_api_Query.cs ⟨ByteArray.empty, 0, 0, 0, 0⟩).toArray 26) := ⟨_, rfl⟩
  rw [← e2] at P W ⊢
  have rl := R.lt
  have z2 := W.size
  have pl := P.lt
  have U2 : Upd r h h2 := Upd.of_ext W
  refine packr_text2 (R.ext (W.mono (by omega))) fun t l1 b1 h3 R3 U3 tz e1 => ?_
  have z3 := U3.size
  refine packr_number2 R3 (by omega) (by omega) fun v1 l2 b2 h4 R4 U4 v10 v11 e2' => ?_
  have z4 := U4.size
  refine packr_number2 R4 (by omega) (by omega) fun v2 l3 b3 h5 R5 U5 v20 v21 e3' => ?_
  have z5 := U5.size
  refine ⟨_, _, rfl, rfl, ?_⟩
  have Q := Blk.push h5 (S_api_Query.cs ⟨ByteArray.empty, 0, 0, 0, 0⟩) 26
  have Q2 := Q.sets_all (vs := S_api_Query.cs ⟨t, IntKind.i64.wrap v1, IntKind.i64.wrap v2, 0, 0⟩) rfl
  have W6 := (Ext.push h5 (.cells (S_api_Query.cs ⟨ByteArray.empty, 0, 0, 0, 0⟩).toArray 26) (Nat.le_refl _)).trans (Ext.sets _ (a := ⟨h5.size, 0, none⟩) 0 (S_api_Query.cs ⟨t, IntKind.i64.wrap v1, IntKind.i64.wrap v2, 0, 0⟩) (Nat.le_refl _))
  refine ⟨_, WrsAt.of_blk Q (by decide), rfl, ?_⟩
  generalize setsH (h5.push (.cells (S_api_Query.cs ⟨ByteArray.empty, 0, 0, 0, 0⟩).toArray 26)) ⟨h5.size, 0, none⟩ 0 (S_api_Query.cs ⟨t, IntKind.i64.wrap v1, IntKind.i64.wrap v2, 0, 0⟩) = h6 at *
  have z6 := W6.size
  have ql := Q2.lt
  refine packr_number2 (R5.ext (W6.mono (by omega))) (by omega) (by omega) fun v3 l4 b4 h7 R7 U7 v30 v31 e4' => ?_
  have z7 := U7.size
  have Q7 := U7.blk Q2 (by omega)
  refine ⟨_, by rw [add_mk]; exact Q7.wr (by rw [show (S_api_Query.cs ⟨t, IntKind.i64.wrap v1, IntKind.i64.wrap v2, 0, 0⟩).length = 5 from rfl]; omega), rfl, ?_⟩
  rw [show (⟨h5.size, 0, none⟩ : Addr).add 4 = ⟨h5.size, 4, none⟩ from by simp]
  have Q8 := Q7.set (i := 4) (v := .int .i64 (IntKind.i64.wrap v3))
  have X8 : Ext h5.size h7 (setH h7 ⟨h5.size, 4, none⟩ (.int .i64 (IntKind.i64.wrap v3))) := Ext.set _ _ (Nat.le_refl _)
  generalize setH h7 ⟨h5.size, 4, none⟩ (.int .i64 (IntKind.i64.wrap v3)) = h8 at *
  have z8 := X8.size
  refine packr_number2 (R7.ext (X8.mono (by omega))) (by omega) (by omega) fun v4 l5 b5 h9 R9 U9 v40 v41 e5' => ?_
  have z9 := U9.size
  have v41' : v4 < 256 := v41
  have Q9 := U9.blk Q8 (by omega)
  rw [wrapI64 (x := v4) (by omega) (by omega)]
  refine ⟨_, by rw [add_mk]; exact Q9.wr (by show 0 + 3 < 5; omega), rfl, ?_⟩
  rw [show (⟨h5.size, 0, none⟩ : Addr).add 3 = ⟨h5.size, 3, none⟩ from by simp]
  have Q10 := Q9.set (i := 3) (v := .int .i64 v4)
  have X10 : Ext h5.size h9 (setH h9 ⟨h5.size, 3, none⟩ (.int .i64 v4)) := Ext.set _ _ (Nat.le_refl _)
  generalize setH h9 ⟨h5.size, 3, none⟩ (.int .i64 v4) = h10 at *
  have z10 := X10.size
  have U25 : Upd r h2 h5 := U3.trans (U4.trans U5)
  have U26 : Upd r h2 h6 := U25.fresh (W6.mono (by omega))
  have U28 : Upd r h2 h8 := (U26.trans U7).fresh (X8.mono (by omega))
  have U210 : Upd r h2 h10 := (U28.trans U9).fresh (X10.mono (by omega))
  have P10 := U210.blk P (by omega)
  refine ⟨⟨t, IntKind.i64.wrap v1, IntKind.i64.wrap v2, v4, IntKind.i64.wrap v3⟩, CellsAt.of_blk Q10, _, WrsAt.of_blk P10 (by decide), rfl, _, CellsAt.of_blk (P10.sets_all (vs := S_api_Query.cs ⟨t, IntKind.i64.wrap v1, IntKind.i64.wrap v2, v4, IntKind.i64.wrap v3⟩) rfl), ?_⟩
  have X11 := Ext.sets h10 (a := ⟨h.size, 0, none⟩) 0 (S_api_Query.cs ⟨t, IntKind.i64.wrap v1, IntKind.i64.wrap v2, v4, IntKind.i64.wrap v3⟩) (B := h.size) (Nat.le_refl _)
  refine H _ l5 b5 _ ((R9.ext (X10.mono (by omega))).ext (X11.mono (by omega))) ((U2.trans U210).fresh X11) tz ⟨v40, v41'⟩ fun hb => ?_
  obtain ⟨hb4, q5⟩ := e5' hb
  obtain ⟨hb3, q4⟩ := e4' hb4
  obtain ⟨hb2, q3⟩ := e3' hb3
  obtain ⟨hb1, q2⟩ := e2' hb2
  obtain ⟨hb0, q1⟩ := e1 hb1
  refine ⟨hb0, ?_⟩
  dsimp only
  rw [wrapI_wide v10 v11, wrapI_wide v20 v21, wrapI_wide v30 v31, q1, q2, q3, q4, q5]
  simp only [List.append_assoc]
  rfl
theorem packr_ids_ok {k : Slc → Heap → Prop} (R : Rd 173 h r l bad)
    (H : ∀ (s : Slc) (xs : List S_api_Id) (l' : List Int) (b' : Bool) (h' : Heap), Rd 173 h' r l' b' → Upd r h h' → Row h.size h' 48 2 s (xs.flatMap S_api_Id.cs) → s.len = xs.length → xs.length ≤ 65 → (∀ x ∈ xs, 0 ≤ x.f_N ∧ 0 ≤ x.f_Node ∧ x.f_Node < 65536 ∧ x.f_N < 18446744073709551616) → (b' = false → bad = false ∧ l'.length ≤ l.length ∧ (xs.length ≤ 64 → l = shortL xs.length ++ xs.flatMap idL ++ l')) → k s h') : pack_reader_ids (some ⟨r, 0, none⟩) k h := by
  unfold pack_reader_ids
  have rl := R.lt
  refine packr_short2 R fun n l1 b1 h1 R1 U1 n0 n1 e1 => ?_
  have z1 := U1.size
  refine ⟨fun q h' => ∃ (xs : List S_api_Id) (l' : List Int) (b' : Bool), Rd 173 h' r l' b' ∧ Upd r h h' ∧ Row h.size h' 48 2 q.1 (xs.flatMap S_api_Id.cs) ∧ q.1.len = xs.length ∧ xs.length ≤ 65 ∧ (∀ x ∈ xs, 0 ≤ x.f_N ∧ 0 ≤ x.f_Node ∧ x.f_Node < 65536 ∧ x.f_N < 18446744073709551616) ∧ 0 ≤ q.2 ∧ q.2 + xs.length = n ∧ (b' = false → b1 = false ∧ l1 = xs.flatMap idL ++ l'), fun q _ => q.2.toNat,
    ⟨[], l1, b1, R1, U1, Row.nil _ _ _ _, rfl, by simp, by simp, n0, by simp, fun hb => ⟨hb, rfl⟩⟩, ?_⟩
  rintro s i h2 ⟨xs, l2, b2, R2, U2, Rw, sl, xl, xr, i0, ix, ex⟩
  dsimp only at Rw sl i0 ix
  have z2 := U2.size
  have done : pack_reader_ids_g2 (some ⟨r, 0, none⟩) s i false k (fun q h' => (∃ (xs : List S_api_Id) (l' : List Int) (b' : Bool), Rd 173 h' r l' b' ∧ Upd r h h' ∧ Row h.size h' 48 2 q.1 (xs.flatMap S_api_Id.cs) ∧ q.1.len = xs.length ∧ xs.length ≤ 65 ∧ (∀ x ∈ xs, 0 ≤ x.f_N ∧ 0 ≤ x.f_Node ∧ x.f_Node < 65536 ∧ x.f_N < 18446744073709551616) ∧ 0 ≤ q.2 ∧ q.2 + xs.length = n ∧ (b' = false → b1 = false ∧ l1 = xs.flatMap idL ++ l')) ∧ q.2.toNat < i.toNat) h2 → True := fun _ => trivial
  have fin : (b2 = false → xs.length ≤ 64 → i = 0) → k s h2 := fun hi => by
    refine H s xs l2 b2 h2 R2 U2 Rw sl xl xr fun hb => ?_
    obtain ⟨hb1, q⟩ := ex hb
    obtain ⟨hb0, q1⟩ := e1 hb1
    refine ⟨hb0, by rw [q1, q, List.length_append, List.length_append]; omega, fun h64 => ?_⟩
    have := hi hb h64
    rw [q1, q, show (n : Int) = (xs.length : Int) from by omega, List.append_assoc]
  unfold pack_reader_ids_l1b
  by_cases hi : i > 0
  · rw [if_pos (by simpa using hi)]
    obtain ⟨sd, Kd, Sd, rest⟩ := R2
    have R2 : Rd 173 h2 r l2 b2 := ⟨sd, Kd, Sd, rest⟩
    refine ⟨_, rfl, b2, by rw [add_mk, Kd.cell]; rfl, ?_⟩
    unfold pack_reader_ids_g2
    by_cases hg : b2 = false ∧ xs.length ≤ 64
    · rw [if_pos (by simp [hg.1]; omega)]
      refine packr_id_ok R2 fun x l3 b3 h3 R3 U3 xg e3 => ?_
      have z3 := U3.size
      have Rw3 : Row h.size h3 48 2 s (xs.flatMap S_api_Id.cs) := Rw.keep fun g hg => U3.block g (Rw.bd hg).2 (by have := (Rw.bd hg).1; omega)
      refine ⟨_, _, rfl, rfl, ?_⟩
      refine App.row (Rw3.pushed _) (by simp; omega) rfl rfl (oneC (by kernel_rfl)) (by omega) (by simp only [maxLen]; omega) fun s' h4 R4 l4 z4 F4 _ => ?_
      simp at z4
      have X4 : Ext h.size h3 h4 := ⟨by omega, fun g hg => by rw [F4 g (by simp; omega) fun e => by have := (Rw3.bd e).1; omega, Array.getElem?_push, if_neg (by omega)]⟩
      rw [wrapU64 (by omega) (by omega)]
      refine ⟨_, rfl, ⟨xs ++ [x], l3, b3, R3.ext (X4.mono (by omega)), (U2.trans U3).fresh X4, by simpa using R4, by simp; omega, by simp; omega, fun y hy => ?_, by dsimp only; omega, by dsimp only; simp; omega, fun hb => ?_⟩, by dsimp only; omega⟩
      · rcases List.mem_append.1 hy with hy | hy
        · exact xr y hy
        · simp at hy; subst hy; exact xg
      · obtain ⟨hb2, q3⟩ := e3 hb
        obtain ⟨hb1, q⟩ := ex hb2
        exact ⟨hb1, by rw [q, q3]; simp⟩
    · rw [if_neg (by
        simp only [Bool.and_eq_true, Bool.not_eq_true', decide_eq_true_eq]
        rintro ⟨h1, h2⟩; exact hg ⟨h1, by omega⟩)]
      exact fin fun hb h64 => absurd ⟨hb, h64⟩ hg
  · rw [if_neg (by simpa using hi)]
    unfold pack_reader_ids_g2
    rw [if_neg (by simp)]
    exact fin fun _ _ => by omega
theorem packr_pieces_ok {k : Slc → Heap → Prop} (R : Rd 173 h r l bad)
    (H : ∀ (s : Slc) (xs : List S_api_Piece) (l' : List Int) (b' : Bool) (h' : Heap), Rd 173 h' r l' b' → Upd r h h' → Row h.size h' 50 5 s (xs.flatMap S_api_Piece.cs) → s.len = xs.length → xs.length ≤ 33 → (∀ x ∈ xs, 0 ≤ x.f_Id.f_N ∧ 0 ≤ x.f_Id.f_Node ∧ x.f_Id.f_Node < 65536 ∧ x.f_Id.f_N < 18446744073709551616) → (b' = false → bad = false ∧ l'.length ≤ l.length ∧ (xs.length ≤ 32 → l = shortL xs.length ++ xs.flatMap pieceL ++ l')) → k s h') : pack_reader_pieces (some ⟨r, 0, none⟩) k h := by
  unfold pack_reader_pieces
  have rl := R.lt
  refine packr_short2 R fun n l1 b1 h1 R1 U1 n0 n1 e1 => ?_
  have z1 := U1.size
  refine ⟨fun q h' => ∃ (xs : List S_api_Piece) (l' : List Int) (b' : Bool), Rd 173 h' r l' b' ∧ Upd r h h' ∧ Row h.size h' 50 5 q.1 (xs.flatMap S_api_Piece.cs) ∧ q.1.len = xs.length ∧ xs.length ≤ 33 ∧ (∀ x ∈ xs, 0 ≤ x.f_Id.f_N ∧ 0 ≤ x.f_Id.f_Node ∧ x.f_Id.f_Node < 65536 ∧ x.f_Id.f_N < 18446744073709551616) ∧ 0 ≤ q.2 ∧ q.2 + xs.length = n ∧ (b' = false → b1 = false ∧ l1 = xs.flatMap pieceL ++ l'), fun q _ => q.2.toNat,
    ⟨[], l1, b1, R1, U1, Row.nil _ _ _ _, rfl, by simp, by simp, n0, by simp, fun hb => ⟨hb, rfl⟩⟩, ?_⟩
  rintro s i h2 ⟨xs, l2, b2, R2, U2, Rw, sl, xl, xr, i0, ix, ex⟩
  dsimp only at Rw sl i0 ix
  have z2 := U2.size
  have fin : (b2 = false → xs.length ≤ 32 → i = 0) → k s h2 := fun hi => by
    refine H s xs l2 b2 h2 R2 U2 Rw sl xl xr fun hb => ?_
    obtain ⟨hb1, q⟩ := ex hb
    obtain ⟨hb0, q1⟩ := e1 hb1
    refine ⟨hb0, by rw [q1, q, List.length_append, List.length_append]; omega, fun h64 => ?_⟩
    have := hi hb h64
    rw [q1, q, show (n : Int) = (xs.length : Int) from by omega, List.append_assoc]
  unfold pack_reader_pieces_l1b
  by_cases hi : i > 0
  · rw [if_pos (by simpa using hi)]
    obtain ⟨sd, Kd, Sd, rest⟩ := R2
    have R2 : Rd 173 h2 r l2 b2 := ⟨sd, Kd, Sd, rest⟩
    refine ⟨_, rfl, b2, by rw [add_mk, Kd.cell]; rfl, ?_⟩
    unfold pack_reader_pieces_g2
    by_cases hg : b2 = false ∧ xs.length ≤ 32
    · rw [if_pos (by simp [hg.1]; omega)]
      refine packr_text2 R2 fun t l3 b3 h3 R3 U3 tz e3 => ?_
      have z3 := U3.size
      refine packr_number2 R3 (by omega) (by omega) fun v1 l4 b4 h4 R4 U4 v10 v11 e4 => ?_
      have z4 := U4.size
      refine packr_number2 R4 (by omega) (by omega) fun v2 l5 b5 h5 R5 U5 v20 v21 e5 => ?_
      have z5 := U5.size
      refine ⟨_, _, rfl, rfl, ?_⟩
      have Q := Blk.push h5 (S_api_Piece.cs ⟨ByteArray.empty, 0, 0, ⟨0, 0⟩⟩) 50
      have Q2 := Q.sets_all (vs := S_api_Piece.cs ⟨t, IntKind.i64.wrap v1, IntKind.i64.wrap v2, ⟨0, 0⟩⟩) rfl
      have W6 := (Ext.push h5 (.cells (S_api_Piece.cs ⟨ByteArray.empty, 0, 0, ⟨0, 0⟩⟩).toArray 50) (Nat.le_refl _)).trans (Ext.sets _ (a := ⟨h5.size, 0, none⟩) 0 (S_api_Piece.cs ⟨t, IntKind.i64.wrap v1, IntKind.i64.wrap v2, ⟨0, 0⟩⟩) (Nat.le_refl _))
      refine ⟨_, WrsAt.of_blk Q (by decide), rfl, ?_⟩
      generalize setsH (h5.push (.cells (S_api_Piece.cs ⟨ByteArray.empty, 0, 0, ⟨0, 0⟩⟩).toArray 50)) ⟨h5.size, 0, none⟩ 0 (S_api_Piece.cs ⟨t, IntKind.i64.wrap v1, IntKind.i64.wrap v2, ⟨0, 0⟩⟩) = h6 at *
      have z6 := W6.size
      have ql := Q2.lt
      refine packr_id_ok (R5.ext (W6.mono (by omega))) fun x l7 b7 h7 R7 U7 xg e7 => ?_
      have z7 := U7.size
      have Q7 := U7.blk Q2 (by omega)
      refine ⟨_, fun j hj => by rw [add_mk, add_mk]; exact Q7.wr (by rw [show (S_api_Piece.cs ⟨t, IntKind.i64.wrap v1, IntKind.i64.wrap v2, ⟨0, 0⟩⟩).length = 5 from rfl]; omega), rfl, ?_⟩
      rw [show (⟨h5.size, 0, none⟩ : Addr).add 3 = ⟨h5.size, 3, none⟩ from by simp]
      have Q8 := Q7.sets (S_api_Id.cs x) 3 0 (by show 3 + 0 + 2 ≤ 5; omega)
      rw [show (S_api_Piece.cs ⟨t, IntKind.i64.wrap v1, IntKind.i64.wrap v2, ⟨0, 0⟩⟩).take (3 + 0) ++ S_api_Id.cs x ++ (S_api_Piece.cs ⟨t, IntKind.i64.wrap v1, IntKind.i64.wrap v2, ⟨0, 0⟩⟩).drop (3 + 0 + (S_api_Id.cs x).length) = S_api_Piece.cs ⟨t, IntKind.i64.wrap v1, IntKind.i64.wrap v2, x⟩ from rfl] at Q8
      have X8 : Ext h5.size h7 (setsH h7 ⟨h5.size, 3, none⟩ 0 (S_api_Id.cs x)) := Ext.sets _ _ _ (Nat.le_refl _)
      generalize setsH h7 ⟨h5.size, 3, none⟩ 0 (S_api_Id.cs x) = h8 at *
      have z8 := X8.size
      refine ⟨_, CellsAt.of_blk Q8, _, _, rfl, rfl, ?_⟩
      have U27 : Upd r h2 h7 := ((U3.trans (U4.trans U5)).fresh (W6.mono (by omega))).trans U7
      have U28 : Upd r h2 h8 := U27.fresh (X8.mono (by omega))
      have Rw8 : Row h.size h8 50 5 s (xs.flatMap S_api_Piece.cs) := Rw.keep fun g hg => U28.block g (Rw.bd hg).2 (by have := (Rw.bd hg).1; omega)
      refine App.row (Rw8.pushed _) (by simp; omega) rfl rfl (oneC (by kernel_rfl)) (by omega) (by simp only [maxLen]; omega) fun s' h9 R9 l9 z9 F9 _ => ?_
      simp at z9
      have X9 : Ext h.size h8 h9 := ⟨by omega, fun g hg => by rw [F9 g (by simp; omega) fun e => by have := (Rw8.bd e).1; omega, Array.getElem?_push, if_neg (by omega)]⟩
      rw [wrapU64 (by omega) (by omega)]
      refine ⟨_, rfl, ⟨xs ++ [⟨t, IntKind.i64.wrap v1, IntKind.i64.wrap v2, x⟩], l7, b7, (R7.ext (X8.mono (by omega))).ext (X9.mono (by omega)), (U2.trans U28).fresh X9, by simpa using R9, by simp; omega, by simp; omega, fun y hy => ?_, by dsimp only; omega, by dsimp only; simp; omega, fun hb => ?_⟩, by dsimp only; omega⟩
      · rcases List.mem_append.1 hy with hy | hy
        · exact xr y hy
        · simp at hy; subst hy; exact xg
      · obtain ⟨hb5, q7⟩ := e7 hb
        obtain ⟨hb4, q5⟩ := e5 hb5
        obtain ⟨hb3, q4⟩ := e4 hb4
        obtain ⟨hb2, q3⟩ := e3 hb3
        obtain ⟨hb1, q⟩ := ex hb2
        refine ⟨hb1, ?_⟩
        rw [q, q3, q4, q5, q7]
        simp only [List.flatMap_append, List.flatMap_cons, List.flatMap_nil, List.append_nil, pieceL, wrapI_wide v10 v11, wrapI_wide v20 v21, List.append_assoc]
        rfl
    · rw [if_neg (by
        simp only [Bool.and_eq_true, Bool.not_eq_true', decide_eq_true_eq]
        rintro ⟨h1, h2⟩; exact hg ⟨h1, by omega⟩)]
      exact fin fun hb h64 => absurd ⟨hb, h64⟩ hg
  · rw [if_neg (by simpa using hi)]
    unfold pack_reader_pieces_g2
    rw [if_neg (by simp)]
    exact fin fun _ _ => by omega
end
end Go.Q.Yb
