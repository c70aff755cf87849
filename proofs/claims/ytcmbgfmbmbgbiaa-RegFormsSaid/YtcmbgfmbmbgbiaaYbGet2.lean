/- A part of the proof of statements of this seat: lemmas, no statement of their own. -/
import Derived.Test.YtcmbgfmbmbgbiaaYbGet1
import Derived.Test.YtcmbgfmbmbgbiaaYbEven
set_option linter.unusedVariables false
set_option linter.unusedSimpArgs false
namespace Go.Q.Yb
section
variable {h : Heap} {r : Nat} {l : List Int} {bad : Bool}
theorem raftr_bytes2 {n : Int} {k : Slc → Heap → Prop} (R : Rd 251 h r l bad) (n0 : 0 ≤ n)
    (H : ∀ (s : Slc) (x l' : List Int) (b' : Bool) (h' : Heap), Rd 251 h' r l' b' → Upd r h h' → Row h.size h' 5 1 s (b8 x) → isB x → (b' = false → bad = false ∧ l = x ++ l' ∧ (x.length : Int) = n) → k s h') : raft_reader_bytes (some ⟨r, 0, none⟩) n k h := by
  have hB := R.isB
  refine raftr_bytes_ok R n0 (fun s h' b hn R' U S => ?_) fun h' R' U => ?_
  · exact H s (l.take n.toNat) _ false h' R' U S (isB_take hB _) fun _ => ⟨b, (List.take_append_drop _ _).symm, by rw [List.length_take]; omega⟩
  · exact H _ [] l true h' R' U (Row.nil _ _ _ _) (by intro b hb; cases hb) fun h => by cases h
theorem raftr_byte2 {k : Int → Heap → Prop} (R : Rd 251 h r l bad)
    (H : ∀ v l' b' h', Rd 251 h' r l' b' → Upd r h h' → 0 ≤ v → v < 256 → (b' = false → bad = false ∧ l = [v] ++ l') → k v h') : raft_reader_byte (some ⟨r, 0, none⟩) k h :=
  raftr_byte_ok R (fun v l' h' b e v0 v1 R' U => H v l' false h' R' U v0 v1 fun _ => ⟨b, e⟩) fun l' h' R' U => H 0 l' true h' R' U (by omega) (by omega) fun h => by cases h
end
/-- what is known while a message is read: the answer's box, the reader, the message's box, the entries so far -/
structure MS (h0 h : Heap) (r q : Nat) (l : List Int) (b : Bool) (m : S_api_Msg) (vs : List S_api_Entry) (es : List Ent) : Prop where
  P : Blk h h0.size (S_api_Msg.cs ⟨0, 0, 0, 0, 0, false, ⟨none, 0, 0⟩, ⟨none, 0, 0⟩⟩) 40
  R : Rd 251 h r l b
  Q : Blk h q (S_api_Msg.cs m) 40
  E : Row (q + 1) h 254 2 m.f_Entries (vs.flatMap S_api_Entry.cs)
  el : vs.length = es.length
  en : ∀ (i : Nat) v e, vs[i]? = some v → es[i]? = some e → v.f_Term = e.1 ∧ Row (q + 1) h 5 1 v.f_Cmd (b8 e.2)
  er : ∀ e ∈ es, (0 ≤ e.1 ∧ e.1 < 18446744073709551616) ∧ isB e.2
  X : Ext h0.size h0 h
  o1 : h0.size < r
  o2 : r < q
/-- what goes on beside the boxes -/
theorem MS.upd {h0 h h' : Heap} {r q : Nat} {l l' : List Int} {b b' : Bool} {m : S_api_Msg} {vs : List S_api_Entry} {es : List Ent} (M : MS h0 h r q l b m vs es) (U : Upd r h h') (R : Rd 251 h' r l' b') : MS h0 h' r q l' b' m vs es :=
  have o1 := M.o1
  have o2 := M.o2
  have xs := M.X.size
  ⟨U.blk M.P (by omega), R, U.blk M.Q (by omega), M.E.keep fun g hg => U.block g (M.E.bd hg).2 (by have := (M.E.bd hg).1; omega), M.el, fun i v e hv he => ⟨(M.en i v e hv he).1, (M.en i v e hv he).2.keep fun g hg => U.block g ((M.en i v e hv he).2.bd hg).2 (by have := ((M.en i v e hv he).2.bd hg).1; omega)⟩, M.er, M.X.trans (U.ext (by omega) xs), o1, o2⟩
theorem MS.ext {h0 h h' : Heap} {r q : Nat} {l : List Int} {b : Bool} {m : S_api_Msg} {vs : List S_api_Entry} {es : List Ent} (M : MS h0 h r q l b m vs es) (X : Ext h.size h h') : MS h0 h' r q l b m vs es :=
  M.upd (Upd.of_ext X) (M.R.ext (X.mono M.R.lt))
theorem MS.ents {h0 h : Heap} {r q : Nat} {l : List Int} {b : Bool} {m : S_api_Msg} {vs : List S_api_Entry} {es : List Ent} (M : MS h0 h r q l b m vs es) : m.f_Entries.len = es.length := by
  have := M.E.1
  rw [fm_len (w := 2) (fun x => rfl)] at this
  have := M.el; omega
abbrev zMsg : S_api_Msg := ⟨0, 0, 0, 0, 0, false, ⟨none, 0, 0⟩, ⟨none, 0, 0⟩⟩
theorem mGet_bad {h0 h : Heap} {r q : Nat} {l : List Int} {b : Bool} {m : S_api_Msg} {vs : List S_api_Entry} {es : List Ent} {k : S_api_Msg × Int → Heap → Prop} (M : MS h0 h r q l b m vs es) (H2 : ∀ h', Ext h0.size h0 h' → k (zMsg, 4) h') : raft_Get_g2 ⟨h0.size, 0, none⟩ ⟨q, 0, none⟩ true k h := by
  unfold raft_Get_g2
  rw [if_pos rfl]
  exact ⟨_, WrsAt.of_blk M.P (by decide), rfl, _, CellsAt.of_blk (M.P.sets_all (vs := S_api_Msg.cs zMsg) rfl), H2 _ (M.X.trans (Ext.sets _ _ _ (Nat.le_refl _)))⟩
/-- the end of a message -/
theorem mGet_j1_ok {h0 h : Heap} {r q : Nat} {l : List Int} {b : Bool} {m : S_api_Msg} {vs : List S_api_Entry} {es : List Ent} {k : S_api_Msg × Int → Heap → Prop} (M : MS h0 h r q l b m vs es)
    (r1 : 0 ≤ m.f_Term ∧ m.f_Term < 18446744073709551616) (r2 : 0 ≤ m.f_Index ∧ m.f_Index < 18446744073709551616) (r3 : 0 ≤ m.f_LogTerm ∧ m.f_LogTerm < 18446744073709551616) (r4 : 0 ≤ m.f_Commit ∧ m.f_Commit < 18446744073709551616)
    (H1 : ∀ snap s h', b = false → l = tx snap → Held h0.size h' (fun h' => MsgAt h' { m with f_Snap := s } vs es snap) → Ext h0.size h0 h' → k ({ m with f_Snap := s }, 0) h') (H2 : ∀ h', Ext h0.size h0 h' → k (zMsg, 4) h') : raft_Get_j1 ⟨h0.size, 0, none⟩ ⟨r, 0, none⟩ ⟨q, 0, none⟩ k h := by
  unfold raft_Get_j1
  have o1 := M.o1
  have o2 := M.o2
  refine raftr_short2 M.R fun v l1 b1 h1 R1 U1 v0 v1 e1 => ?_
  have M1 := M.upd U1 R1
  refine raftr_bytes2 M1.R v0 fun s x l2 b2 h2 R2 U2 Rw xB e2 => ?_
  have M2 := M1.upd U2 R2
  have q1 := M1.Q.lt
  refine ⟨_, by rw [add_mk]; exact M2.Q.wr (by rw [show (S_api_Msg.cs m).length = 8 from rfl]; omega), rfl, ?_⟩
  rw [show (⟨q, 0, none⟩ : Addr).add 7 = ⟨q, 7, none⟩ from by simp]
  have Q3 := M2.Q.set (i := 7) (v := Slc.v s)
  rw [show (S_api_Msg.cs m).set 7 (Slc.v s) = S_api_Msg.cs { m with f_Snap := s } from rfl] at Q3
  have X3 : Ext q h2 (setH h2 ⟨q, 7, none⟩ (Slc.v s)) := Ext.set _ _ (Nat.le_refl _)
  have old : ∀ g, g ≠ q → (setH h2 ⟨q, 7, none⟩ (Slc.v s))[g]? = h2[g]? := fun g hg => setH_other hg
  have M3 : MS h0 (setH h2 ⟨q, 7, none⟩ (Slc.v s)) r q l2 b2 { m with f_Snap := s } vs es :=
    ⟨M2.P.old (old _ (by omega)), M2.R.ext (X3.mono (by omega)), Q3, M2.E.keep fun g hg => old g (by have := (M2.E.bd hg).1; omega), M2.el, fun i v e hv he => ⟨(M2.en i v e hv he).1, (M2.en i v e hv he).2.keep fun g hg => old g (by have := ((M2.en i v e hv he).2.bd hg).1; omega)⟩, M2.er, M2.X.trans (X3.mono (by omega)), o1, o2⟩
  have Rw3 : Row h1.size (setH h2 ⟨q, 7, none⟩ (Slc.v s)) 5 1 s (b8 x) := Rw.keep fun g hg => old g (by have := (Rw.bd hg).1; omega)
  generalize setH h2 ⟨q, 7, none⟩ (Slc.v s) = h3 at *
  obtain ⟨sd, Kd, Sd, sdl, _⟩ := M3.R
  refine ⟨b2, by rw [add_mk, Kd.cell]; rfl, ?_⟩
  cases hb : b2 with
  | true => rw [if_pos rfl]; exact mGet_bad M3 H2
  | false =>
    rw [if_neg (by simp)]
    refine ⟨sd, by rw [Kd.cell]; rfl, ?_⟩
    by_cases hr : l2.length > 0
    · rw [show decide ((sd.len : Int) > 0) = true from by rw [decide_eq_true_eq]; omega]; exact mGet_bad M3 H2
    · rw [show decide ((sd.len : Int) > 0) = false from by rw [decide_eq_false_iff_not]; omega]
      unfold raft_Get_g2
      rw [if_neg (by simp)]
      have l20 : l2 = [] := List.eq_nil_of_length_eq_zero (by omega)
      obtain ⟨c1, p2, p3⟩ := e2 hb
      obtain ⟨c0, p1⟩ := e1 c1
      refine ⟨_, CellsAt.of_blk M3.Q, _, WrsAt.of_blk M3.P (by decide), rfl, _, CellsAt.of_blk (M3.P.sets_all (vs := S_api_Msg.cs { m with f_Snap := s }) rfl), ?_⟩
      have X4 : Ext h0.size h3 (setsH h3 ⟨h0.size, 0, none⟩ 0 (S_api_Msg.cs { m with f_Snap := s })) := Ext.sets _ _ _ (Nat.le_refl _)
      have old4 : ∀ g, g ≠ h0.size → (setsH h3 ⟨h0.size, 0, none⟩ 0 (S_api_Msg.cs { m with f_Snap := s }))[g]? = h3[g]? := fun g hg => setsH_other _ _ hg
      have E4 : Row (q + 1) _ 254 2 m.f_Entries (vs.flatMap S_api_Entry.cs) := M3.E.keep fun g hg => old4 g (by have := (M3.E.bd hg).1; omega)
      have Rw4 : Row h1.size _ 5 1 s (b8 x) := Rw3.keep fun g hg => old4 g (by have := (Rw3.bd hg).1; omega)
      have hvl : m.f_Entries.len = vs.length := by
        have a1 := M.el
        have a2 := M.ents
        omega
      refine H1 x s _ c0 (by rw [p1, p2, l20, tx, p3]; simp) (fun h5 e5 => ?_) (M3.X.trans X4)
      have E5 := E4.keep fun g hg => e5 g (by have := (E4.bd hg).1; omega) (E4.bd hg).2
      have Rw5 := Rw4.keep fun g hg => e5 g (by have := (Rw4.bd hg).1; omega) (Rw4.bd hg).2
      refine ⟨LsAt.of_slc (w := 2) (fun x => rfl) E5.slc hvl (by decide), M3.el, fun i v e hv he => ?_, M3.er, Rw5.slc, Rw5.pb, xB, r1, r2, r3, r4⟩
      obtain ⟨a1, a2⟩ := M3.en i v e hv he
      have a3 : Row (q + 1) _ 5 1 v.f_Cmd (b8 e.2) := a2.keep fun g hg => old4 g (by have := (a2.bd hg).1; omega)
      have a4 := a3.keep fun g hg => e5 g (by have := (a3.bd hg).1; omega) (a3.bd hg).2
      exact ⟨a1, a4.slc, a4.pb⟩
end Go.Q.Yb
