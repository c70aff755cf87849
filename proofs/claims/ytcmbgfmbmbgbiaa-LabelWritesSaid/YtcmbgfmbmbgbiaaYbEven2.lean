/- A part of the proof of statements of this seat: lemmas, no statement of their own. -/
import Derived.Test.YtcmbgfmbmbgbiaaYbEven
set_option linter.unusedVariables false
set_option linter.unusedSimpArgs false
namespace Go.Q.Yb
theorem g13_ok {s : Slc} {xs : List S_api_Piece} {k : Bool → Heap → Prop} {h : Heap} {m : Int} (L : LsAt S_api_Piece.cs 5 h s xs) (m0 : 0 ≤ m) (m1 : m ≤ 1000) (H : ∀ r, (r = false → xs.length ≤ m.toNat ∧ ∀ p ∈ xs, p.f_Series.size ≤ 400) → k r h) : ref13_Great s m k h := by
  unfold ref13_Great
  have ll := L.l
  refine ⟨fun i h' => 0 ≤ i ∧ i ≤ xs.length ∧ i ≤ m ∧ (∀ p ∈ xs.take i.toNat, p.f_Series.size ≤ 400) ∧ h' = h, fun i _ => (xs.length - i).toNat, ⟨by omega, by omega, by omega, by simp, rfl⟩, ?_⟩
  rintro i h' ⟨i0, i1, i2, ha, e⟩
  subst e
  unfold ref13_Great_l1b
  by_cases hi : i < xs.length ∧ i < m
  · rw [if_pos (by simp; omega)]
    have hx : xs[i.toNat]? = some (xs[i.toNat]'(by omega)) := by simp
    generalize xs[i.toNat]'(by omega) = x at *
    obtain ⟨a, h1, h2⟩ := L.at' _ _ hx
    refine ⟨a, h1, i0, by omega, x.f_Series, by have := h2 0 _ rfl; rwa [show (a.add (i.toNat * 5)).add 0 = a.add (i.toNat * 5) from by simp [Addr.add]] at this, ?_⟩
    by_cases hb : x.f_Series.size > 400
    · rw [if_pos (by rw [decide_eq_true_eq]; omega)]
      exact H true fun e => by cases e
    · rw [if_neg (by rw [decide_eq_true_eq]; omega), wrapI64 (by omega) (by omega)]
      refine ⟨_, rfl, ⟨by omega, by omega, by omega, fun p hp => ?_, rfl⟩, by dsimp only; omega⟩
      rw [show (i + 1).toNat = i.toNat + 1 from by omega, List.take_add_one, hx] at hp
      simp only [Option.toList_some, List.mem_append, List.mem_singleton] at hp
      rcases hp with hp | rfl
      · exact ha p hp
      · omega
  · rw [if_neg (by simp only [Bool.and_eq_true, decide_eq_true_eq]; omega)]
    refine H _ fun hr => ?_
    rw [decide_eq_false_iff_not] at hr
    rw [List.take_of_length_le (by omega)] at ha
    exact ⟨by omega, ha⟩
theorem g23_ok {s : Slc} {vs : List S_api_Entry} {es : List Ent} {k : Bool → Heap → Prop} {h : Heap} (L : LsAt S_api_Entry.cs 2 h s vs) (el : vs.length = es.length) (en : ∀ (i : Nat) v e, vs[i]? = some v → es[i]? = some e → v.f_Cmd.len = e.2.length)
    (H : ∀ r, (r = false → es.length ≤ 100 ∧ ∀ e ∈ es, e.2.length ≤ 300) → k r h) : ref23_Great s k h := by
  unfold ref23_Great
  have ll := L.l
  refine ⟨fun i h' => 0 ≤ i ∧ i ≤ es.length ∧ i ≤ 100 ∧ (∀ e ∈ es.take i.toNat, e.2.length ≤ 300) ∧ h' = h, fun i _ => (es.length - i).toNat, ⟨by omega, by omega, by omega, by simp, rfl⟩, ?_⟩
  rintro i h' ⟨i0, i1, i2, ha, e⟩
  subst e
  unfold ref23_Great_l1b
  by_cases hi : i < es.length ∧ i < 100
  · rw [if_pos (by simp; omega)]
    have hx : vs[i.toNat]? = some (vs[i.toNat]'(by omega)) := by simp
    have he : es[i.toNat]? = some (es[i.toNat]'(by omega)) := by simp
    generalize vs[i.toNat]'(by omega) = x at *
    generalize es[i.toNat]'(by omega) = e at *
    have hl := en _ _ _ hx he
    obtain ⟨a, h1, h2⟩ := L.at' _ _ hx
    refine ⟨a, h1, i0, by omega, x.f_Cmd, h2 1 _ rfl, ?_⟩
    by_cases hb : e.2.length > 300
    · rw [if_pos (by rw [decide_eq_true_eq]; omega)]
      exact H true fun e => by cases e
    · rw [if_neg (by rw [decide_eq_true_eq]; omega), wrapI64 (by omega) (by omega)]
      refine ⟨_, rfl, ⟨by omega, by omega, by omega, fun p hp => ?_, rfl⟩, by dsimp only; omega⟩
      rw [show (i + 1).toNat = i.toNat + 1 from by omega, List.take_add_one, he] at hp
      simp only [Option.toList_some, List.mem_append, List.mem_singleton] at hp
      rcases hp with hp | rfl
      · exact ha p hp
      · omega
  · rw [if_neg (by simp only [Bool.and_eq_true, decide_eq_true_eq]; omega)]
    refine H _ fun hr => ?_
    rw [decide_eq_false_iff_not] at hr
    rw [List.take_of_length_le (by omega)] at ha
    exact ⟨by omega, ha⟩
theorem g26_ok {m : S_api_Msg} {vs : List S_api_Entry} {es : List Ent} {snap : List Int} {k : Bool → Heap → Prop} {h : Heap} (A : MsgAt h m vs es snap) (H : ∀ r h', Ext h.size h h' → (r = false → MsgSm es snap) → k r h') : ref26_Great m k h := by
  unfold ref26_Great
  refine ⟨_, _, rfl, rfl, ?_⟩
  have P := Blk.push h (S_api_Msg.cs m) 40
  have W := Ext.push h (.cells (S_api_Msg.cs m).toArray 40) (Nat.le_refl _)
  obtain ⟨h2, e2⟩ : ∃ y, y = h.push (.cells (S_api_Msg.cs m).toArray 40) := ⟨_, rfl⟩
  rw [← e2] at P W ⊢
  have A2 := A.ext W
  refine ⟨_, by rw [add_mk, P.cell]; rfl, g23_ok A2.ls A2.el (fun i v e hv he => (A2.en i v e hv he).2.2) fun r hr => ?_⟩
  unfold ref26_Great_g1
  cases r with
  | true => rw [if_pos rfl]; exact H true h2 W fun e => by cases e
  | false =>
    rw [if_neg (by simp)]
    have := hr rfl
    refine ⟨_, by rw [add_mk, P.cell]; rfl, H _ h2 W fun h1 => ?_⟩
    rw [decide_eq_false_iff_not] at h1
    have sl := A.sl
    exact ⟨by omega, fun e he => by have := this.2 e he; omega, by omega⟩
theorem g25_ok {s : Slc} {c : S_api_Command} {wr : List Int} {k : Bool → Heap → Prop} {h : Heap} {a : Addr} (hs : s.a = some a) (hl : s.len = 1) (C : CellsAt h a (S_api_Command.cs c)) (wl : c.f_Wrapped.len = wr.length)
    (H : ∀ r, (r = false → c.f_Tenant.size ≤ 100 ∧ wr.length ≤ 200) → k r h) : ref25_Great s 1 k h := by
  unfold ref25_Great
  refine ⟨fun i h' => 0 ≤ i ∧ i ≤ 1 ∧ (i = 1 → c.f_Tenant.size ≤ 100 ∧ wr.length ≤ 200) ∧ h' = h, fun i _ => (1 - i).toNat, ⟨by omega, by omega, by omega, rfl⟩, ?_⟩
  rintro i h' ⟨i0, i1, ha, e⟩
  subst e
  unfold ref25_Great_l1b
  by_cases hi : i < 1
  · have : i = 0 := by omega
    subst this
    rw [if_pos (by simp [hl])]
    have e0 : (a.add ((0 : Int).toNat * 17)) = a := by simp [Addr.add]
    refine ⟨a, hs, by omega, by omega, c.f_Tenant, by rw [e0]; exact C 1 _ rfl, ?_⟩
    by_cases hb : c.f_Tenant.size > 100
    · rw [if_pos (by rw [decide_eq_true_eq]; omega)]
      unfold ref25_Great_g2
      rw [if_pos rfl]
      exact H true fun e => by cases e
    · rw [if_neg (by rw [decide_eq_true_eq]; omega)]
      refine ⟨a, hs, by omega, by omega, c.f_Wrapped, by rw [e0]; exact C 15 _ rfl, ?_⟩
      unfold ref25_Great_g2
      by_cases hw : wr.length > 200
      · rw [if_pos (by rw [decide_eq_true_eq]; omega)]
        exact H true fun e => by cases e
      · rw [if_neg (by rw [decide_eq_true_eq]; omega), wrapI64 (by omega) (by omega)]
        exact ⟨_, rfl, ⟨by omega, by omega, fun _ => ⟨by omega, by omega⟩, rfl⟩, by dsimp only; omega⟩
  · rw [if_neg (by simp only [Bool.and_eq_true, decide_eq_true_eq]; omega)]
    exact H _ fun _ => ha (by omega)
variable {n : S_api_Note} {ps ps' : List S_api_Piece} {ids : List S_api_Id} {wr : List Int} {vs : List S_api_Entry} {es : List Ent} {snap : List Int}
theorem g27_ok {k : Bool → Heap → Prop} {h : Heap} (A : NoteAt h n ps ids wr vs es snap) (H : ∀ r h', Ext h.size h h' → (r = false → NoteSm n ps ids wr es snap ∧ ps.length ≤ 40) → k r h') : ref27_Great n k h := by
  unfold ref27_Great
  refine ⟨_, _, rfl, rfl, ?_⟩
  have P := Blk.push h (S_api_Note.cs n) 42
  have W := Ext.push h (.cells (S_api_Note.cs n).toArray 42) (Nat.le_refl _)
  obtain ⟨h2, e2⟩ : ∃ y, y = h.push (.cells (S_api_Note.cs n).toArray 42) := ⟨_, rfl⟩
  rw [← e2] at P W ⊢
  have z2 := W.size
  have A2 := A.ext W
  have il := A.ia.l
  have f5 : ∀ h', Ext h.size h h' → k true h' := fun h' X => H true h' X fun e => by cases e
  have t1 : ref27_Great_g1 ⟨h.size, 0, none⟩ true k h2 := by
    unfold ref27_Great_g1; rw [if_pos rfl]
    unfold ref27_Great_g2; rw [if_pos rfl]
    unfold ref27_Great_g3; rw [if_pos rfl]
    unfold ref27_Great_g4; rw [if_pos rfl]
    exact f5 h2 W
  refine ⟨_, by rw [add_mk, P.cell]; rfl, g13_ok A2.pa (by omega) (by omega) fun r hr => ?_⟩
  cases r with
  | true => rw [if_pos rfl]; exact t1
  | false =>
    rw [if_neg (by simp)]
    obtain ⟨p1, p2⟩ := hr rfl
    refine ⟨n.f_Ids, by rw [add_mk, P.cell]; rfl, ?_⟩
    by_cases hi : ids.length > 80
    · rw [show decide ((n.f_Ids.len : Int) > 80) = true from by rw [decide_eq_true_eq]; omega]; exact t1
    · rw [show decide ((n.f_Ids.len : Int) > 80) = false from by rw [decide_eq_false_iff_not]; omega]
      unfold ref27_Great_g1; rw [if_neg (by simp)]
      refine ⟨n.f_Tenant, by rw [add_mk, P.cell]; rfl, ?_⟩
      by_cases ht : n.f_Tenant.size > 1000
      · rw [show decide ((n.f_Tenant.size : Int) > 1000) = true from by rw [decide_eq_true_eq]; omega]
        unfold ref27_Great_g2; rw [if_pos rfl]
        unfold ref27_Great_g3; rw [if_pos rfl]
        unfold ref27_Great_g4; rw [if_pos rfl]
        exact f5 h2 W
      · rw [show decide ((n.f_Tenant.size : Int) > 1000) = false from by rw [decide_eq_false_iff_not]; omega]
        unfold ref27_Great_g2; rw [if_neg (by simp)]
        refine ⟨n.f_Q.f_Select, by rw [add_mk, P.cell]; rfl, ?_⟩
        by_cases hq : n.f_Q.f_Select.size > 1000
        · rw [show decide ((n.f_Q.f_Select.size : Int) > 1000) = true from by rw [decide_eq_true_eq]; omega]
          unfold ref27_Great_g3; rw [if_pos rfl]
          unfold ref27_Great_g4; rw [if_pos rfl]
          exact f5 h2 W
        · rw [show decide ((n.f_Q.f_Select.size : Int) > 1000) = false from by rw [decide_eq_false_iff_not]; omega]
          unfold ref27_Great_g3; rw [if_neg (by simp)]
          refine ⟨n.f_Cmd, by rw [add_mk]; exact P.part (n := 17) rfl, _, _, rfl, rfl, ?_⟩
          have C := Blk.push h2 (S_api_Command.cs n.f_Cmd) 32
          have W3 := Ext.push h2 (.cells (S_api_Command.cs n.f_Cmd).toArray 32) (Nat.le_refl _)
          obtain ⟨h3, e3⟩ : ∃ y, y = h2.push (.cells (S_api_Command.cs n.f_Cmd).toArray 32) := ⟨_, rfl⟩
          rw [← e3] at C W3 ⊢
          have X3 : Ext h.size h h3 := W.trans (W3.mono z2)
          refine g25_ok rfl rfl (CellsAt.of_blk C) A.cmd.wl fun r hr => ?_
          unfold ref27_Great_g4
          cases r with
          | true => rw [if_pos rfl]; exact f5 h3 X3
          | false =>
            rw [if_neg (by simp)]
            obtain ⟨c1, c2⟩ := hr rfl
            have P3 := P.ext W3 P.lt
            refine ⟨n.f_M, by rw [add_mk]; exact P3.part (n := 8) rfl, g26_ok (A2.ext W3).msg fun r h4 X4 hr => ?_⟩
            unfold ref27_Great_g5
            refine H r h4 (X3.trans (X4.mono X3.size)) fun e => ⟨⟨by omega, by omega, by omega, fun p hp => by have := p2 p hp; omega, by omega, ⟨by omega, by omega⟩, hr e⟩, by omega⟩
/-- the pieces' values -/
theorem Even_ok {p1 : Slc} {zs : List Int} {k : Bool → Heap → Prop} {h : Heap} (A : NoteAt h n ps ids wr vs es snap) (V : SlcAt h p1 (zs.map (Value.int .i64))) (vl : p1.len = zs.length) (H : ∀ h', Ext h.size h h' → k true h') : law27_PackEven n p1 k h := by
  unfold law27_PackEven
  refine ⟨_, _, rfl, rfl, ?_⟩
  have P := Blk.push h (S_api_Note.cs n) 42
  have W := Ext.push h (.cells (S_api_Note.cs n).toArray 42) (Nat.le_refl _)
  obtain ⟨h2, e2⟩ : ∃ y, y = h.push (.cells (S_api_Note.cs n).toArray 42) := ⟨_, rfl⟩
  rw [← e2] at P W ⊢
  have z2 := W.size
  have pl := P.lt
  refine ⟨n, CellsAt.of_blk P, g27_ok (A.ext W) fun r h5 X5 hr => ?_⟩
  have X05 : Ext h.size h h5 := W.trans (X5.mono z2)
  have z5 := X5.size
  cases r with
  | true =>
    rw [if_pos rfl]
    exact awake27_ok fun h' X => H h' (X05.trans (X.mono X05.size))
  | false =>
    rw [if_neg (by simp)]
    obtain ⟨S, p40⟩ := hr rfl
    have P5 := P.ext X5 pl
    refine ⟨n, CellsAt.of_blk P5, _, _, rfl, rfl, ?_⟩
    -- the copy
    have Q := Blk.push h5 (S_api_Note.cs ⟨0, 0, 0, 0, ByteArray.empty, ⟨none, 0, 0⟩, ⟨ByteArray.empty, 0, 0, 0, 0⟩, ⟨0, ByteArray.empty, 0, [], ⟨none, 0, 0⟩, 0⟩, 0, ⟨none, 0, 0⟩, ⟨0, []⟩, ⟨0, 0, 0, 0, 0, false, ⟨none, 0, 0⟩, ⟨none, 0, 0⟩⟩⟩) 42
    have Q2 := Q.sets_all (vs := S_api_Note.cs n) rfl
    have W6 := (Ext.push h5 (.cells (S_api_Note.cs ⟨0, 0, 0, 0, ByteArray.empty, ⟨none, 0, 0⟩, ⟨ByteArray.empty, 0, 0, 0, 0⟩, ⟨0, ByteArray.empty, 0, [], ⟨none, 0, 0⟩, 0⟩, 0, ⟨none, 0, 0⟩, ⟨0, []⟩, ⟨0, 0, 0, 0, 0, false, ⟨none, 0, 0⟩, ⟨none, 0, 0⟩⟩⟩).toArray 42) (Nat.le_refl _)).trans (Ext.sets _ (a := ⟨h5.size, 0, none⟩) 0 (S_api_Note.cs n) (Nat.le_refl _))
    refine ⟨_, WrsAt.of_blk Q (by decide), rfl, _, _, rfl, rfl, ?_⟩
    generalize setsH (h5.push (.cells (S_api_Note.cs ⟨0, 0, 0, 0, ByteArray.empty, ⟨none, 0, 0⟩, ⟨ByteArray.empty, 0, 0, 0, 0⟩, ⟨0, ByteArray.empty, 0, [], ⟨none, 0, 0⟩, 0⟩, 0, ⟨none, 0, 0⟩, ⟨0, []⟩, ⟨0, 0, 0, 0, 0, false, ⟨none, 0, 0⟩, ⟨none, 0, 0⟩⟩⟩).toArray 42)) ⟨h5.size, 0, none⟩ 0 (S_api_Note.cs n) = h6 at *
    have z6 := W6.size
    have ql := Q2.lt
    have E7 := Blk.push h6 ([] : List Value) 50
    have W7 := Ext.push h6 (.cells ([] : List Value).toArray 50) (Nat.le_refl _)
    have hsz : (h6.push (.cells ([] : List Value).toArray 50)).size = h6.size + 1 := by simp
    obtain ⟨h7, e7⟩ : ∃ y, y = h6.push (.cells ([] : List Value).toArray 50) := ⟨_, rfl⟩
    rw [← e7] at E7 W7 hsz ⊢
    have P7 := (P5.ext W6 P5.lt).ext W7 (P5.ext W6 P5.lt).lt
    have Q7 := Q2.ext W7 ql
    have A7 := ((A.ext X05).ext W6).ext W7
    have al := A7.pa.l
    refine ⟨n.f_Pieces, by rw [add_mk, P7.cell]; rfl, _, A7.pa.slc pc_len (by omega), ?_⟩
    have R0 : Row h6.size h7 50 5 ⟨some ⟨h6.size, 0, none⟩, 0, 0⟩ [] := ⟨by simp, by simp [maxLen], .inr ⟨_, _, rfl, Nat.le_refl _, E7, Nat.le_refl _, by simp, by simp⟩⟩
    refine App.row R0 (by omega) rfl (by rw [fm_len pc_len]; omega) (fun v hv => ?_) (by dsimp only; omega) (by dsimp only [maxLen]; omega) fun s8 h8 R8 l8 z8 F8 b8' => ?_
    · obtain ⟨x, _, hx⟩ := List.mem_flatMap.1 hv
      exact oneC (by kernel_rfl) v hx
    simp only [List.nil_append] at R8
    have old8 : ∀ g, g < h6.size → h8[g]? = h6[g]? := fun g hg => by
      rw [F8 g (by omega) (by simp [Slc.blk]; omega)]
      exact W7.block g hg
    have X8 : Ext h6.size h6 h8 := ⟨by omega, old8⟩
    have Q8 := Q2.ext X8 ql
    refine ⟨_, by rw [add_mk]; exact Q8.wr (by rw [show (S_api_Note.cs n).length = 71 from rfl]; omega), rfl, ?_⟩
    rw [add_mk, Nat.zero_add]
    have Q9 := Q8.set (i := 5) (v := Slc.v s8)
    have K9 : (S_api_Note.cs n).set 5 (Slc.v s8) = S_api_Note.cs { n with f_Pieces := s8 } := rfl
    rw [K9] at Q9
    have R9 : Row h6.size (setH h8 ⟨h5.size, 5, none⟩ (Slc.v s8)) 50 5 s8 (ps.flatMap S_api_Piece.cs) := R8.keep fun g hg => setH_other (by have := (R8.bd hg).1; dsimp only; omega)
    have U9 : Upd h5.size h8 (setH h8 ⟨h5.size, 5, none⟩ (Slc.v s8)) := ⟨by rw [setH_size]; exact Nat.le_refl _, fun j hj hne => setH_other (by simpa using hne)⟩
    generalize setH h8 ⟨h5.size, 5, none⟩ (Slc.v s8) = h9 at *
    have X59 : Ext h5.size h5 h9 := W6.trans ((X8.mono z6).trans (U9.ext (Nat.le_refl _) (by have := X8.size; omega)))
    have X09 : Ext h.size h h9 := X05.trans (X59.mono X05.size)
    have z9 : h6.size ≤ h9.size := by have := U9.size; have := X8.size; omega
    have P9 := P5.ext X59 P5.lt
    have n40 : ps.length ≤ 40 := p40
    -- the values are written
    refine ⟨fun i h' => ∃ ps', 0 ≤ i ∧ i ≤ ps.length ∧ ps'.map erase = ps.map erase ∧ Row h6.size h' 50 5 s8 (ps'.flatMap S_api_Piece.cs) ∧ Ext h6.size h9 h', fun i _ => (ps.length - i).toNat, ⟨ps, by omega, by omega, rfl, R9, Ext.refl _ _⟩, ?_⟩
    rintro i h10 ⟨ps', i0, i1, he, R, X⟩
    have z10 := X.size
    have pl' : ps'.length = ps.length := by have := congrArg List.length he; simpa using this
    have P10 := P9.ext X (by omega)
    have Q10 := Q9.ext X (by omega)
    have sl8 : s8.len = ps.length := by have := R.1; rw [fm_len pc_len] at this; omega
    have g5 : ∀ {h'}, Blk h' h5.size (S_api_Note.cs { n with f_Pieces := s8 }) 42 → cellH h' ((⟨h5.size, 0, none⟩ : Addr).add 5) = some (Slc.v s8) := fun K => by rw [add_mk, K.cell]; rfl
    unfold law27_PackEven_l1b
    refine ⟨s8, g5 Q10, ?_⟩
    by_cases hi : i < ps.length ∧ i < zs.length
    · rw [if_pos (by simp; omega)]
      have hx : ps'[i.toNat]? = some (ps'[i.toNat]'(by omega)) := by simp
      generalize ps'[i.toNat]'(by omega) = x at *
      have X010 : Ext h.size h h10 := X09.trans (X.mono (by have := X05.size; omega))
      have V10 : SlcAt h10 p1 (zs.map (Value.int .i64)) := ⟨V.1, fun b hb j w hj => by rw [X010.cell (cellH_lt (V.2 b hb j w hj))]; exact V.2 b hb j w hj⟩
      have hz : zs[i.toNat]? = some (zs[i.toNat]'(by omega)) := by simp
      generalize zs[i.toNat]'(by omega) = z at *
      obtain ⟨c, c1, c2⟩ := V10.get (i := i.toNat) (v := .int .i64 z) (by rw [List.getElem?_map, hz]; rfl)
      obtain ⟨g, a1⟩ : ∃ g, s8.a = some ⟨g, 0, none⟩ := by
        rcases R.2.2 with ⟨_, k, _⟩ | ⟨g, cur, a1, _⟩
        · omega
        · exact ⟨g, a1⟩
      obtain ⟨q1, q2, q3⟩ := R.setc (v := .int .i64 z) a1 (j := i.toNat * 5 + 2) (by omega)
      rw [fm_set pc_len ps' i.toNat 2 x { x with f_V := z } (.int .i64 z) (by omega) hx rfl] at q2
      refine ⟨s8, g5 Q10, c, c1, i0, by omega, z, by rw [Nat.mul_one]; exact c2, _, a1, i0, by omega, _, ?_, rfl, ?_⟩
      · rw [add_mk, add_mk, Nat.zero_add]; exact q1
      · rw [add_mk, add_mk, Nat.zero_add, wrapI64 (by omega) (by omega)]
        refine ⟨_, rfl, ⟨_, by omega, by omega, ?_, q2, X.trans (Ext.set _ _ q3)⟩, by dsimp only; omega⟩
        rw [← he]
        apply List.ext_getElem?
        intro j
        rw [List.getElem?_map, List.getElem?_map, List.getElem?_set]
        by_cases hj : i.toNat = j
        · subst hj
          rw [if_pos rfl, if_pos (by omega), hx]; rfl
        · rw [if_neg hj]
    · rw [if_neg (by simp only [Bool.and_eq_true, decide_eq_true_eq]; omega)]
      have X010 : Ext h.size h h10 := X09.trans (X.mono (by have := X05.size; omega))
      have A10 := (A.ext X010)
      have same : ∀ p ∈ ps', ∃ q ∈ ps, q.f_Series = p.f_Series ∧ q.f_Id = p.f_Id := fun p hp => by
        have : erase p ∈ ps.map erase := by rw [← he]; exact List.mem_map.2 ⟨p, hp, rfl⟩
        obtain ⟨q, hq, e⟩ := List.mem_map.1 this
        have e1 := congrArg S_api_Piece.f_Series e
        have e2 := congrArg S_api_Piece.f_Id e
        exact ⟨q, hq, e1, e2⟩
      have A10' : NoteAt h10 { n with f_Pieces := s8 } ps' ids wr vs es snap :=
        ⟨LsAt.of_slc pc_len R.slc (show s8.len = ps'.length by omega) (by omega), A10.ia, A10.cmd, A10.msg, A10.r1, A10.r2, A10.r3, fun p hp => by
          obtain ⟨q, hq, _, e⟩ := same p hp
          rw [← e]; exact A10.pr q hq, A10.nb, A10.ir⟩
      have S' : NoteSm { n with f_Pieces := s8 } ps' ids wr es snap := ⟨S.t, S.q, by have := S.p; omega, fun p hp => by
        obtain ⟨q, hq, e, _⟩ := same p hp
        rw [← e]; exact S.s q hq, S.i, S.c, S.m⟩
      have ec : chk { n with f_Pieces := s8 } ps' ids wr es snap = chk n ps ids wr es snap := (show _ = chk n ps' ids wr es snap from rfl).trans (chkE he)
      have el : (noteL { n with f_Pieces := s8 } ps' ids wr es snap).length = (noteL n ps ids wr es snap).length := (show _ = (noteL n ps' ids wr es snap).length from rfl).trans (noteL_lenE he)
      refine ⟨n, CellsAt.of_blk P10, _, CellsAt.of_blk Q10, Check_ok A10 S fun h11 X11 => ?_⟩
      have z11 := X11.size
      have Q11 := Q10.ext X11 Q10.lt
      have P11 := P10.ext X11 P10.lt
      refine ⟨CellsAt.of_blk Q11, Check_ok (A10'.ext X11) S' fun h12 X12 => ?_⟩
      have z12 := X12.size
      have Q12 := Q11.ext X12 Q11.lt
      have P12 := P11.ext X12 P11.lt
      rw [ec, if_pos (by simp)]
      have X102 : Ext h10.size h10 h12 := X11.trans (X12.mono z11)
      refine ⟨n, CellsAt.of_blk P12, _, CellsAt.of_blk Q12, nPut_ok (A10.ext X102) S fun s13 h13 R13 X13 => ?_⟩
      have z13 := X13.size
      have X103 : Ext h10.size h10 h13 := X102.trans (X13.mono X102.size)
      refine ⟨CellsAt.of_blk (Q12.ext X13 Q12.lt), nPut_ok (A10'.ext X103) S' fun s14 h14 R14 X14 => ?_⟩
      have l13 := R13.pb
      have l14 := R14.pb
      rw [ec] at l14
      have ll : s13.len = s14.len := by
        rw [l13, l14]
        split
        · exact el.symm
        · rfl
      rw [ll, if_pos (by simp)]
      unfold law27_PackEven_j2
      refine awake27_ok fun h15 X15 => H h15 (X010.trans ?_)
      have X104 : Ext h10.size h10 h14 := X103.trans (X14.mono X103.size)
      exact (X104.trans (X15.mono X104.size)).mono X010.size
end Go.Q.Yb
