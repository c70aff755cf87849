/- A part of the proof of statements of this seat: lemmas, no statement of their own. -/
import Derived.Test.YtcmbgfmbmbgbiaaYbEven3
import Derived.Test.YtcmbgfmbmbgbiaaYbRef5
set_option linter.unusedVariables false
set_option linter.unusedSimpArgs false
namespace Go.Q.Yb
theorem pf_fix {a b r s : List Int} (hl : a.length = b.length) (e : a ++ r = b ++ s) : r = s := (List.append_inj e hl).2
theorem shortF_pf : ∀ (f : Nat) (n n' : Int) (r s : List Int), 0 ≤ n → 0 ≤ n' → n < 128 ^ f → n' < 128 ^ f → shortF f n ++ r = shortF f n' ++ s → n = n' ∧ r = s
  | 0, n, n', r, s, h1, h2, h3, h4, e => by simp [shortF] at e; exact ⟨by simp at h3 h4; omega, e⟩
  | f + 1, n, n', r, s, h1, h2, h3, h4, e => by
    rw [Int.pow_succ] at h3 h4
    unfold shortF at e
    by_cases ha : n < 128
    · by_cases hb : n' < 128
      · rw [if_pos ha, if_pos hb] at e
        simp only [List.cons_append, List.nil_append, List.cons.injEq] at e
        exact e
      · rw [if_pos ha, if_neg hb] at e
        simp only [List.cons_append, List.nil_append, List.cons.injEq] at e
        omega
    · by_cases hb : n' < 128
      · rw [if_neg ha, if_pos hb] at e
        simp only [List.cons_append, List.nil_append, List.cons.injEq] at e
        omega
      · rw [if_neg ha, if_neg hb] at e
        simp only [List.cons_append, List.cons.injEq] at e
        obtain ⟨q1, q2⟩ := shortF_pf f (n / 128) (n' / 128) r s (by omega) (by omega) (Int.ediv_lt_of_lt_mul (by omega) h3) (Int.ediv_lt_of_lt_mul (by omega) h4) e.2
        exact ⟨by omega, q2⟩
theorem pf_short {n n' : Int} {r s : List Int} (a : 0 ≤ n ∧ n < 18446744073709551616) (b : 0 ≤ n' ∧ n' < 18446744073709551616) (e : shortL n ++ r = shortL n' ++ s) : n = n' ∧ r = s :=
  shortF_pf 10 n n' r s a.1 b.1 (by have : (128 : Int) ^ 10 = 1180591620717411303424 := by decide
                                    omega) (by have : (128 : Int) ^ 10 = 1180591620717411303424 := by decide
                                               omega) e
theorem pf_tx {l m r s : List Int} (hl : l.length ≤ 1000000000) (hm : m.length ≤ 1000000000) (e : tx l ++ r = tx m ++ s) : l = m ∧ r = s := by
  simp only [tx, List.append_assoc] at e
  obtain ⟨h1, h2⟩ := pf_short (by omega) (by omega) e
  exact List.append_inj h2 (by omega)
theorem pf_text {t u : ByteArray} {r s : List Int} (hl : t.size ≤ 1000000000) (hm : u.size ≤ 1000000000) (e : textL t ++ r = textL u ++ s) : r = s := by
  have h1 : ∀ t : ByteArray, textL t = tx (sB t) := fun t => by simp only [tx, textL, sB_len]
  rw [h1, h1] at e
  exact (pf_tx (by rw [sB_len]; exact hl) (by rw [sB_len]; exact hm) e).2
theorem pf_flat {α : Type} {f : α → List Int} {P : α → Prop} (hf : ∀ x y r s, P x → P y → f x ++ r = f y ++ s → r = s) : ∀ (xs ys : List α) (r s : List Int), (∀ x ∈ xs, P x) → (∀ y ∈ ys, P y) → xs.length = ys.length → xs.flatMap f ++ r = ys.flatMap f ++ s → r = s
  | [], [], r, s, _, _, _, e => by simpa using e
  | x :: xs, y :: ys, r, s, hx, hy, hl, e => by
    simp only [List.flatMap_cons, List.append_assoc] at e
    have := hf x y _ _ (hx x (by simp)) (hy y (by simp)) e
    exact pf_flat hf xs ys r s (fun z hz => hx z (List.mem_cons_of_mem _ hz)) (fun z hz => hy z (List.mem_cons_of_mem _ hz)) (by simpa using hl) this
  | [], y :: ys, r, s, _, _, hl, e => by simp at hl
  | x :: xs, [], r, s, _, _, hl, e => by simp at hl
theorem pf_piece (p q : S_api_Piece) (r s : List Int) (hp : p.f_Series.size ≤ 10000) (hq : q.f_Series.size ≤ 10000) (e : pieceL p ++ r = pieceL q ++ s) : r = s := by
  simp only [pieceL, List.append_assoc] at e
  have e := pf_text (by omega) (by omega) e
  have e := pf_fix (a := wideL p.f_T) (b := wideL q.f_T) (by rw [wideL_len, wideL_len]) e
  have e := pf_fix (a := wideL p.f_V) (b := wideL q.f_V) (by rw [wideL_len, wideL_len]) e
  exact pf_fix (a := idL p.f_Id) (b := idL q.f_Id) (by rw [idL_len, idL_len]) e
structure NoteR (n : S_api_Note) : Prop where
  r1 : 0 ≤ n.f_Op ∧ n.f_Op < 18446744073709551616
  r2 : 0 ≤ n.f_Boot ∧ n.f_Boot < 18446744073709551616
  r3 : 0 ≤ n.f_Index ∧ n.f_Index < 18446744073709551616
theorem NoteAt.R {h : Heap} {n : S_api_Note} {ps : List S_api_Piece} {ids : List S_api_Id} {wr : List Int} {vs : List S_api_Entry} {es : List Ent} {snap : List Int} (A : NoteAt h n ps ids wr vs es snap) : NoteR n := ⟨A.r1, A.r2, A.r3⟩
variable {n : S_api_Note} {ps : List S_api_Piece} {ids : List S_api_Id} {wr : List Int} {vs : List S_api_Entry} {es : List Ent} {snap : List Int}
variable {n' : S_api_Note} {ps' : List S_api_Piece} {ids' : List S_api_Id} {wr' : List Int} {es' : List Ent} {snap' : List Int}
/-- no form of a note is the beginning of another's -/
theorem noteL_pf {r s : List Int} (A : NoteR n) (S : NoteSm n ps ids wr es snap) (A' : NoteR n') (S' : NoteSm n' ps' ids' wr' es' snap') (e : noteL n ps ids wr es snap ++ r = noteL n' ps' ids' wr' es' snap' ++ s) : r = s := by
  have p1 := S.p
  have p2 := S'.p
  have i1 := S.i
  have i2 := S'.i
  have t1 := S.t
  have t2 := S'.t
  have q1 := S.q
  have q2 := S'.q
  have c1 := cmdL_len S.c
  have c2 := cmdL_len S'.c
  have m1 := msgL_len (m := n.f_M) S.m
  have m2 := msgL_len (m := n'.f_M) S'.m
  simp only [noteL, midL, tailL, List.append_assoc] at e
  have e := pf_fix (a := [n.f_Kind % 256]) (b := [n'.f_Kind % 256]) rfl e
  have e := (pf_short A.r1 A'.r1 e).2
  have e := (pf_short A.r2 A'.r2 e).2
  have e := pf_fix (a := [n.f_E % 256]) (b := [n'.f_E % 256]) rfl e
  have e := pf_text (by omega) (by omega) e
  obtain ⟨hp, e⟩ := pf_short (by omega) (by omega) e
  have e := pf_flat (P := fun p => p.f_Series.size ≤ 10000) pf_piece ps ps' _ _ S.s S'.s (by omega) e
  have e := pf_text (by omega) (by omega) e
  have e := pf_fix (a := wideL n.f_Q.f_From) (b := wideL n'.f_Q.f_From) (by rw [wideL_len, wideL_len]) e
  have e := pf_fix (a := wideL n.f_Q.f_To) (b := wideL n'.f_Q.f_To) (by rw [wideL_len, wideL_len]) e
  have e := pf_fix (a := wideL n.f_Q.f_Step) (b := wideL n'.f_Q.f_Step) (by rw [wideL_len, wideL_len]) e
  have e := pf_fix (a := [n.f_Q.f_Agg % 256]) (b := [n'.f_Q.f_Agg % 256]) rfl e
  have e := (pf_tx (by omega) (by omega) e).2
  have e := (pf_short A.r3 A'.r3 e).2
  obtain ⟨hi, e⟩ := pf_short (by omega) (by omega) e
  have e := pf_flat (P := fun _ => True) (fun x y r s _ _ e => pf_fix (a := idL x) (b := idL y) (by rw [idL_len, idL_len]) e) ids ids' _ _ (fun _ _ => trivial) (fun _ _ => trivial) (by omega) e
  have e := pf_fix (a := [n.f_Share.f_X]) (b := [n'.f_Share.f_X]) rfl e
  have e := pf_fix (a := nrm 32 n.f_Share.f_Y) (b := nrm 32 n'.f_Share.f_Y) (by rw [nrm_len, nrm_len]) e
  exact (pf_tx (by omega) (by omega) e).2
theorem pieceL_B {p : S_api_Piece} (hp : 0 ≤ p.f_Id.f_N ∧ 0 ≤ p.f_Id.f_Node ∧ p.f_Id.f_Node < 65536 ∧ p.f_Id.f_N < 18446744073709551616) : isB (pieceL p) := by
  unfold pieceL wideL idL
  exact isB_app (isB_app (isB_app (textL_B _) (formL_B _ _)) (formL_B _ _)) (isB_app (formL_B _ _) (formL_B _ _))
theorem noteL_B {h : Heap} (A : NoteAt h n ps ids wr vs es snap) (hx : 0 ≤ n.f_Share.f_X ∧ n.f_Share.f_X < 256) (hy : isB n.f_Share.f_Y) : isB (noteL n ps ids wr es snap) := by
  have iB : isB (ids.flatMap idL) := isB_flat fun x _ => by unfold idL; exact isB_app (formL_B _ _) (formL_B _ _)
  have tB : isB (tailL n ids es snap) := by
    unfold tailL
    exact isB_app (isB_app (isB_app iB (isB_one hx)) (isB_nrm hy)) (tx_B (msgL_B A.msg))
  have mB : isB (midL n wr ids) := by
    unfold midL wideL
    exact isB_app (isB_app (isB_app (isB_app (isB_app (isB_app (isB_app (textL_B _) (formL_B _ _)) (formL_B _ _)) (formL_B _ _)) (isB_one (by omega))) (tx_B (cmdL_B A.cmd A.nb))) (shortL_B A.r3.1)) (shortL_B (by omega))
  unfold noteL
  exact isB_app (isB_app (isB_app (isB_app (isB_app (isB_app (isB_app (isB_app (isB_one (by omega)) (shortL_B A.r1.1)) (shortL_B A.r2.1)) (isB_one (by omega))) (textL_B _)) (shortL_B (by omega))) (isB_flat fun p hp => pieceL_B (A.pr p hp))) mB) tB
theorem chk0 (hc : chk n ps ids wr es snap = 0) : (noteL n ps ids wr es snap).length ≤ 4096 := by
  unfold chk at hc
  split at hc
  · cases hc
  · split at hc
    · cases hc
    · split at hc
      · cases hc
      · split at hc
        · cases hc
        · omega
theorem noteL_pos : 1 ≤ (noteL n ps ids wr es snap).length := by
  unfold noteL
  simp only [List.length_append, List.length_cons, List.length_nil]; omega
theorem Pick_ok {a n : Int} {k : Int → Heap → Prop} {h : Heap} (hn : 1 ≤ n) (hn2 : n ≤ 1000000) (H : ∀ r, 0 ≤ r → r < n → k r h) : ref01_Pick a n k h := by
  unfold ref01_Pick
  rw [if_neg (by simp; omega)]
  have h1 := Int.tmod_lt_of_pos a (show 0 < n by omega)
  have h2 : -n < Int.tmod a n := by
    have := Int.tmod_lt_of_pos (-a) (show 0 < n by omega)
    rw [Int.neg_tmod] at this; omega
  refine ⟨by omega, _, rfl, ?_⟩
  by_cases hm : Int.tmod a n < 0
  · rw [if_pos (by simpa using hm), wrapI64 (by omega) (by omega)]
    exact ⟨_, rfl, H _ (by omega) (by omega)⟩
  · rw [if_neg (by simpa using hm)]
    exact H _ (by omega) h1
/-- what is no note's form is refused -/
theorem pGet_no {p0 : Slc} {l r s : List Int} {k : S_api_Note × Int → Heap → Prop} {h : Heap} (A : NoteR n) (S : NoteSm n ps ids wr es snap) (hs : SlcAt h p0 (b8 l)) (hlen : p0.len = l.length) (hcap : p0.len ≤ p0.cap) (hB : isB l) (hz : l.length ≤ 5000)
    (e : noteL n ps ids wr es snap ++ r = l ++ s) (ne : r ≠ s) (H2 : ∀ h', Ext h.size h h' → k (zNote, 4) h') : pack_Get p0 k h :=
  pGet_ok hs hlen hcap hB hz (fun n' ps' ids' wr' vs' es' snap' h' A' S' _ hl _ => absurd (by rw [hl] at e; exact noteL_pf A S A'.R S' e) ne) H2
theorem Torn_ok {p1 : Int} {k : Bool → Heap → Prop} {h : Heap} (A : NoteAt h n ps ids wr vs es snap) (hx : 0 ≤ n.f_Share.f_X ∧ n.f_Share.f_X < 256) (hy : isB n.f_Share.f_Y) (H : ∀ h', Ext h.size h h' → k true h') : law27_PackTorn n p1 k h := by
  unfold law27_PackTorn
  refine ⟨_, _, rfl, rfl, ?_⟩
  have P := Blk.push h (S_api_Note.cs n) 42
  have W := Ext.push h (.cells (S_api_Note.cs n).toArray 42) (Nat.le_refl _)
  obtain ⟨h2, e2⟩ : ∃ y, y = h.push (.cells (S_api_Note.cs n).toArray 42) := ⟨_, rfl⟩
  rw [← e2] at P W ⊢
  have z2 := W.size
  have pl := P.lt
  have G1 : ∀ h3, Ext h.size h h3 → law27_PackTorn_g1 p1 ⟨h.size, 0, none⟩ true k h3 := fun h3 X3 => by
    unfold law27_PackTorn_g1; rw [if_pos rfl]
    exact awake27_ok fun h' X => H h' (X3.trans (X.mono X3.size))
  refine ⟨n, CellsAt.of_blk P, g27_ok (A.ext W) fun r h5 X5 hr => ?_⟩
  have X05 : Ext h.size h h5 := W.trans (X5.mono z2)
  have z5 := X5.size
  cases r with
  | true => rw [if_pos rfl]; exact G1 h5 X05
  | false =>
    rw [if_neg (by simp)]
    obtain ⟨S, p40⟩ := hr rfl
    have P5 := P.ext X5 pl
    refine ⟨n, CellsAt.of_blk P5, RCheck_ok (A.ext X05) S fun h6 X6 => ?_⟩
    have X06 := X05.trans (X6.mono X05.size)
    have z6 := X6.size
    by_cases hc : chk n ps ids wr es snap = 0
    · rw [show (chk n ps ids wr es snap != 0) = false from by simp [hc]]
      unfold law27_PackTorn_g1
      rw [if_neg (by simp)]
      have P6 := P5.ext X6 (by omega)
      have A6 := A.ext X06
      have nB := noteL_B A hx hy
      refine ⟨n, CellsAt.of_blk P6, nPut_ok A6 S fun s7 h7 R7 X7 => ?_⟩
      rw [if_pos hc] at R7
      have nl := chk0 hc
      have np : 1 ≤ (noteL n ps ids wr es snap).length := noteL_pos
      have z7 := X7.size
      have l7 := R7.pb
      have c7 := Row.cap R7
      refine Pick_ok (by omega) (by omega) fun i i0 i1 => ?_
      refine ⟨_, by omega, i0, by omega, by omega, rfl, ?_⟩
      have S8 : SlcAt h7 (subS s7 1 (0 : Int).toNat i.toNat (s7.cap : Int).toNat) (b8 ((noteL n ps ids wr es snap).take i.toNat)) := by
        have := R7.slc.sub (w := 1) (l := (0 : Int).toNat) (u := i.toNat) (m := (s7.cap : Int).toNat) (by omega) (by omega)
        rw [show (0 : Int).toNat * 1 = 0 from rfl, List.drop_zero, show (i.toNat - (0 : Int).toNat) * 1 = i.toNat from by simp, ← List.map_take] at this
        exact this
      have tl : ((noteL n ps ids wr es snap).take i.toNat).length = i.toNat := by rw [List.length_take]; omega
      refine pGet_no (r := []) (s := (noteL n ps ids wr es snap).drop i.toNat) A.R S S8 (by rw [subS_len, tl]; rfl) (by rw [subS_len, subS_cap]; omega) (isB_take nB _) (by omega) (by simp) (fun e => ?_) fun h9 X9 => ?_
      · have := congrArg List.length e
        rw [List.length_drop] at this
        simp at this; omega
      have z9 := X9.size
      have X09 : Ext h.size h h9 := X06.trans ((X7.trans (X9.mono z7)).mono (by omega))
      refine ⟨_, _, rfl, rfl, ?_⟩
      have Q := Blk.push h9 (S_api_Note.cs zNote) 42
      have W9 := (Ext.push h9 (.cells (S_api_Note.cs zNote).toArray 42) (Nat.le_refl _)).trans (Ext.sets _ (a := ⟨h9.size, 0, none⟩) 0 (S_api_Note.cs zNote) (Nat.le_refl _))
      refine ⟨_, WrsAt.of_blk Q (by rw [ncs_len]; omega), rfl, ?_⟩
      dsimp only
      generalize setsH (h9.push (.cells (S_api_Note.cs zNote).toArray 42)) ⟨h9.size, 0, none⟩ 0 (S_api_Note.cs zNote) = h10 at *
      have z10 := W9.size
      refine ⟨_, _, rfl, rfl, ?_⟩
      have B11 := Blk.push h10 ([] : List Value) 5
      have W11 := Ext.push h10 (.cells ([] : List Value).toArray 5) (Nat.le_refl _)
      obtain ⟨h11, e11⟩ : ∃ y, y = h10.push (.cells ([] : List Value).toArray 5) := ⟨_, rfl⟩
      rw [← e11] at B11 W11 ⊢
      have z11 := W11.size
      have X7b : Ext h7.size h7 h11 := X9.trans ((W9.mono z9).trans (W11.mono (by omega)))
      have R11 : Row h10.size h11 5 1 ⟨some ⟨h10.size, 0, none⟩, 0, 0⟩ (b8 []) := Row.of_blk (zs := []) B11 (Nat.le_refl _) rfl rfl (by decide)
      refine ⟨_, (R7.slc.ext X7b), ?_⟩
      refine AppB R11 (by omega) l7 (by simp; omega) fun s12 h12 R12 X12 => ?_
      rw [List.nil_append] at R12
      have z12 := X12.size
      refine ⟨_, _, rfl, rfl, ?_⟩
      have W13 := Ext.push h12 (.cells (b8 [0]).toArray 5) (Nat.le_refl _)
      obtain ⟨h13, e13⟩ : ∃ y, y = h12.push (.cells (b8 [0]).toArray 5) := ⟨_, rfl⟩
      rw [show ([.int .u8 0] : List Value) = b8 [0] from rfl, ← e13]
      rw [← e13] at W13
      have z13 := W13.size
      have R13 := R12.ext W13 fun g hg => (R12.bd hg).2
      refine AppB (m := [0]) R13 (by omega) rfl (by simp; omega) fun s14 h14 R14 X14 => ?_
      have z14 := X14.size
      have l14 := R14.pb
      have c14 := Row.cap R14
      have B0 : isB ([0] : List Int) := isB_one (by omega)
      refine pGet_no (r := [0]) (s := []) A.R S R14.slc l14 c14 (isB_app nB B0) (by simp; omega) (by simp) (by simp) fun h15 X15 => ?_
      have z15 := X15.size
      refine ⟨_, _, rfl, rfl, ?_⟩
      have Q2 := Blk.push h15 (S_api_Note.cs zNote) 42
      have W15 := (Ext.push h15 (.cells (S_api_Note.cs zNote).toArray 42) (Nat.le_refl _)).trans (Ext.sets _ (a := ⟨h15.size, 0, none⟩) 0 (S_api_Note.cs zNote) (Nat.le_refl _))
      refine ⟨_, WrsAt.of_blk Q2 (by rw [ncs_len]; omega), rfl, ?_⟩
      dsimp only
      generalize setsH (h15.push (.cells (S_api_Note.cs zNote).toArray 42)) ⟨h15.size, 0, none⟩ 0 (S_api_Note.cs zNote) = h16 at *
      have z16 := W15.size
      rw [if_pos (by decide)]
      have X716 : Ext h10.size h10 h16 := (W11.mono (Nat.le_refl _)).trans ((X12.mono (by omega)).trans ((W13.mono (by omega)).trans ((X14.mono (by omega)).trans ((X15.mono (by omega)).trans (W15.mono (by omega))))))
      have X016 : Ext h.size h h16 := X09.trans ((W9.mono (by have := X09.size; omega)).trans (X716.mono (by have := X09.size; omega)))
      refine awake27_ok fun h' X => ?_
      unfold law27_PackTorn_g2
      exact H h' (X016.trans (X.mono X016.size))
    · rw [show (chk n ps ids wr es snap != 0) = true from by simp [hc]]
      exact G1 h6 X06
theorem Torn_all {p1 : Int} {k : Bool → Heap → Prop} {h : Heap} (o : Ok_S_api_Note h n) (H : ∀ h', Ext h.size h h' → k true h') : law27_PackTorn n p1 k h := by
  obtain ⟨ps, ids, wr, vs, es, snap, A⟩ := NoteAt.of o
  obtain ⟨_, _, _, _, _, _, _, _, _, _, ⟨sx, _, sy⟩, _⟩ := o
  exact Torn_ok A (wf_u8 sx) (wf_isB sy) H
end Go.Q.Yb
