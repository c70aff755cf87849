/- A part of the proof of statements of this seat: lemmas, no statement of their own. -/
import Derived.Test.YtcmbgfmbmbgbiaaYbRhAx
import Derived.Test.YtcmbgfmbmbgbiaaYbRgLx
set_option linter.unusedVariables false
set_option linter.unusedSimpArgs false
namespace Go.Q.Yb
/-! ### a tenant's form -/
def keyF (a : AK) : List Int := formL a.1 4 ++ a.2.1 ++ a.2.2
def keysOk (ks : List AK) : Prop := (∃ a : Int, 1 ≤ a ∧ a + ks.length ≤ 4294967296 ∧ ∀ (i : Nat) x, ks[i]? = some x → x.1 = a + i) ∧ ∀ x ∈ ks, x.2.1.length = 12 ∧ x.2.2.length = 48
theorem keysOk_nil : keysOk [] := ⟨⟨1, by omega, by simp, by simp⟩, by simp⟩
theorem keyF_len {a : AK} (h : a.2.1.length = 12 ∧ a.2.2.length = 48) : (keyF a).length = 64 := by
  unfold keyF; rw [List.length_append, List.length_append, formL_length, h.1, h.2]
theorem keysF_len : ∀ {ks : List AK}, (∀ x ∈ ks, x.2.1.length = 12 ∧ x.2.2.length = 48) → (ks.flatMap keyF).length = ks.length * 64
  | [], _ => rfl
  | a :: r, h => by
    rw [List.flatMap_cons, List.length_append, keyF_len (h a (by simp)), keysF_len fun x hx => h x (List.mem_cons_of_mem _ hx), List.length_cons]; omega
theorem keysOk_add {ks : List AK} {x : AK} (K : keysOk ks) (x0 : x.1 ≠ 0) (x1 : 0 ≤ x.1 ∧ x.1 < 4294967296) (xl : x.2.1.length = 12 ∧ x.2.2.length = 48) (hx : ks ≠ [] → x.1 = IntKind.u32.wrap (epB ks + 1)) : keysOk (ks ++ [x]) := by
  obtain ⟨⟨a, a1, a2, ha⟩, hl⟩ := K
  refine ⟨?_, fun y hy => ?_⟩
  · by_cases hk : ks = []
    · subst hk
      refine ⟨x.1, by omega, by simp; omega, fun i y hy => ?_⟩
      match i, hy with
      | 0, hy => cases hy; simp
      | i + 1, hy => simp at hy
    · have h1 := hx hk
      have el := epB_last ha hk
      have hw : x.1 = a + ks.length := by
        by_cases hq : a + ks.length = 4294967296
        · rw [h1, el, show a + (ks.length : Int) - 1 + 1 = 4294967296 from by omega] at x0
          exact absurd rfl x0
        · rw [h1, el, wrapU32 (by omega) (by omega)]; omega
      refine ⟨a, a1, by simp; omega, fun i y hy => ?_⟩
      by_cases hi : i < ks.length
      · rw [List.getElem?_append_left hi] at hy; exact ha i y hy
      · rw [List.getElem?_append_right (by omega)] at hy
        match h : i - ks.length, hy with
        | 0, hy => cases hy; omega
        | j + 1, hy => simp at hy
  · rcases List.mem_append.1 hy with hy | hy
    · exact hl y hy
    · simp at hy; subst hy; exact xl
theorem Rd.bit {h : Heap} {r : Nat} {l : List Int} {bad : Bool} (R : Rd 155 h r l bad) (b : Bool) :
    cellH h ((⟨r, 0, none⟩ : Addr).add 1) = some (.bool bad) ∧ WrH h ((⟨r, 0, none⟩ : Addr).add 1) ∧ Rd 155 (setH h ((⟨r, 0, none⟩ : Addr).add 1) (.bool b)) r l b ∧ Upd r h (setH h ((⟨r, 0, none⟩ : Addr).add 1) (.bool b)) := by
  obtain ⟨s, K, S, a, c, d, e⟩ := R
  rw [add_mk, Nat.zero_add]
  refine ⟨by rw [K.cell]; rfl, K.wr (by simp), ⟨s, K.set, fun h' X => S h' ((Ext.set h (a := ⟨r, 1, none⟩) (.bool b) (Nat.le_refl _)).trans X), a, c, d, e⟩, ⟨by rw [setH_size]; exact Nat.le_refl _, fun i _ hi => setH_other hi⟩⟩
theorem TenEnd_ok {h0 h : Heap} {r b1 b5 : Nat} {t : S_api_Tenant} {k : S_api_Tenant → Heap → Prop} (Q1 : Blk h b1 (S_api_Tenant.cs zT) 130) (Q5 : Blk h b5 (S_api_Tenant.cs t) 130)
    (H : ∀ h', h'.size = h.size → (∀ g, g ≠ b1 → h'[g]? = h[g]?) → k t h') : reg_reader_tenant_j3 ⟨b1, 0, none⟩ ⟨b5, 0, none⟩ k h := by
  unfold reg_reader_tenant_j3
  exact ⟨t, Q5.part (n := 4) rfl, _, WrsAt.of_blk Q1 (by rw [tcs_len]; omega), rfl, t, (Q1.sets_all (vs := S_api_Tenant.cs t) rfl).part (n := 4) rfl, H _ (setsH_size _ _) fun g hg => setsH_other _ _ hg⟩
section
variable {h0 h : Heap} {r b1 b5 : Nat} {li : List Int} {bi : Bool} {name : ByteArray} {hz : Int} {sh : Bool} {n : Int} {k : S_api_Tenant → Heap → Prop}
theorem TenLoop_ok (n0 : 0 ≤ n) (n1 : n < 18446744073709551616) (rl : r < h0.size) (hb1 : h0.size ≤ b1) (hb5 : b1 < b5)
    (Q1 : Blk h b1 (S_api_Tenant.cs zT) 130) (Q5 : Blk h b5 (S_api_Tenant.cs ⟨name, ⟨none, 0, 0⟩, hz, sh⟩) 130) (U : Upd r h0 h) (R : Rd 155 h r li bi)
    (H : ∀ s zs l' b' h', Rd 155 h' r l' b' → Upd r h0 h' → KOwn h0.size h' s zs → (b' = false → bi = false ∧ li = (zs.map absK).flatMap keyF ++ l' ∧ keysOk (zs.map absK) ∧ n = zs.length) →
      (∀ ks l'', bi = false → li = ks.flatMap keyF ++ l'' → n = ks.length → keysOk ks → b' = false ∧ zs.map absK = ks ∧ l' = l'') → zs.length ≤ 20000 → k ⟨name, s, hz, sh⟩ h') :
    reg_reader_tenant_l4 (some ⟨r, 0, none⟩) ⟨b1, 0, none⟩ ⟨b5, 0, none⟩ n 0 k h := by
  have lz := R.len
  have q5 := Q5.lt
  unfold reg_reader_tenant_l4
  refine ⟨fun i h' => ∃ s zs lj bj, (0 ≤ i ∧ i ≤ n ∧ (zs.length : Int) = i) ∧ Rd 155 h' r lj bj ∧ Upd r h0 h' ∧ Blk h' b1 (S_api_Tenant.cs zT) 130 ∧ Blk h' b5 (S_api_Tenant.cs ⟨name, s, hz, sh⟩) 130 ∧ KOwn (b5 + 1) h' s zs ∧ (zs ≠ [] → bj = false) ∧
      (bj = false → bi = false ∧ li = (zs.map absK).flatMap keyF ++ lj ∧ keysOk (zs.map absK)) ∧
      (∀ ks l'', bi = false → li = ks.flatMap keyF ++ l'' → n = ks.length → keysOk ks → bj = false ∧ zs.map absK = ks.take i.toNat ∧ lj = (ks.drop i.toNat).flatMap keyF ++ l''), fun i _ => (n - i).toNat,
    ⟨⟨none, 0, 0⟩, [], li, bi, ⟨by omega, n0, rfl⟩, R, U, Q1, Q5, KOwn.nil _ _, by simp, fun e => ⟨e, by simp, by exact keysOk_nil⟩, fun ks l'' a b _ _ => ⟨a, by simp, by simpa using b⟩⟩, ?_⟩
  rintro i h1 ⟨s, zs, lj, bj, ⟨i0, i1, il⟩, R1, U1, P1, P5, O1, nb, So, Co⟩
  have z1 := U1.size
  have p5 := P5.lt
  have zl : zs.length ≤ 20000 := by
    by_cases hz0 : zs = []
    · rw [hz0]; simp
    · obtain ⟨_, e, K⟩ := So (nb hz0)
      have := congrArg List.length e
      rw [List.length_append, keysF_len K.2, List.length_map] at this
      omega
  unfold reg_reader_tenant_l4b
  by_cases hi : i < n
  · rw [if_pos (by rw [decide_eq_true_eq]; exact hi)]
    refine regr_number4 R1 (by omega) (by omega) fun v l1 bb1 h2 R2 U2 v0 v1 E1 C1 => ?_
    have z2 := U2.size
    rw [pw4] at v1
    refine regr_nonce4 R2 fun nv l2 bb2 h3 R3 U3 nB E2 C2 => ?_
    have z3 := U3.size
    refine ⟨_, _, rfl, rfl, ?_⟩
    have T := Blk.push h3 (S_api_Wrapped.cs zW) 132
    obtain ⟨w, ew⟩ : ∃ w : S_api_Wrapped, w = ⟨IntKind.u32.wrap v, nv, ⟨none, 0, 0⟩⟩ := ⟨_, rfl⟩
    rw [← ew]
    have T2 := T.sets_all (vs := S_api_Wrapped.cs w) rfl
    have W5 := (Ext.push h3 (.cells (S_api_Wrapped.cs zW).toArray 132) (Nat.le_refl _)).trans (Ext.sets _ (a := ⟨h3.size, 0, none⟩) 0 (S_api_Wrapped.cs w) (Nat.le_refl _))
    refine ⟨_, WrsAt.of_blk T (by rw [wcs_len]; omega), rfl, ?_⟩
    generalize eb : h3.size = b29 at *
    generalize setsH (h3.push (.cells (S_api_Wrapped.cs zW).toArray 132)) ⟨b29, 0, none⟩ 0 (S_api_Wrapped.cs w) = h4 at *
    have z4 := W5.size
    have t4 := T2.lt
    have R4 := R3.ext (W5.mono (by omega))
    refine regr_bytes4 R4 (by omega) fun sx x l3 bb3 h5 R5 U5 Sx sxl xl xB E3 C3 => ?_
    have z5 := U5.size
    have T5 := U5.blk T2 (by omega)
    refine Clone_ok sxl Sx (by omega) fun rx h6 Rx X6 => ?_
    have z6 := X6.size
    have T6 := T5.ext X6 T5.lt
    have t6 := T6.lt
    refine ⟨_, by rw [add_mk]; exact T6.wr (by rw [wcs_len]; omega), rfl, ?_⟩
    rw [show (⟨b29, 0, none⟩ : Addr).add 13 = ⟨b29, 13, none⟩ from by simp]
    have T7 : Blk (setH h6 ⟨b29, 13, none⟩ (Slc.v rx)) b29 (S_api_Wrapped.cs { w with f_B := rx }) 132 := T6.set
    have Rx7 : Row h5.size (setH h6 ⟨b29, 13, none⟩ (Slc.v rx)) 5 1 rx (b8 x) := Rx.keep fun g hg => setH_other (by have := (Rx.bd hg).1; dsimp only; omega)
    have oth6 : ∀ g, g ≠ b29 → (setH h6 ⟨b29, 13, none⟩ (Slc.v rx))[g]? = h6[g]? := fun g hg => setH_other hg
    have sz7 : (setH h6 ⟨b29, 13, none⟩ (Slc.v rx)).size = h6.size := setH_size
    generalize setH h6 ⟨b29, 13, none⟩ (Slc.v rx) = h7 at *
    have X57 : Ext b29 h5 h7 := ⟨by omega, fun g hg => by rw [oth6 g (by omega), X6.block g (by omega)]⟩
    have U17 : Upd r h1 h7 := by
      have a : Upd r h1 h3 := U2.trans U3
      have b : Upd r h1 h4 := ⟨by omega, fun g hg hne => by rw [W5.block g (by omega), a.block g hg hne]⟩
      have c : Upd r h1 h5 := ⟨by omega, fun g hg hne => by rw [U5.block g (by omega) hne, b.block g hg hne]⟩
      exact ⟨by omega, fun g hg hne => by rw [X57.block g (by omega), c.block g hg hne]⟩
    have R7 : Rd 155 h7 r l3 bb3 := R5.ext (X57.mono (by omega))
    have P17 := U17.blk P1 (by omega)
    have P57 := U17.blk P5 (by omega)
    have O7 := O1.step U17.size fun g g1 g2 => U17.block g g2 (by omega)
    have U07 := U1.trans U17
    obtain ⟨c7, wr7, _, _⟩ := R7.bit true
    -- what a form asks for is met
    have SY : ∀ ks l'', bi = false → li = ks.flatMap keyF ++ l'' → n = ks.length → keysOk ks → bb3 = false ∧ ∃ (y : AK) (a : Int), ks[i.toNat]? = some y ∧ v = y.1 ∧ absK (w, x) = y ∧ l3 = (ks.drop (i.toNat + 1)).flatMap keyF ++ l'' ∧ 1 ≤ a ∧ a + ks.length ≤ 4294967296 ∧ (∀ (i : Nat) x, ks[i]? = some x → x.1 = a + i) ∧ zs.map absK = ks.take i.toNat := fun ks l'' q1 q2 q3 q4 => by
      obtain ⟨d1, d2, d3⟩ := Co ks l'' q1 q2 q3 q4
      obtain ⟨⟨a, a1, a2, ha⟩, hl⟩ := q4
      have hy : ks[i.toNat]? = some (ks[i.toNat]'(by omega)) := by simp
      have hd : ks.drop i.toNat = ks[i.toNat]'(by omega) :: ks.drop (i.toNat + 1) := List.drop_eq_getElem_cons (by omega)
      generalize ks[i.toNat]'(by omega) = y at *
      obtain ⟨y12, y48⟩ := hl y (List.mem_of_getElem? hy)
      have yi := ha _ _ hy
      have ilt : i.toNat < ks.length := (List.getElem?_eq_some_iff.1 hy).1
      rw [hd, List.flatMap_cons] at d3
      have d4 : lj = formL y.1 (4 : Int).toNat ++ (nrm 12 y.2.1 ++ (y.2.2 ++ ((ks.drop (i.toNat + 1)).flatMap keyF ++ l''))) := by
        rw [d3, nrm_id y12, show (4 : Int).toNat = 4 from rfl]
        simp only [keyF, List.append_assoc]
      obtain ⟨f1, f2, f3⟩ := C1 _ _ d1 d4 (by omega) (by rw [pw4]; omega)
      obtain ⟨f4, f5, f6⟩ := C2 _ _ f1 f3
      obtain ⟨f7, f8, f9⟩ := C3 _ _ f4 f6 (by rw [y48]; rfl)
      refine ⟨f7, y, a, hy, f2, ?_, f9, a1, a2, ha, d2⟩
      show (w.f_Epoch, nrm 12 w.f_Nonce, x) = y
      rw [ew]
      dsimp only
      rw [wrapU32 v0 (by omega), f2, f5, nrm_id y12, f8]
    have bad : (∀ ks l'', bi = false → li = ks.flatMap keyF ++ l'' → n = ks.length → keysOk ks → False) → ∀ h8, Ext h7.size h7 h8 → reg_reader_tenant_j5 (some ⟨r, 0, none⟩) ⟨b1, 0, none⟩ ⟨b5, 0, none⟩ n i ⟨b29, 0, none⟩ true k (fun s_1 h'_1 => (∃ s zs lj bj, (0 ≤ s_1 ∧ s_1 ≤ n ∧ (zs.length : Int) = s_1) ∧ Rd 155 h'_1 r lj bj ∧ Upd r h0 h'_1 ∧ Blk h'_1 b1 (S_api_Tenant.cs zT) 130 ∧ Blk h'_1 b5 (S_api_Tenant.cs ⟨name, s, hz, sh⟩) 130 ∧ KOwn (b5 + 1) h'_1 s zs ∧ (zs ≠ [] → bj = false) ∧
      (bj = false → bi = false ∧ li = (zs.map absK).flatMap keyF ++ lj ∧ keysOk (zs.map absK)) ∧
      (∀ ks l'', bi = false → li = ks.flatMap keyF ++ l'' → n = ks.length → keysOk ks → bj = false ∧ zs.map absK = ks.take s_1.toNat ∧ lj = (ks.drop s_1.toNat).flatMap keyF ++ l'')) ∧ (n - s_1).toNat < (n - i).toNat) h8 := fun no h8 X8 => by
      have z8 := X8.size
      have R8 := R7.ext (X8.mono (by omega))
      obtain ⟨c8, wr8, R9, U9⟩ := R8.bit true
      have U08 : Upd r h0 h8 := U07.trans (Upd.of_ext X8)
      unfold reg_reader_tenant_j5
      rw [if_pos rfl]
      refine ⟨_, rfl, _, wr8, rfl, ?_⟩
      have P19 := U9.blk (P17.ext X8 (by omega)) (by omega)
      have P59 := U9.blk (P57.ext X8 (by omega)) (by omega)
      have O8 := O7.step z8 fun g g1 g2 => X8.block g g2
      have O9 := O8.step U9.size fun g g1 g2 => U9.block g g2 (by omega)
      have z9 := U9.size
      generalize setH h8 ((⟨r, 0, none⟩ : Addr).add 1) (.bool true) = h9 at *
      refine TenEnd_ok (h0 := h0) (r := r) P19 P59 fun h10 z10 o10 => ?_
      refine H s zs l3 true h10 (R9.ext ⟨by omega, fun g hg => o10 g (by omega)⟩) ((U08.trans U9).fresh ⟨by omega, fun g hg => o10 g (by omega)⟩) ((O9.step (by omega) fun g g1 g2 => o10 g (by omega)).mono (by omega)) (fun e => by cases e) (fun ks l'' q1 q2 q3 q4 => absurd (no ks l'' q1 q2 q3 q4) id) zl
    have good : bb3 = false → v ≠ 0 → (zs ≠ [] → v = IntKind.u32.wrap (epA zs + 1)) → ∀ h8, Ext h7.size h7 h8 → reg_reader_tenant_j5 (some ⟨r, 0, none⟩) ⟨b1, 0, none⟩ ⟨b5, 0, none⟩ n i ⟨b29, 0, none⟩ false k (fun s_1 h'_1 => (∃ s zs lj bj, (0 ≤ s_1 ∧ s_1 ≤ n ∧ (zs.length : Int) = s_1) ∧ Rd 155 h'_1 r lj bj ∧ Upd r h0 h'_1 ∧ Blk h'_1 b1 (S_api_Tenant.cs zT) 130 ∧ Blk h'_1 b5 (S_api_Tenant.cs ⟨name, s, hz, sh⟩) 130 ∧ KOwn (b5 + 1) h'_1 s zs ∧ (zs ≠ [] → bj = false) ∧
      (bj = false → bi = false ∧ li = (zs.map absK).flatMap keyF ++ lj ∧ keysOk (zs.map absK)) ∧
      (∀ ks l'', bi = false → li = ks.flatMap keyF ++ l'' → n = ks.length → keysOk ks → bj = false ∧ zs.map absK = ks.take s_1.toNat ∧ lj = (ks.drop s_1.toNat).flatMap keyF ++ l'')) ∧ (n - s_1).toNat < (n - i).toNat) h8 := fun g1 g2 g3 h8 X8 => by
      have z8 := X8.size
      have R8 := R7.ext (X8.mono (by omega))
      have P18 := P17.ext X8 (by omega)
      have P58 := P57.ext X8 (by omega)
      have O8 := O7.step z8 fun g g1 g2 => X8.block g g2
      have T8 := T7.ext X8 T7.lt
      have Rx8 := Rx7.ext X8 fun g hg => (Rx7.bd hg).2
      have U08 : Upd r h0 h8 := U07.trans (Upd.of_ext X8)
      obtain ⟨e1, e2, x48⟩ := E3 g1
      obtain ⟨e3, e4⟩ := E2 e1
      obtain ⟨e5, e6⟩ := E1 e3
      obtain ⟨e7, e8, K8⟩ := So e5
      have x48' : x.length = 48 := x48
      have ab : absK (w, x) = (v, nrm 12 nv, x) := by
        show (w.f_Epoch, nrm 12 w.f_Nonce, x) = _
        rw [ew]; dsimp only; rw [wrapU32 v0 (by omega)]
      unfold reg_reader_tenant_j5
      rw [if_neg (by simp)]
      refine ⟨s, by rw [add_mk, P58.cell]; rfl, { w with f_B := rx }, T8.part (n := 14) rfl, _, _, rfl, rfl, ?_⟩
      have sl := O8.2.1
      refine App.row (O8.1.pushed _) (by simp; omega) rfl rfl (oneC (by kernel_rfl)) (by omega) (by simp only [maxLen]; omega) fun s' h9 R9 l9 z9 F9 _ => ?_
      simp at z9
      have X9 : Ext (b5 + 1) h8 h9 := ⟨by omega, fun g hg => by rw [F9 g (by simp; omega) fun e => by have := (O8.1.bd e).1; omega, Array.getElem?_push, if_neg (by omega)]⟩
      have P19 := P18.ext X9 (by omega)
      have P59 := P58.ext X9 (by omega)
      refine ⟨_, by rw [add_mk]; exact P59.wr (by rw [tcs_len]; omega), rfl, _, rfl, ?_⟩
      rw [show (⟨b5, 0, none⟩ : Addr).add 1 = ⟨b5, 1, none⟩ from by simp]
      have P5a : Blk (setH h9 ⟨b5, 1, none⟩ (Slc.v s')) b5 (S_api_Tenant.cs ⟨name, s', hz, sh⟩) 130 := P59.set
      have oth : ∀ g, g ≠ b5 → (setH h9 ⟨b5, 1, none⟩ (Slc.v s'))[g]? = h9[g]? := fun g hg => setH_other hg
      have za : (setH h9 ⟨b5, 1, none⟩ (Slc.v s')).size = h9.size := setH_size
      generalize setH h9 ⟨b5, 1, none⟩ (Slc.v s') = h10 at *
      rw [wrapU64 (by omega) (by omega)]
      have X810 : Ext b5 h8 h10 := ⟨by omega, fun g hg => by rw [oth g (by omega), X9.block g (by omega)]⟩
      have old : ∀ {B : Nat} {xs : List Value} {u : Slc}, Row B h8 5 1 u xs → b5 + 1 ≤ B → Row B h10 5 1 u xs := fun {B xs u} Ru hB => Ru.keep fun g hg => by
        have bd := Ru.bd hg
        rw [oth g (by omega), F9 g (by simp; omega) fun e => (Row.ne_row O8.1 Ru (by decide) e) hg, Array.getElem?_push, if_neg (by omega)]
      refine ⟨⟨s', zs ++ [({ w with f_B := rx }, x)], l3, bb3, ⟨by omega, by omega, by simp; omega⟩, R8.ext (X810.mono (by omega)), U08.fresh (X810.mono (by omega)), P19.old (oth _ (by omega)), P5a, ⟨by
          have := R9.keep fun g hg => oth g (by have := (R9.bd hg).1; omega)
          simpa using this, by rw [l9, List.length_append]; simp; omega, fun y hy => ?_⟩, fun _ => g1, fun _ => ⟨e7, ?_, ?_⟩, fun ks l'' q1 q2 q3 q4 => ?_⟩, by omega⟩
      · rcases List.mem_append.1 hy with hy | hy
        · obtain ⟨a1, a2⟩ := O8.2.2 y hy
          exact ⟨old a1 (Nat.le_refl _), a2⟩
        · simp at hy; subst hy
          exact ⟨(old Rx8 (by omega)).mono (by omega), by have := Rx8.pb; exact this, xB, x48'⟩
      · rw [e8, List.map_append, List.flatMap_append, e6, e4, e2]
        show _ = _ ++ ([absK (w, x)].flatMap keyF) ++ l3
        rw [ab]
        simp [keyF]
      · rw [List.map_append]
        show keysOk (_ ++ [absK (w, x)])
        rw [ab]
        refine keysOk_add K8 g2 ⟨v0, by omega⟩ ⟨nrm_len _ _, x48'⟩ fun hne => ?_
        have := g3 fun e => hne (by rw [e]; rfl)
        rw [epA_abs] at this; exact this
      · obtain ⟨d1, y, a, hy, _, yw, d3, _, _, _, dz⟩ := SY ks l'' q1 q2 q3 q4
        refine ⟨d1, ?_, ?_⟩
        · rw [show (i + 1).toNat = i.toNat + 1 from by omega, List.take_add_one, hy, List.map_append, dz]
          show _ ++ [absK (w, x)] = _
          rw [yw]; rfl
        · rw [show (i + 1).toNat = i.toNat + 1 from by omega]; exact d3
    refine ⟨_, rfl, bb3, c7, ?_⟩
    cases hb3 : bb3 with
    | true =>
      rw [if_pos rfl, if_pos rfl]
      rw [hb3] at SY
      exact bad (fun ks l'' q1 q2 q3 q4 => by have := (SY ks l'' q1 q2 q3 q4).1; cases this) h7 (Ext.refl _ _)
    | false =>
      rw [if_neg (by simp)]
      have we : w.f_Epoch = v := by rw [ew]; dsimp only; rw [wrapU32 v0 (by omega)]
      have c0 : ∀ {h'}, Blk h' b29 (S_api_Wrapped.cs { w with f_B := rx }) 132 → cellH h' (⟨b29, 0, none⟩ : Addr) = some (.int .u32 v) := fun K => by rw [K.cell, ← we]; rfl
      refine ⟨v, c0 T7, ?_⟩
      by_cases hv0 : v = 0
      · rw [if_pos (by rw [beq_iff_eq]; exact hv0)]
        refine bad (fun ks l'' q1 q2 q3 q4 => ?_) h7 (Ext.refl _ _)
        obtain ⟨_, y, a, hy, vy, _, _, a1, _, ha, _⟩ := SY ks l'' q1 q2 q3 q4
        have := ha _ _ hy
        omega
      · rw [if_neg (by rw [beq_iff_eq]; exact hv0)]
        by_cases hi0 : i > 0
        · rw [if_pos (by rw [decide_eq_true_eq]; exact hi0)]
          refine ⟨v, c0 T7, ⟨name, s, hz, sh⟩, P57.part (n := 4) rfl, ?_⟩
          refine Epoch_ok (zs := zs) (O7.held.now) (by omega) fun h8 X8 => ?_
          have T8 := T7.ext X8 T7.lt
          refine ⟨c0 T8, ?_⟩
          by_cases hw : v = IntKind.u32.wrap (epA zs + 1)
          · rw [show (v != IntKind.u32.wrap (epA zs + 1)) = false from by rw [bne_eq_false_iff_eq]; exact hw]
            rw [hb3] at good
            exact good rfl hv0 (fun _ => hw) h8 X8
          · rw [show (v != IntKind.u32.wrap (epA zs + 1)) = true from by rw [bne_iff_ne]; exact hw]
            refine bad (fun ks l'' q1 q2 q3 q4 => hw ?_) h8 X8
            obtain ⟨_, y, a, hy, vy, _, _, a1, a2, ha, dz⟩ := SY ks l'' q1 q2 q3 q4
            have ilt : i.toNat < ks.length := (List.getElem?_eq_some_iff.1 hy).1
            have tl : (ks.take i.toNat).length = i.toNat := by rw [List.length_take]; omega
            have hh : ∀ (j : Nat) x, (ks.take i.toNat)[j]? = some x → x.1 = a + j := fun j x hx => by
              rw [List.getElem?_take] at hx
              split at hx
              · exact ha j x hx
              · cases hx
            have := epB_last hh (fun e => by rw [e] at tl; simp at tl; omega)
            have yi := ha _ _ hy
            rw [epA_abs, dz, this, tl, wrapU32 (by omega) (by omega), vy, yi]; omega
        · rw [if_neg (by rw [decide_eq_true_eq]; exact hi0)]
          rw [hb3] at good
          exact good rfl hv0 (fun hne => absurd (List.length_pos_iff.2 hne) (by omega)) h7 (Ext.refl _ _)
  · rw [if_neg (by rw [decide_eq_true_eq]; exact hi)]
    refine TenEnd_ok (h0 := h0) (r := r) P1 P5 fun h10 z10 o10 => ?_
    refine H s zs lj bj h10 (R1.ext ⟨by omega, fun g hg => o10 g (by omega)⟩) (U1.fresh ⟨by omega, fun g hg => o10 g (by omega)⟩) ((O1.step (by omega) fun g g1 g2 => o10 g (by omega)).mono (by omega)) (fun e => ?_) (fun ks l'' q1 q2 q3 q4 => ?_) zl
    · obtain ⟨a, b, c⟩ := So e
      exact ⟨a, b, c, by omega⟩
    · obtain ⟨a, b, c⟩ := Co ks l'' q1 q2 q3 q4
      rw [List.take_of_length_le (by omega)] at b
      rw [List.drop_of_length_le (by omega)] at c
      exact ⟨a, b, by simpa using c⟩
end
end Go.Q.Yb
