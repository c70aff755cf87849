/- A part of the proof of statements of this seat: lemmas, no statement of their own. -/
import Derived.Test.YtcmbgfmbmbgbiaaYbRhK
set_option linter.unusedVariables false
set_option linter.unusedSimpArgs false
namespace Go.Q.Yb
/-- the bytes are a registry's -/
def IsReg (l : List Int) (A : AG) : Prop := A.length ≤ 8 ∧ Srt A ∧ (∀ p ∈ A, Good p) ∧ l = shortL A.length ++ A.flatMap tenF
theorem tenF_len {p : ByteArray × AT} (g : Good p) : p.2.2.2.length * 64 ≤ (tenF p).length := by
  unfold tenF
  simp only [List.length_append]
  rw [keysF_len g.2.2.2.2]; omega
theorem fm_le {α : Type} {f : α → List Int} : ∀ {A : List α} {p : α}, p ∈ A → (f p).length ≤ (A.flatMap f).length
  | [], p, h => by cases h
  | a :: r, p, h => by
    rw [List.flatMap_cons, List.length_append]
    rcases List.mem_cons.1 h with rfl | h
    · omega
    · have := fm_le (f := f) h; omega
def Lst (last : ByteArray) (L : List (ByteArray × TZ)) : Prop := (∀ p ∈ L, p.1 = last ∨ ltB p.1 last) ∧ ((∃ p ∈ L, p.1 = last) ∨ (L = [] ∧ last.data.toList = []))
theorem absL_snoc (L : List (ByteArray × TZ)) (n : ByteArray) (q : TZ) : absL (L ++ [(n, q)]) = absL L ++ [(n, absT q)] := by unfold absL; rw [List.map_append]; rfl
theorem name_pos {p : ByteArray × AT} (g : Good p) : ∃ c r, p.1.data.toList = c :: r := by
  have h := g.1
  unfold nameOk at h
  rw [Bool.and_eq_true, Bool.and_eq_true, decide_eq_true_eq] at h
  have : p.1.data.toList.length = p.1.size := Array.length_toList
  cases hq : p.1.data.toList with
  | nil => rw [hq] at this; have h2 := h.2.1; have : p.1.size = 0 := this.symm; omega
  | cons c r => exact ⟨c, r, rfl⟩
section
variable {p0 : Slc} {l : List Int} {k : Option Addr × Int → Heap → Prop} {h : Heap}
theorem From_ok (S : SlcAt h p0 (b8 l)) (hl : p0.len = l.length) (hc : p0.len ≤ p0.cap) (hB : isB l) (hz : l.length ≤ 60000)
    (H1 : ∀ rr m L h', RegAt 1000 h' rr m L → IsReg l (absL L) → Ext h.size h h' → k (some ⟨rr, 0, none⟩, 0) h')
    (H2 : ∀ h', Ext h.size h h' → (∀ A : AG, IsReg l A → False) → k (none, 4) h') : reg_From p0 k h := by
  unfold reg_From
  refine ⟨_, _, rfl, rfl, ?_⟩
  have P := Blk.push h (S_reg_reader.cs ⟨p0, false⟩) 155
  have W2 := Ext.push h (.cells (S_reg_reader.cs ⟨p0, false⟩).toArray 155) (Nat.le_refl _)
  have pl := P.lt
  have R2 : Rd 155 (h.push (.cells (S_reg_reader.cs ⟨p0, false⟩).toArray 155)) h.size l false := ⟨p0, P, fun h' X => ⟨S.1, fun b hb j w hj => by
    have lt := cellH_lt (S.2 b hb j w hj)
    rw [X.cell lt, W2.cell lt]; exact S.2 b hb j w hj⟩, hl, hc, hB, by omega⟩
  generalize eh : h.size = b1 at *
  generalize h.push (.cells (S_reg_reader.cs ⟨p0, false⟩).toArray 155) = h2 at *
  have z2 := W2.size
  refine New_ok fun rr m h4 R4 r0 m0 X4 => ?_
  have z4 := X4.size
  have O4 : RegO (b1 + 1) h4 rr m [] := ⟨R4.P, R4.ne, R4.M, by simp⟩
  refine regr_short4 (R2.ext (X4.mono (by omega))) fun n l1 bb1 h6 R6 U6 n0 n1 E1 C1 => ?_
  have z6 := U6.size
  have O6 := O4.upd U6 (by omega) (by omega) (by omega)
  have X6 : Ext b1 h h6 := (W2.trans (X4.mono (by omega))).trans ⟨z6, fun g hg => U6.block g (by omega) (by omega)⟩
  unfold reg_From_l1
  refine ⟨fun q h' => (0 ≤ q.2 ∧ q.2 < 18446744073709551616) ∧ Ext b1 h h' ∧ ∃ lj bj, Rd 155 h' b1 lj bj ∧ (bj = true → ∀ A, IsReg l A → False) ∧
      (bj = false → ∃ L, RegO (b1 + 1) h' rr m L ∧ L.length ≤ 8 ∧ l = shortL (L.length + q.2) ++ ((absL L).flatMap tenF ++ lj) ∧ Srt (absL L) ∧ (∀ p ∈ absL L, Good p) ∧ Lst q.1 L ∧ ∀ A, IsReg l A → ∃ rest, A = absL L ++ rest ∧ lj = rest.flatMap tenF ∧ (rest.length : Int) = q.2),
    fun q _ => q.2.toNat, ⟨⟨n0, n1⟩, X6, l1, bb1, R6, fun e A hA => ?_, fun e => ⟨[], O6, by simp, ?_, List.Pairwise.nil, by simp [absL], ⟨by simp, .inr ⟨rfl, rfl⟩⟩, fun A hA => ?_⟩⟩, ?_⟩
  · obtain ⟨a1, _, _, a4⟩ := hA
    have := (C1 _ _ rfl a4 (by omega) (by omega)).1
    rw [this] at e; cases e
  · rw [(E1 e).2]
    simp [absL]
  · obtain ⟨a1, _, _, a4⟩ := hA
    obtain ⟨_, b, c⟩ := C1 _ _ rfl a4 (by omega) (by omega)
    exact ⟨A, by simp [absL], c, b.symm⟩
  rintro last n h7 ⟨⟨m0', m1'⟩, X7, lj, bj, R7, NB, GB⟩
  dsimp only at m0' m1' GB
  have z7 := X7.size
  have r7 := R7.lt
  obtain ⟨c7, _, _, _⟩ := R7.bit true
  have none' : (∀ A, IsReg l A → False) → k (none, 4) h7 := fun no => H2 h7 X7 no
  -- at the end
  have end' : (bj = false → n = 0) → reg_From_g2 ⟨b1, 0, none⟩ (some ⟨rr, 0, none⟩) last n false k (fun s h' => ((0 ≤ s.2 ∧ s.2 < 18446744073709551616) ∧ Ext b1 h h' ∧ ∃ lj bj, Rd 155 h' b1 lj bj ∧ (bj = true → ∀ A, IsReg l A → False) ∧
      (bj = false → ∃ L, RegO (b1 + 1) h' rr m L ∧ L.length ≤ 8 ∧ l = shortL (L.length + s.2) ++ ((absL L).flatMap tenF ++ lj) ∧ Srt (absL L) ∧ (∀ p ∈ absL L, Good p) ∧ Lst s.1 L ∧ ∀ A, IsReg l A → ∃ rest, A = absL L ++ rest ∧ lj = rest.flatMap tenF ∧ (rest.length : Int) = s.2)) ∧ s.2.toNat < n.toNat) h7 := fun hn => by
    unfold reg_From_g2
    rw [if_neg (by simp)]
    refine ⟨bj, c7, ?_⟩
    cases hb : bj with
    | true =>
      rw [if_pos rfl]
      unfold reg_From_g5
      rw [if_pos rfl]
      exact none' (NB hb)
    | false =>
      rw [if_neg (by simp)]
      obtain ⟨s, Kb, _, sl, _⟩ := R7
      refine ⟨s, by rw [Kb.cell]; rfl, ?_⟩
      obtain ⟨L, O, L8, e, so, go, _, sy⟩ := GB hb
      have hn0 := hn hb
      unfold reg_From_g5
      by_cases hlj : lj = []
      · rw [if_neg (by rw [sl, hlj]; simp)]
        rw [hlj, List.append_nil, hn0, Int.add_zero] at e
        have e' : l = shortL (absL L).length ++ (absL L).flatMap tenF := by rw [absL_len]; exact e
        refine H1 rr m L h7 (O.reg L8 fun q hq => ?_) ⟨by rw [absL_len]; exact L8, so, go, e'⟩ X7
        have hm : (q.1, absT q.2) ∈ absL L := List.mem_map.2 ⟨q, hq, rfl⟩
        have h1 := tenF_len (go _ hm)
        have h2 := fm_le (f := tenF) hm
        have h3 := congrArg List.length e'
        rw [List.length_append] at h3
        have h4 : (absT q.2).2.2.length = q.2.2.length := by simp [absT]
        dsimp only at h1
        omega
      · rw [if_pos (by rw [decide_eq_true_eq, sl]; have := List.length_pos_iff.2 hlj; omega)]
        refine none' fun A hA => ?_
        obtain ⟨rest, _, b, c⟩ := sy A hA
        have : rest = [] := List.length_eq_zero_iff.1 (by omega)
        rw [this] at b
        exact hlj b
  unfold reg_From_l1b
  by_cases hn : n > 0
  · rw [if_pos (by rw [decide_eq_true_eq]; exact hn)]
    refine ⟨bj, c7, ?_⟩
    cases hb : bj with
    | true => exact end' fun e => by rw [hb] at e; cases e
    | false =>
      rw [hb] at R7
      obtain ⟨L, O, L8, e, so, go, J, sy⟩ := GB hb
      unfold reg_From_g2
      rw [if_pos (by rfl)]
      refine RTenant_ok R7 fun t zs l' b' h8 R8 U8 O8 zl ns E8 C8 => ?_
      have z8 := U8.size
      have X8 : Ext b1 h h8 := X7.trans ⟨z8, fun g hg => U8.block g (by omega) (by omega)⟩
      have OO := O.upd U8 (by omega) (by omega) (by omega)
      refine ⟨_, _, rfl, rfl, ?_⟩
      have T := Blk.push h8 (S_api_Tenant.cs zT) 130
      have T2 := T.sets_all (vs := S_api_Tenant.cs t) rfl
      have W9 := (Ext.push h8 (.cells (S_api_Tenant.cs zT).toArray 130) (Nat.le_refl _)).trans (Ext.sets _ (a := ⟨h8.size, 0, none⟩) 0 (S_api_Tenant.cs t) (Nat.le_refl _))
      refine ⟨_, WrsAt.of_blk T (by rw [tcs_len]; omega), rfl, ?_⟩
      show ∃ v12, cellH (setsH (h8.push (.cells (S_api_Tenant.cs zT).toArray 130)) ⟨h8.size, 0, none⟩ 0 (S_api_Tenant.cs t)) _ = _ ∧ _
      generalize setsH (h8.push (.cells (S_api_Tenant.cs zT).toArray 130)) ⟨h8.size, 0, none⟩ 0 (S_api_Tenant.cs t) = h9 at *
      have z9 := W9.size
      have R9 := R8.ext (W9.mono (by omega))
      have O9 := OO.ext W9
      have K9 : KOwn (b1 + 1) h9 t.f_Keys zs := (O8.step z9 fun g _ g2 => W9.block g g2).mono (by omega)
      have X9 : Ext b1 h h9 := X8.trans (W9.mono (by omega))
      obtain ⟨c9, _, _, _⟩ := R9.bit true
      -- what a registry asks for is met
      have SY : ∀ A, IsReg l A → b' = false ∧ ltB last t.f_Name ∧ L.length < 8 ∧ ∃ rest, A = absL L ++ (t.f_Name, absT (t, zs)) :: rest ∧ l' = rest.flatMap tenF ∧ ((rest.length : Nat) : Int) = n - 1 := fun A hA => by
        obtain ⟨rest, a1, a2, a3⟩ := sy A hA
        cases rest with
        | nil => simp at a3; omega
        | cons p rest =>
          rw [List.flatMap_cons] at a2
          obtain ⟨h8', hS, hG, _⟩ := hA
          have gp : Good p := hG p (by rw [a1]; simp)
          obtain ⟨d1, d2, d3⟩ := C8 p _ rfl a2 gp
          refine ⟨d1, ?_, ?_, rest, by rw [d2]; exact a1, d3, by simp at a3; omega⟩
          · have pn : p.1 = t.f_Name := by rw [← d2]
            rw [← pn]
            rcases J.2 with ⟨q, hq, he⟩ | ⟨_, he⟩
            · rw [← he]
              unfold Srt at hS
              rw [a1, List.map_append, List.pairwise_append] at hS
              exact hS.2.2 q.1 (List.mem_map.2 ⟨(q.1, absT q.2), List.mem_map.2 ⟨q, hq, rfl⟩, rfl⟩) p.1 (by simp)
            · obtain ⟨c, r, hcr⟩ := name_pos gp
              unfold ltB
              rw [he, hcr]; exact List.nil_lt_cons _ _
          · have := congrArg List.length a1
            rw [List.length_append, absL_len, List.length_cons] at this
            omega
      have put : ∀ t46 : Bool, (t46 = true → ∀ A, IsReg l A → False) → (t46 = false → b' = false ∧ ltB last t.f_Name ∧ L.length < 8) → reg_From_g4 ⟨b1, 0, none⟩ (some ⟨rr, 0, none⟩) n ⟨h8.size, 0, none⟩ ⟨b1, 0, none⟩ t46 k (fun s h' => ((0 ≤ s.2 ∧ s.2 < 18446744073709551616) ∧ Ext b1 h h' ∧ ∃ lj bj, Rd 155 h' b1 lj bj ∧ (bj = true → ∀ A, IsReg l A → False) ∧
      (bj = false → ∃ L, RegO (b1 + 1) h' rr m L ∧ L.length ≤ 8 ∧ l = shortL (L.length + s.2) ++ ((absL L).flatMap tenF ++ lj) ∧ Srt (absL L) ∧ (∀ p ∈ absL L, Good p) ∧ Lst s.1 L ∧ ∀ A, IsReg l A → ∃ rest, A = absL L ++ rest ∧ lj = rest.flatMap tenF ∧ (rest.length : Int) = s.2)) ∧ s.2.toNat < n.toNat) h9 := fun t46 no ok => by
        refine FromPut_ok R9 O9 T2 K9 (by omega) (by omega) (by omega) (by omega) fun h10 R10 O10 z10 o10 => ?_
        rw [wrapU64 (by omega) (by omega)]
        refine ⟨⟨by dsimp only; omega, X9.trans ⟨z10, fun g hg => o10 g (by omega) (by omega) (by omega)⟩, l', t46, R10, no, fun e46 => ?_⟩, by dsimp only; omega⟩
        obtain ⟨q1, q2, q3⟩ := ok e46
        obtain ⟨_, e2, gT⟩ := E8 q1
        have fresh : ∀ p ∈ L, p.1 ≠ t.f_Name := fun p hp e => by
          rcases J.1 p hp with h | h
          · rw [h] at e; rw [e] at q2; exact ltB_irrefl _ q2
          · rw [e] at h; exact ltB_irrefl _ (ltB_trans h q2)
        rw [mput_none fresh] at O10
        refine ⟨L ++ [(t.f_Name, (t, zs))], O10, by simp; omega, ?_, ?_, fun p hp => ?_, ⟨fun p hp => ?_, .inl ⟨(t.f_Name, (t, zs)), by simp, rfl⟩⟩, fun A hA => ?_⟩
        · rw [absL_snoc, e, e2, List.flatMap_append]
          dsimp only
          rw [show (((L ++ [(t.f_Name, ((t, zs) : TZ))]).length : Nat) : Int) + (n - 1) = (L.length : Int) + n from by simp; omega]
          simp
        · unfold Srt
          rw [absL_snoc, List.map_append, List.pairwise_append]
          refine ⟨so, by simp, fun a ha b hb => ?_⟩
          simp at hb; subst hb
          rw [absL_keys] at ha
          obtain ⟨q, hq, rfl⟩ := List.mem_map.1 ha
          rcases J.1 q hq with h | h
          · rw [h]; exact q2
          · exact ltB_trans h q2
        · rw [absL_snoc] at hp
          rcases List.mem_append.1 hp with hp | hp
          · exact go p hp
          · simp at hp; subst hp; exact gT
        · rcases List.mem_append.1 hp with hp | hp
          · right
            rcases J.1 p hp with h | h
            · rw [h]; exact q2
            · exact ltB_trans h q2
          · simp at hp; subst hp; exact .inl rfl
        · obtain ⟨_, _, _, rest, b1', b2, b3⟩ := SY A hA
          exact ⟨rest, by rw [absL_snoc, b1']; simp, b2, b3⟩
      refine ⟨b', c9, ?_⟩
      cases hb' : b' with
      | true =>
        rw [if_pos rfl]
        unfold reg_From_g3
        rw [if_pos rfl]
        exact put true (fun _ A hA => by have := (SY A hA).1; rw [hb'] at this; cases this) fun e => by cases e
      | false =>
        rw [if_neg (by simp)]
        refine ⟨t.f_Name, by rw [T2.cell]; rfl, ?_⟩
        cases hle : (Op.bytesLess t.f_Name.toList last.toList || t.f_Name.toList == last.toList) with
        | true =>
          unfold reg_From_g3
          rw [if_pos rfl]
          refine put true (fun _ A hA => ?_) fun e => by cases e
          have := le_not.2 (SY A hA).2.1
          rw [hle] at this; cases this
        | false =>
          have lt := le_not.1 hle
          unfold reg_From_g3
          rw [if_neg (by simp)]
          refine ⟨_, rfl, some m, by rw [O9.P.cell]; rfl, _, O9.M, put _ (fun e A hA => ?_) fun e => ⟨hb', lt, ?_⟩⟩
          · rw [decide_eq_true_eq, List.length_map] at e
            have := (SY A hA).2.2.1
            omega
          · rw [decide_eq_false_iff_not, List.length_map] at e
            omega
  · rw [if_neg (by rw [decide_eq_true_eq]; exact hn)]
    exact end' fun _ => by omega
end
end Go.Q.Yb
