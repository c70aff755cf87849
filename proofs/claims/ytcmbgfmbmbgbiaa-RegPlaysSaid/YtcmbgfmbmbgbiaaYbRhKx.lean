/- A part of the proof of statements of this seat: lemmas, no statement of their own. -/
import Derived.Test.YtcmbgfmbmbgbiaaYbRhJ
import Derived.Test.YtcmbgfmbmbgbiaaYbRgQ
import Derived.Test.YtcmbgfmbmbgbiaaYbRgLx
set_option linter.unusedVariables false
set_option linter.unusedSimpArgs false
namespace Go.Q.Yb
/-! ### names by rising order -/
theorem bytesLess_lt : ∀ (a b : List UInt8), Op.bytesLess a b = decide (a < b)
  | _, [] => by simp [Op.bytesLess]
  | [], y :: b => by simp [Op.bytesLess]
  | x :: a, y :: b => by
    have ih := bytesLess_lt a b
    unfold Op.bytesLess
    rw [ih]
    have e : (x :: a < y :: b) ↔ (x < y ∨ x = y ∧ a < b) := List.cons_lt_cons_iff
    rw [Bool.eq_iff_iff, decide_eq_true_iff, e]
    simp only [Bool.or_eq_true, Bool.and_eq_true, decide_eq_true_iff, beq_iff_eq]
def ltB (a b : ByteArray) : Prop := a.data.toList < b.data.toList
theorem ltB_irrefl (a : ByteArray) : ¬ ltB a a := List.lt_irrefl _
theorem ltB_trans {a b c : ByteArray} (h : ltB a b) (g : ltB b c) : ltB a c := List.lt_trans h g
theorem ba_dt {a b : ByteArray} (h : a.data.toList = b.data.toList) : a = b := by
  cases a; cases b
  simp only [ByteArray.mk.injEq]
  exact Array.toList_inj.1 h
/-- a name is at or below another -/
theorem le_not {a b : ByteArray} : (Op.bytesLess a.toList b.toList || a.toList == b.toList) = false ↔ ltB b a := by
  rw [ba_eq, ByteArray.toList_eq, ByteArray.toList_eq, bytesLess_lt, Bool.or_eq_false_iff, decide_eq_false_iff_not, decide_eq_false_iff_not]
  unfold ltB
  constructor
  · rintro ⟨h1, h2⟩
    have h3 : b.data.toList ≤ a.data.toList := List.not_lt.1 h1
    rcases Classical.em (b.data.toList < a.data.toList) with h | h
    · exact h
    · exact absurd (ba_dt (List.le_antisymm (List.not_lt.1 h) h3)) h2
  · intro h
    exact ⟨fun h1 => List.lt_irrefl _ (List.lt_trans h h1), fun e => by subst e; exact List.lt_irrefl _ h⟩
def Srt (A : AG) : Prop := (A.map (·.1)).Pairwise ltB
theorem Srt.nd {A : AG} (S : Srt A) : (A.map (·.1)).Nodup := List.nodup_iff_pairwise_ne.2 (List.Pairwise.imp (fun h e => by subst e; exact ltB_irrefl _ h) S)
theorem srtS_sorted {l : List ByteArray} (h : l.Pairwise ltB) : srtS l = l := by
  unfold srtS
  rw [List.mergeSort_of_pairwise]
  · rw [List.map_map]
    refine (List.map_congr_left fun t _ => ?_).trans (List.map_id' _)
    show (⟨t.data.toList.toArray⟩ : ByteArray) = t
    cases t; simp
  · rw [List.pairwise_map]
    exact h.imp fun h => by rw [decide_eq_true_eq]; exact List.le_of_lt h
theorem mget_self {K V : Type} [DecidableEq K] : ∀ {l : List (K × V)}, (l.map (·.1)).Nodup → ∀ p ∈ l, mget l p.1 = some p.2
  | [], _, p, hp => by cases hp
  | q :: r, h, p, hp => by
    rw [List.map_cons, List.nodup_cons] at h
    unfold mget
    rcases List.mem_cons.1 hp with rfl | hp
    · rw [if_pos rfl]
    · rw [if_neg (fun e => h.1 (by rw [e]; exact List.mem_map.2 ⟨p, hp, rfl⟩)), mget_self h.2 p hp]
theorem tenL_sorted {A : AG} (S : Srt A) : tenL A = A := by
  unfold tenL
  rw [srtS_sorted S, List.map_map]
  refine (List.map_congr_left fun p hp => ?_).trans (List.map_id' _)
  show (p.1, (mget A p.1).getD zAT) = p
  rw [mget_self S.nd p hp]; rfl
theorem mput_twice {K V : Type} [DecidableEq K] (k : K) (v w : V) : ∀ l : List (K × V), mput (mput l k v) k w = mput l k w
  | [] => by simp [mput]
  | p :: r => by
    have ih := mput_twice k v w r
    by_cases h : p.1 = k
    · simp [mput, h]
    · simp [mput, h, ih]
/-! ### a registry whose keys are its own -/
structure RegO (B : Nat) (h : Heap) (r m : Nat) (L : List (ByteArray × TZ)) : Prop where
  P : Blk h r [.map (some m)] 212
  ne : r ≠ m
  M : MapAt (K := ByteArray) (V := S_api_Tenant) .string Value.string vT h (some m) (L.map fun q => (q.1, q.2.1))
  T : ∀ q ∈ L, q.2.1.f_Name = q.1 ∧ KOwn B h q.2.1.f_Keys q.2.2
theorem Row.notMap {B E w : Nat} {h : Heap} {s : Slc} {xs : List Value} (R : Row B h E w s xs) {g : Nat} (hg : s.blk = some g) : ∀ es ck, h[g]? ≠ some (.map es ck) := by
  intro es ck e
  rcases R.2.2 with ⟨a0, _⟩ | ⟨g', cur, a1, _, a3, _⟩
  · simp [Slc.blk, a0] at hg
  · have : g' = g := by simpa [Slc.blk, a1] using hg
    subst this
    exact Blk.notMap a3 es ck e
section
variable {B c : Nat} {h h' : Heap} {r m : Nat} {L : List (ByteArray × TZ)}
theorem KOwn.map {s : Slc} {zs : List Z} (K : KOwn B h s zs) {es : Array MapEntry} {ck : Nat} (hm : h[m]? = some (.map es ck)) (e : ∀ g, g < h.size → g ≠ m → h'[g]? = h[g]?) : KOwn B h' s zs :=
  K.keepE fun g E w t ys Ru _ hg => e g (Ru.bd hg).2 fun hh => Row.notMap Ru hg es ck (hh ▸ hm)
theorem RegO.upd (O : RegO B h r m L) (U : Upd c h h') (hc : c < B) (hr : r ≠ c) (hm : m ≠ c) : RegO B h' r m L :=
  ⟨U.blk O.P hr, O.ne, O.M.old (U.block m O.M.lt hm), fun q hq => ⟨(O.T q hq).1, (O.T q hq).2.step U.size fun g g1 g2 => U.block g g2 (by omega)⟩⟩
theorem RegO.ext (O : RegO B h r m L) (X : Ext h.size h h') : RegO B h' r m L :=
  ⟨O.P.ext X O.P.lt, O.ne, O.M.ext X O.M.lt, fun q hq => ⟨(O.T q hq).1, (O.T q hq).2.step X.size fun g _ g2 => X.block g g2⟩⟩
theorem RegO.reg (O : RegO B h r m L) (hl : L.length ≤ 8) (hz : ∀ q ∈ L, q.2.2.length ≤ 1000) : RegAt 1000 h r m L :=
  ⟨O.P, O.ne, O.M, fun q hq => ⟨(O.T q hq).1, fun h' U => by
    obtain ⟨es, ck, e, _⟩ := O.M
    exact ((O.T q hq).2.map e fun g g1 g2 => U.block g g1 g2).held.now, hz q hq⟩, hl, Nat.le_refl _⟩
theorem FromPut_ok {b1 b9 : Nat} {t : S_api_Tenant} {zs : List Z} {lj : List Int} {bj t46 : Bool} {n : Int} {k : Option Addr × Int → Heap → Prop} {nx1 : ByteArray × Int → Heap → Prop}
    (R : Rd 155 h b1 lj bj) (O : RegO B h r m L) (T : Blk h b9 (S_api_Tenant.cs t) 130) (K : KOwn B h t.f_Keys zs) (hb : b1 < B) (hr : r ≠ b1) (hm : b1 < m) (h9 : b9 ≠ b1)
    (H : ∀ h', Rd 155 h' b1 lj t46 → RegO B h' r m (mput L t.f_Name (t, zs)) → h.size ≤ h'.size → (∀ g, g < h.size → g ≠ b1 → g ≠ m → h'[g]? = h[g]?) → nx1 (t.f_Name, IntKind.u64.wrap (n - 1)) h') :
    reg_From_g4 ⟨b1, 0, none⟩ (some ⟨r, 0, none⟩) n ⟨b9, 0, none⟩ ⟨b1, 0, none⟩ t46 k nx1 h := by
  unfold reg_From_g4
  obtain ⟨_, wr, R2, U2⟩ := R.bit t46
  refine ⟨_, wr, rfl, ?_⟩
  have O2 := O.upd U2 hb hr (by omega)
  have T2 := U2.blk T h9
  have K2 := K.step U2.size fun g g1 g2 => U2.block g g2 (by omega)
  have z2 := U2.size
  generalize setH h ((⟨b1, 0, none⟩ : Addr).add 1) (.bool t46) = h2 at *
  have nm : ∀ {h'}, Blk h' b9 (S_api_Tenant.cs t) 130 → cellH h' (⟨b9, 0, none⟩ : Addr) = some (.string t.f_Name) := fun K => by rw [K.cell]; rfl
  have ct : ∀ {h'}, Blk h' b9 (S_api_Tenant.cs t) 130 → CellsAt h' (⟨b9, 0, none⟩ : Addr) (S_api_Tenant.cs t) := fun K => K.part (n := 4) rfl
  obtain ⟨es, ck, em, _⟩ := O2.M
  have b9m : b9 ≠ m := fun e => Blk.notMap T2 es ck (e ▸ em)
  have rlt := R2.lt
  refine ⟨_, rfl, some m, by rw [O2.P.cell]; rfl, _, nm T2, t, ct T2, _, nm T2, m, _, _, rfl, O2.M, rfl, ?_⟩
  have M3 := O2.M.put kStr t.f_Name ((mget (L.map fun q => (q.1, q.2.1)) t.f_Name).getD zT)
  have S3 := StampAt.of kStr O2.M t.f_Name ((mget (L.map fun q => (q.1, q.2.1)) t.f_Name).getD zT)
  have o3 : ∀ g, g ≠ m → (setM h2 m (.string t.f_Name) (vT ((mget (L.map fun q => (q.1, q.2.1)) t.f_Name).getD zT)))[g]? = h2[g]? := fun g hg => setM_other hg
  have z3 : (setM h2 m (.string t.f_Name) (vT ((mget (L.map fun q => (q.1, q.2.1)) t.f_Name).getD zT))).size = h2.size := setM_size
  show cellH (setM h2 m (.string t.f_Name) (vT ((mget (L.map fun q => (q.1, q.2.1)) t.f_Name).getD zT))) _ = _ ∧ _
  generalize setM h2 m (.string t.f_Name) (vT ((mget (L.map fun q => (q.1, q.2.1)) t.f_Name).getD zT)) = h3 at *
  have T3 := T2.old (o3 b9 b9m)
  refine ⟨nm T3, ct T3, m, _, rfl, S3, rfl, ?_⟩
  have M4 := M3.put kStr t.f_Name t
  rw [mput_twice] at M4
  have o4 : ∀ g, g ≠ m → (setM h3 m (.string t.f_Name) (vT t))[g]? = h3[g]? := fun g hg => setM_other hg
  have z4 : (setM h3 m (.string t.f_Name) (vT t)).size = h3.size := setM_size
  show cellH (setM h3 m (.string t.f_Name) (vT t)) _ = _ ∧ _
  generalize setM h3 m (.string t.f_Name) (vT t) = h4 at *
  have o24 : ∀ g, g ≠ m → h4[g]? = h2[g]? := fun g hg => (o4 g hg).trans (o3 g hg)
  refine ⟨nm (T3.old (o4 b9 b9m)), _, rfl, ?_⟩
  refine H h4 ?_ ⟨O2.P.old (o24 r O2.ne), O2.ne, ?_, fun q hq => ?_⟩ (by omega) fun g g1 g2 g3 => by rw [o24 g g3, U2.block g g1 g2]
  · exact R2.ext ⟨by omega, fun g hg => o24 g (by omega)⟩
  · have := mput_map (fun q : TZ => q.1) t.f_Name (t, zs) L
    rw [← this]; exact M4
  · rcases mput_mem hq with rfl | hq
    · exact ⟨rfl, K2.map em fun g g1 g2 => o24 g g2⟩
    · exact ⟨(O2.T q hq).1, (O2.T q hq).2.map em fun g g1 g2 => o24 g g2⟩
end
end Go.Q.Yb
set_option linter.unusedVariables false
set_option linter.unusedSimpArgs false
namespace Go.Q.Yb
/-- the bytes are a registry's -/
def IsReg (l : List Int) (A : AG) : Prop := A.length ≤ 8 ∧ Srt A ∧ (∀ p ∈ A, Good p) ∧ l = shortL A.length ++ A.flatMap tenF
theorem tenF_len {p : ByteArray × AT} (g : Good p) : p.2.2.2.length * 64 ≤ (tenF p).length := by
  unfold tenF
  simp only [List.length_append]
  rw [keysF_len g.2.2.2.2]; omega
theorem fm_le {α : Type} {f : α → List Int} : ∀ {A : List α} {p : α}, p ∈ A → (f p).length ≤ (A.flatMap f).length
  | [], p, h => by cases h
  | a :: r, p, h => by
    rw [List.flatMap_cons, List.length_append]
    rcases List.mem_cons.1 h with rfl | h
    · omega
    · have := fm_le (f := f) h; omega
def Lst (last : ByteArray) (L : List (ByteArray × TZ)) : Prop := (∀ p ∈ L, p.1 = last ∨ ltB p.1 last) ∧ ((∃ p ∈ L, p.1 = last) ∨ (L = [] ∧ last.data.toList = []))
theorem absL_snoc (L : List (ByteArray × TZ)) (n : ByteArray) (q : TZ) : absL (L ++ [(n, q)]) = absL L ++ [(n, absT q)] := by unfold absL; rw [List.map_append]; rfl
theorem name_pos {p : ByteArray × AT} (g : Good p) : ∃ c r, p.1.data.toList = c :: r := by
  have h := g.1
  unfold nameOk at h
  rw [Bool.and_eq_true, Bool.and_eq_true, decide_eq_true_eq] at h
  have : p.1.data.toList.length = p.1.size := Array.length_toList
  cases hq : p.1.data.toList with
  | nil => rw [hq] at this; have h2 := h.2.1; have : p.1.size = 0 := this.symm; omega
  | cons c r => exact ⟨c, r, rfl⟩
section
variable {p0 : Slc} {l : List Int} {k : Option Addr × Int → Heap → Prop} {h : Heap}
theorem From_ok (S : SlcAt h p0 (b8 l)) (hl : p0.len = l.length) (hc : p0.len ≤ p0.cap) (hB : isB l) (hz : l.length ≤ 60000)
    (H1 : ∀ rr m L h', RegAt 1000 h' rr m L → IsReg l (absL L) → Ext h.size h h' → k (some ⟨rr, 0, none⟩, 0) h')
    (H2 : ∀ h', Ext h.size h h' → (∀ A : AG, IsReg l A → False) → k (none, 4) h') : reg_From p0 k h := by
  unfold reg_From
  refine ⟨_, _, rfl, rfl, ?_⟩
  have P := Blk.push h (S_reg_reader.cs ⟨p0, false⟩) 155
  have W2 := Ext.push h (.cells (S_reg_reader.cs ⟨p0, false⟩).toArray 155) (Nat.le_refl _)
  have pl := P.lt
  have R2 : Rd 155 (h.push (.cells (S_reg_reader.cs ⟨p0, false⟩).toArray 155)) h.size l false := ⟨p0, P, fun h' X => ⟨S.1, fun b hb j w hj => by
    have lt := cellH_lt (S.2 b hb j w hj)
    rw [X.cell lt, W2.cell lt]; exact S.2 b hb j w hj⟩, hl, hc, hB, by omega⟩
  generalize eh : h.size = b1 at *
  generalize h.push (.cells (S_reg_reader.cs ⟨p0, false⟩).toArray 155) = h2 at *
  have z2 := W2.size
  refine New_ok fun rr m h4 R4 r0 m0 X4 => ?_
  have z4 := X4.size
  have O4 : RegO (b1 + 1) h4 rr m [] := ⟨R4.P, R4.ne, R4.M, by simp⟩
  refine regr_short4 (R2.ext (X4.mono (by omega))) fun n l1 bb1 h6 R6 U6 n0 n1 E1 C1 => ?_
  have z6 := U6.size
  have O6 := O4.upd U6 (by omega) (by omega) (by omega)
  have X6 : Ext b1 h h6 := (W2.trans (X4.mono (by omega))).trans ⟨z6, fun g hg => U6.block g (by omega) (by omega)⟩
  unfold reg_From_l1
  refine ⟨fun q h' => (0 ≤ q.2 ∧ q.2 < 18446744073709551616) ∧ Ext b1 h h' ∧ ∃ lj bj, Rd 155 h' b1 lj bj ∧ (bj = true → ∀ A, IsReg l A → False) ∧
      (bj = false → ∃ L, RegO (b1 + 1) h' rr m L ∧ L.length ≤ 8 ∧ l = shortL (L.length + q.2) ++ ((absL L).flatMap tenF ++ lj) ∧ Srt (absL L) ∧ (∀ p ∈ absL L, Good p) ∧ Lst q.1 L ∧ ∀ A, IsReg l A → ∃ rest, A = absL L ++ rest ∧ lj = rest.flatMap tenF ∧ (rest.length : Int) = q.2),
    fun q _ => q.2.toNat, ⟨⟨n0, n1⟩, X6, l1, bb1, R6, fun e A hA => ?_, fun e => ⟨[], O6, by simp, ?_, List.Pairwise.nil, by simp [absL], ⟨by simp, .inr ⟨rfl, rfl⟩⟩, fun A hA => ?_⟩⟩, ?_⟩
  · obtain ⟨a1, _, _, a4⟩ := hA
    have := (C1 _ _ rfl a4 (by omega) (by omega)).1
    rw [this] at e; cases e
  · rw [(E1 e).2]
    simp [absL]
  · obtain ⟨a1, _, _, a4⟩ := hA
    obtain ⟨_, b, c⟩ := C1 _ _ rfl a4 (by omega) (by omega)
    exact ⟨A, by simp [absL], c, b.symm⟩
  rintro last n h7 ⟨⟨m0', m1'⟩, X7, lj, bj, R7, NB, GB⟩
  dsimp only at m0' m1' GB
  have z7 := X7.size
  have r7 := R7.lt
  obtain ⟨c7, _, _, _⟩ := R7.bit true
  have none' : (∀ A, IsReg l A → False) → k (none, 4) h7 := fun no => H2 h7 X7 no
  -- at the end
  have end' : (bj = false → n = 0) → reg_From_g2 ⟨b1, 0, none⟩ (some ⟨rr, 0, none⟩) last n false k (fun s h' => ((0 ≤ s.2 ∧ s.2 < 18446744073709551616) ∧ Ext b1 h h' ∧ ∃ lj bj, Rd 155 h' b1 lj bj ∧ (bj = true → ∀ A, IsReg l A → False) ∧
      (bj = false → ∃ L, RegO (b1 + 1) h' rr m L ∧ L.length ≤ 8 ∧ l = shortL (L.length + s.2) ++ ((absL L).flatMap tenF ++ lj) ∧ Srt (absL L) ∧ (∀ p ∈ absL L, Good p) ∧ Lst s.1 L ∧ ∀ A, IsReg l A → ∃ rest, A = absL L ++ rest ∧ lj = rest.flatMap tenF ∧ (rest.length : Int) = s.2)) ∧ s.2.toNat < n.toNat) h7 := fun hn => by
    unfold reg_From_g2
    rw [if_neg (by simp)]
    refine ⟨bj, c7, ?_⟩
    cases hb : bj with
    | true =>
      rw [if_pos rfl]
      unfold reg_From_g5
      rw [if_pos rfl]
      exact none' (NB hb)
    | false =>
      rw [if_neg (by simp)]
      obtain ⟨s, Kb, _, sl, _⟩ := R7
      refine ⟨s, by rw [Kb.cell]; rfl, ?_⟩
      obtain ⟨L, O, L8, e, so, go, _, sy⟩ := GB hb
      have hn0 := hn hb
      unfold reg_From_g5
      by_cases hlj : lj = []
      · rw [if_neg (by rw [sl, hlj]; simp)]
        rw [hlj, List.append_nil, hn0, Int.add_zero] at e
        have e' : l = shortL (absL L).length ++ (absL L).flatMap tenF := by rw [absL_len]; exact e
        refine H1 rr m L h7 (O.reg L8 fun q hq => ?_) ⟨by rw [absL_len]; exact L8, so, go, e'⟩ X7
        have hm : (q.1, absT q.2) ∈ absL L := List.mem_map.2 ⟨q, hq, rfl⟩
        have h1 := tenF_len (go _ hm)
        have h2 := fm_le (f := tenF) hm
        have h3 := congrArg List.length e'
        rw [List.length_append] at h3
        have h4 : (absT q.2).2.2.length = q.2.2.length := by simp [absT]
        dsimp only at h1
        omega
      · rw [if_pos (by rw [decide_eq_true_eq, sl]; have := List.length_pos_iff.2 hlj; omega)]
        refine none' fun A hA => ?_
        obtain ⟨rest, _, b, c⟩ := sy A hA
        have : rest = [] := List.length_eq_zero_iff.1 (by omega)
        rw [this] at b
        exact hlj b
  unfold reg_From_l1b
  by_cases hn : n > 0
  · rw [if_pos (by rw [decide_eq_true_eq]; exact hn)]
    refine ⟨bj, c7, ?_⟩
    cases hb : bj with
    | true => exact end' fun e => by rw [hb] at e; cases e
    | false =>
      rw [hb] at R7
      obtain ⟨L, O, L8, e, so, go, J, sy⟩ := GB hb
      unfold reg_From_g2
      rw [if_pos (by rfl)]
      refine RTenant_ok R7 fun t zs l' b' h8 R8 U8 O8 zl ns E8 C8 => ?_
      have z8 := U8.size
      have X8 : Ext b1 h h8 := X7.trans ⟨z8, fun g hg => U8.block g (by omega) (by omega)⟩
      have OO := O.upd U8 (by omega) (by omega) (by omega)
      refine ⟨_, _, rfl, rfl, ?_⟩
      have T := Blk.push h8 (S_api_Tenant.cs zT) 130
      have T2 := T.sets_all (vs := S_api_Tenant.cs t) rfl
      have W9 := (Ext.push h8 (.cells (S_api_Tenant.cs zT).toArray 130) (Nat.le_refl _)).trans (Ext.sets _ (a := ⟨h8.size, 0, none⟩) 0 (S_api_Tenant.cs t) (Nat.le_refl _))
      refine ⟨_, WrsAt.of_blk T (by rw [tcs_len]; omega), rfl, ?_⟩
      show ∃ v12, cellH (setsH (h8.push (.cells (S_api_Tenant.cs zT).toArray 130)) ⟨h8.size, 0, none⟩ 0 (S_api_Tenant.cs t)) _ = _ ∧ _
      generalize setsH (h8.push (.cells (S_api_Tenant.cs zT).toArray 130)) ⟨h8.size, 0, none⟩ 0 (S_api_Tenant.cs t) = h9 at *
      have z9 := W9.size
      have R9 := R8.ext (W9.mono (by omega))
      have O9 := OO.ext W9
      have K9 : KOwn (b1 + 1) h9 t.f_Keys zs := (O8.step z9 fun g _ g2 => W9.block g g2).mono (by omega)
      have X9 : Ext b1 h h9 := X8.trans (W9.mono (by omega))
      obtain ⟨c9, _, _, _⟩ := R9.bit true
      -- what a registry asks for is met
      have SY : ∀ A, IsReg l A → b' = false ∧ ltB last t.f_Name ∧ L.length < 8 ∧ ∃ rest, A = absL L ++ (t.f_Name, absT (t, zs)) :: rest ∧ l' = rest.flatMap tenF ∧ ((rest.length : Nat) : Int) = n - 1 := fun A hA => by
        obtain ⟨rest, a1, a2, a3⟩ := sy A hA
        cases rest with
        | nil => simp at a3; omega
        | cons p rest =>
          rw [List.flatMap_cons] at a2
          obtain ⟨h8', hS, hG, _⟩ := hA
          have gp : Good p := hG p (by rw [a1]; simp)
          obtain ⟨d1, d2, d3⟩ := C8 p _ rfl a2 gp
          refine ⟨d1, ?_, ?_, rest, by rw [d2]; exact a1, d3, by simp at a3; omega⟩
          · have pn : p.1 = t.f_Name := by rw [← d2]
            rw [← pn]
            rcases J.2 with ⟨q, hq, he⟩ | ⟨_, he⟩
            · rw [← he]
              unfold Srt at hS
              rw [a1, List.map_append, List.pairwise_append] at hS
              exact hS.2.2 q.1 (List.mem_map.2 ⟨(q.1, absT q.2), List.mem_map.2 ⟨q, hq, rfl⟩, rfl⟩) p.1 (by simp)
            · obtain ⟨c, r, hcr⟩ := name_pos gp
              unfold ltB
              rw [he, hcr]; exact List.nil_lt_cons _ _
          · have := congrArg List.length a1
            rw [List.length_append, absL_len, List.length_cons] at this
            omega
      have put : ∀ t46 : Bool, (t46 = true → ∀ A, IsReg l A → False) → (t46 = false → b' = false ∧ ltB last t.f_Name ∧ L.length < 8) → reg_From_g4 ⟨b1, 0, none⟩ (some ⟨rr, 0, none⟩) n ⟨h8.size, 0, none⟩ ⟨b1, 0, none⟩ t46 k (fun s h' => ((0 ≤ s.2 ∧ s.2 < 18446744073709551616) ∧ Ext b1 h h' ∧ ∃ lj bj, Rd 155 h' b1 lj bj ∧ (bj = true → ∀ A, IsReg l A → False) ∧
      (bj = false → ∃ L, RegO (b1 + 1) h' rr m L ∧ L.length ≤ 8 ∧ l = shortL (L.length + s.2) ++ ((absL L).flatMap tenF ++ lj) ∧ Srt (absL L) ∧ (∀ p ∈ absL L, Good p) ∧ Lst s.1 L ∧ ∀ A, IsReg l A → ∃ rest, A = absL L ++ rest ∧ lj = rest.flatMap tenF ∧ (rest.length : Int) = s.2)) ∧ s.2.toNat < n.toNat) h9 := fun t46 no ok => by
        refine FromPut_ok R9 O9 T2 K9 (by omega) (by omega) (by omega) (by omega) fun h10 R10 O10 z10 o10 => ?_
        rw [wrapU64 (by omega) (by omega)]
        refine ⟨⟨by dsimp only; omega, X9.trans ⟨z10, fun g hg => o10 g (by omega) (by omega) (by omega)⟩, l', t46, R10, no, fun e46 => ?_⟩, by dsimp only; omega⟩
        obtain ⟨q1, q2, q3⟩ := ok e46
        obtain ⟨_, e2, gT⟩ := E8 q1
        have fresh : ∀ p ∈ L, p.1 ≠ t.f_Name := fun p hp e => by
          rcases J.1 p hp with h | h
          · rw [h] at e; rw [e] at q2; exact ltB_irrefl _ q2
          · rw [e] at h; exact ltB_irrefl _ (ltB_trans h q2)
        rw [mput_none fresh] at O10
        refine ⟨L ++ [(t.f_Name, (t, zs))], O10, by simp; omega, ?_, ?_, fun p hp => ?_, ⟨fun p hp => ?_, .inl ⟨(t.f_Name, (t, zs)), by simp, rfl⟩⟩, fun A hA => ?_⟩
        · rw [absL_snoc, e, e2, List.flatMap_append]
          dsimp only
          rw [show (((L ++ [(t.f_Name, ((t, zs) : TZ))]).length : Nat) : Int) + (n - 1) = (L.length : Int) + n from by simp; omega]
          simp
        · unfold Srt
          rw [absL_snoc, List.map_append, List.pairwise_append]
          refine ⟨so, by simp, fun a ha b hb => ?_⟩
          simp at hb; subst hb
          rw [absL_keys] at ha
          obtain ⟨q, hq, rfl⟩ := List.mem_map.1 ha
          rcases J.1 q hq with h | h
          · rw [h]; exact q2
          · exact ltB_trans h q2
        · rw [absL_snoc] at hp
          rcases List.mem_append.1 hp with hp | hp
          · exact go p hp
          · simp at hp; subst hp; exact gT
        · rcases List.mem_append.1 hp with hp | hp
          · right
            rcases J.1 p hp with h | h
            · rw [h]; exact q2
            · exact ltB_trans h q2
          · simp at hp; subst hp; exact .inl rfl
        · obtain ⟨_, _, _, rest, b1', b2, b3⟩ := SY A hA
          exact ⟨rest, by rw [absL_snoc, b1']; simp, b2, b3⟩
      refine ⟨b', c9, ?_⟩
      cases hb' : b' with
      | true =>
        rw [if_pos rfl]
        unfold reg_From_g3
        rw [if_pos rfl]
        exact put true (fun _ A hA => by have := (SY A hA).1; rw [hb'] at this; cases this) fun e => by cases e
      | false =>
        rw [if_neg (by simp)]
        refine ⟨t.f_Name, by rw [T2.cell]; rfl, ?_⟩
        cases hle : (Op.bytesLess t.f_Name.toList last.toList || t.f_Name.toList == last.toList) with
        | true =>
          unfold reg_From_g3
          rw [if_pos rfl]
          refine put true (fun _ A hA => ?_) fun e => by cases e
          have := le_not.2 (SY A hA).2.1
          rw [hle] at this; cases this
        | false =>
          have lt := le_not.1 hle
          unfold reg_From_g3
          rw [if_neg (by simp)]
          refine ⟨_, rfl, some m, by rw [O9.P.cell]; rfl, _, O9.M, put _ (fun e A hA => ?_) fun e => ⟨hb', lt, ?_⟩⟩
          · rw [decide_eq_true_eq, List.length_map] at e
            have := (SY A hA).2.2.1
            omega
          · rw [decide_eq_false_iff_not, List.length_map] at e
            omega
  · rw [if_neg (by rw [decide_eq_true_eq]; exact hn)]
    exact end' fun _ => by omega
end
end Go.Q.Yb
set_option linter.unusedVariables false
set_option linter.unusedSimpArgs false
namespace Go.Q.Yb
def regF (A : AG) : List Int := shortL A.length ++ A.flatMap tenF
def Wf (p : ByteArray × AT) : Prop := i64r p.2.1 ∧ ∀ a ∈ p.2.2.2, 0 ≤ a.1 ∧ a.1 < 4294967296
theorem Good.wf {p : ByteArray × AT} (g : Good p) : Wf p := ⟨g.2.1, fun a ha => by
  obtain ⟨⟨b, b1, b2, hb⟩, _⟩ := g.2.2.2
  obtain ⟨i, hi⟩ := List.getElem?_of_mem ha
  have := hb i a hi
  have := (List.getElem?_eq_some_iff.1 hi).1
  omega⟩
section
variable {h0 h : Heap} {B b7 : Nat} {q : TZ} {pre : List Int} {s : Slc} {k : Slc → Heap → Prop} {nx1 : Slc × Int → Heap → Prop} {t15 : Slc} {t16 t17 : Int}
theorem BKeys_ok (R : Row B h 5 1 s (b8 pre)) (hB : B ≤ h.size) (K : KAt h0 q.1.f_Keys q.2) (X : Ext h0.size h0 h) (h0B : h0.size ≤ B) (kn : q.2.length ≤ 1000) (pl : pre.length ≤ 10000000) (W : ∀ a ∈ q.2.map absK, 0 ≤ a.1 ∧ a.1 < 4294967296)
    (H : ∀ s' h', Row B h' 5 1 s' (b8 (pre ++ (q.2.map absK).flatMap keyF)) → Ext B h h' → nx1 (s', IntKind.i64.wrap (t17 + 1)) h') : reg_Reg_Bytes_l3 t15 t16 t17 q.1.f_Keys (q.1.f_Keys.len : Int) s 0 k nx1 h := by
  have al := K.len
  unfold reg_Reg_Bytes_l3
  refine ⟨fun st h' => 0 ≤ st.2 ∧ st.2 ≤ q.2.length ∧ Row B h' 5 1 st.1 (b8 (pre ++ ((q.2.take st.2.toNat).map absK).flatMap keyF)) ∧ (pre ++ ((q.2.take st.2.toNat).map absK).flatMap keyF).length = pre.length + st.2.toNat * 64 ∧ Ext B h h', fun st _ => (q.2.length - st.2).toNat,
    ⟨by simp, by simp, by simpa using R, by simp, Ext.refl _ _⟩, ?_⟩
  rintro s1 j h1 ⟨j0, j1, R1, L1, X1⟩
  dsimp only at j0 j1 R1 L1
  have z1 := X1.size
  have L1' := L1
  rw [List.length_append] at L1'
  unfold reg_Reg_Bytes_l3b
  by_cases hj : j < q.2.length
  · rw [if_pos (by rw [decide_eq_true_eq]; omega)]
    have hx : q.2[j.toNat]? = some (q.2[j.toNat]'(by omega)) := by simp
    have W' := W (absK (q.2[j.toNat]'(by omega))) (List.mem_map.2 ⟨_, List.getElem_mem _, rfl⟩)
    generalize q.2[j.toNat]'(by omega) = z at *
    have X01 : Ext h0.size h0 h1 := X.trans (X1.mono h0B)
    obtain ⟨a, ha, C⟩ := (K.ext X01).1.at' j.toNat z.1 (by rw [List.getElem?_map, hx]; rfl)
    obtain ⟨zS, zl, zB, z48⟩ := K.2 z (List.mem_of_getElem? hx)
    refine ⟨a, ha, j0, by omega, z.1, C, _, _, rfl, rfl, ?_⟩
    have T := Blk.push h1 (S_api_Wrapped.cs zW) 132
    have T2 := T.sets_all (vs := S_api_Wrapped.cs z.1) rfl
    have W5 := (Ext.push h1 (.cells (S_api_Wrapped.cs zW).toArray 132) (Nat.le_refl _)).trans (Ext.sets _ (a := ⟨h1.size, 0, none⟩) 0 (S_api_Wrapped.cs z.1) (Nat.le_refl _))
    refine ⟨_, WrsAt.of_blk T (by rw [wcs_len]; omega), rfl, ?_⟩
    show ∃ v31, cellH (setsH (h1.push (.cells (S_api_Wrapped.cs zW).toArray 132)) ⟨h1.size, 0, none⟩ 0 (S_api_Wrapped.cs z.1)) _ = _ ∧ _
    generalize setsH (h1.push (.cells (S_api_Wrapped.cs zW).toArray 132)) ⟨h1.size, 0, none⟩ 0 (S_api_Wrapped.cs z.1) = h5 at *
    have z5 := W5.size
    have t5 := T2.lt
    have R5 := R1.ext W5 fun g hg => (R1.bd hg).2
    have cB : ∀ {h'}, Blk h' h1.size (S_api_Wrapped.cs z.1) 132 → cellH h' ((⟨h1.size, 0, none⟩ : Addr).add 13) = some (Slc.v z.1.f_B) := fun K => by rw [add_mk, K.cell]; rfl
    have e1 : z.1.f_Epoch = (absK z).1 := rfl
    refine ⟨z.1.f_Epoch, by rw [T2.cell]; rfl, _, by omega, by omega, by omega, rfl, z.1.f_B, cB T2, ?_⟩
    rw [wrapU64 (by omega) (by omega)]
    have es : subS ⟨some ((⟨h1.size, 0, none⟩ : Addr).add 1), 12, 12⟩ 1 (0 : Int).toNat (12 : Int).toNat 12 = ⟨some ⟨h1.size, 1, none⟩, 12, 12⟩ := by simp [subS]
    rw [es]
    refine Put_ok R5.pb R5.slc (by omega) (by omega) (by omega) (by omega) fun s6 h6 R6 X6 => ?_
    have z6 := X6.size
    have T6 := T2.ext X6 T2.lt
    refine ⟨cB T6, b8 (nrm 12 z.1.f_Nonce), ?_, AppB R6 z6 (by rw [nrm_len]) (by simp only [List.length_append, formL_length, nrm_len]; omega) fun s7 h7 R7 X7 => ?_⟩
    · have e : b8 (nrm 12 z.1.f_Nonce) = arr 12 .u8 z.1.f_Nonce := (arr_nrm _ _ _).symm
      rw [e]
      exact T6.slc (o := 1) (n := 12) rfl
    have z7 := X7.size
    have T7 := T6.ext X7 (by omega)
    have X17 : Ext h1.size h1 h7 := W5.trans ((X6.mono z5).trans (X7.mono z5))
    refine ⟨cB T7, b8 z.2, (zS.ext (X01.trans (X17.mono (by omega)))), AppB R7 (by omega) zl (by simp only [List.length_append, formL_length, nrm_len]; omega) fun s8 h8 R8 X8 => ?_⟩
    have z8 := X8.size
    have X18 : Ext h1.size h1 h8 := X17.trans (X8.mono z5)
    rw [wrapI64 (by omega) (by omega)]
    have et : (q.2.take (j + 1).toNat).map absK = (q.2.take j.toNat).map absK ++ [absK z] := by
      rw [show (j + 1).toNat = j.toNat + 1 from by omega, List.take_add_one, hx, List.map_append]; rfl
    have el : pre ++ ((q.2.take (j + 1).toNat).map absK).flatMap keyF = (((pre ++ ((q.2.take j.toNat).map absK).flatMap keyF) ++ formL z.1.f_Epoch (4 : Int).toNat) ++ nrm 12 z.1.f_Nonce) ++ z.2 := by
      rw [et, List.flatMap_append]
      simp [keyF, absK]
    refine ⟨⟨by dsimp only; omega, by dsimp only; omega, by dsimp only; rw [el]; exact R8.mono (by omega), ?_, X1.trans (X18.mono (by omega))⟩, by dsimp only; omega⟩
    dsimp only
    rw [el]
    simp only [List.length_append, formL_length, nrm_len] at L1 ⊢
    have : (4 : Int).toNat = 4 := rfl
    omega
  · rw [if_neg (by rw [decide_eq_true_eq]; omega)]
    rw [List.take_of_length_le (by omega)] at R1
    exact H s1 h1 R1 X1
theorem Bj2_ok (R : Row B h 5 1 s (b8 pre)) (hB : B ≤ h.size) (T : Blk h b7 (S_api_Tenant.cs q.1) 130) (b7B : b7 < B) (K : KAt h0 q.1.f_Keys q.2) (X : Ext h0.size h0 h) (h0B : h0.size ≤ B) (kn : q.2.length ≤ 1000) (pl : pre.length ≤ 9000000) (W : Wf (q.1.f_Name, absT q))
    (H : ∀ s' h', Row B h' 5 1 s' (b8 (pre ++ (formL (zigN q.1.f_Horizon) 8 ++ (shortL q.2.length ++ (q.2.map absK).flatMap keyF)))) → Ext B h h' → nx1 (s', IntKind.i64.wrap (t17 + 1)) h') : reg_Reg_Bytes_j2 s ⟨b7, 0, none⟩ t15 t16 t17 k nx1 h := by
  have al := K.len
  have W1 : i64r q.1.f_Horizon := W.1
  unfold reg_Reg_Bytes_j2
  have c1 : ∀ {h'}, Blk h' b7 (S_api_Tenant.cs q.1) 130 → cellH h' ((⟨b7, 0, none⟩ : Addr).add 1) = some (Slc.v q.1.f_Keys) := fun K => by rw [add_mk, K.cell]; rfl
  refine ⟨q.1.f_Horizon, by rw [add_mk, T.cell]; rfl, Zig_ok W1.1 W1.2 ?_⟩
  have zb := zigN_bd W1.1 W1.2
  refine Put_ok R.pb R.slc (by omega) (by omega) (by omega) zb.1 fun s2 h2 R2 X2 => ?_
  have z2 := X2.size
  have T2 := T.ext X2 T.lt
  refine ⟨_, c1 T2, ?_⟩
  rw [wrapU64 (by omega) (by omega), al]
  refine PutShort_ok R2.pb R2.slc (by simp only [List.length_append, formL_length]; omega) (by omega) (by omega) fun s3 h3 R3 X3 => ?_
  have z3 := X3.size
  have T3 := T2.ext X3 T2.lt
  refine ⟨_, c1 T3, ?_⟩
  have sl := shortL_len q.2.length
  have X03 := X.trans ((X2.trans (X3.mono z2)).mono (by omega))
  refine BKeys_ok (h0 := h0) (R3.mono (show B ≤ h2.size by omega)) (by omega) K X03 h0B kn (by simp only [List.length_append, formL_length]; omega) W.2 fun s4 h4 R4 X4 => ?_
  refine H s4 h4 ?_ ((X2.mono hB).trans ((X3.mono (by omega)).trans X4))
  have e : (8 : Int).toNat = 8 := rfl
  rw [e] at R4
  simpa only [List.append_assoc] using R4
end
section
variable {b : Nat} {h : Heap} {r m : Nat} {L : List (ByteArray × TZ)} {k : Slc → Heap → Prop}
theorem tenF_le {p : ByteArray × AT} {q : TZ} (e : p = (q.1.f_Name, absT q)) (hn : q.1.f_Name.size ≤ 100000) (hk : q.2.length ≤ 1000) (h48 : ∀ z ∈ q.2, z.2.length = 48) : (tenF p).length ≤ 170000 := by
  subst e
  unfold tenF
  simp only [List.length_append, formL_length]
  have h1 := textL_len q.1.f_Name
  have h2 := shortL_len (absT q).2.2.length
  have h3 : ((absT q).2.2.flatMap keyF).length = q.2.length * 64 := by
    rw [keysF_len]
    · show (q.2.map absK).length * 64 = _
      rw [List.length_map]
    · intro x hx
      obtain ⟨z, hz, rfl⟩ := List.mem_map.1 (show x ∈ q.2.map absK from hx)
      exact ⟨nrm_len _ _, h48 z hz⟩
  omega
theorem Bytes_ok (R : RegAt b h r m L) (nm : ∀ p ∈ L, p.1.size ≤ 100000) (W : ∀ p ∈ tenL (absL L), Wf p) (H : ∀ s h', Row h.size h' 5 1 s (b8 (regF (tenL (absL L)))) → Ext h.size h h' → k s h') : reg_Reg_Bytes (some ⟨r, 0, none⟩) k h := by
  have hn := R.n
  have tn : (tenL (absL L)).length = L.length := by rw [tenL_len, absL_len]
  have nmT : ∀ p ∈ tenL (absL L), p.1.size ≤ 100000 ∧ p.2.2.2.length ≤ 1000 := fun p hp => by
    have h1 := tenL_mem hp
    rw [absL_get] at h1
    cases hg : mget L p.1 with
    | none => rw [hg] at h1; cases h1
    | some q =>
      rw [hg] at h1
      have h2 := Option.some.inj h1
      have hm := mget_mem hg
      obtain ⟨_, _, h3⟩ := R.T _ hm
      have h4 := R.hb
      refine ⟨nm _ hm, ?_⟩
      rw [← h2]
      show (q.2.map absK).length ≤ _
      rw [List.length_map]; simp only at h3; omega
  unfold reg_Reg_Bytes
  refine Tenants_ok R nm fun st h2 T X2 => ?_
  have z2 := X2.size
  generalize tenL (absL L) = ts at *
  have sl := T.len
  rw [wrapU64 (by omega) (by omega), sl]
  refine PutShort_ok (l := []) rfl ⟨fun _ => rfl, fun a ha => by cases ha⟩ (by simp) (by omega) (by omega) fun s3 h3 R3 X3 => ?_
  have z3 := X3.size
  rw [List.nil_append] at R3
  have sl10 := shortL_len ts.length
  unfold reg_Reg_Bytes_l1
  refine ⟨fun q h' => 0 ≤ q.2 ∧ q.2 ≤ ts.length ∧ Row h2.size h' 5 1 q.1 (b8 (shortL ts.length ++ (ts.take q.2.toNat).flatMap tenF)) ∧ (shortL ts.length ++ (ts.take q.2.toNat).flatMap tenF).length ≤ 10 + q.2.toNat * 170000 ∧ Ext h2.size h2 h', fun q _ => (ts.length - q.2).toNat,
    ⟨by simp, by simp, by simpa using R3, by simpa using sl10, X3⟩, ?_⟩
  rintro s i h4 ⟨i0, i1, R4, L4, X4⟩
  dsimp only at i0 i1 R4 L4
  have z4 := X4.size
  unfold reg_Reg_Bytes_l1b
  by_cases hi : i < ts.length
  · rw [if_pos (by rw [decide_eq_true_eq]; omega)]
    have hy : ts[i.toNat]? = some (ts[i.toNat]'(by omega)) := by simp
    have hym := List.mem_of_getElem? hy
    generalize ts[i.toNat]'(by omega) = y at *
    obtain ⟨q, a, ha, C, K, eq⟩ := T.at hy
    have Cx := C.ext X4
    obtain ⟨yn, yk⟩ := nmT y hym
    have Wy := W y hym
    have qn : q.1.f_Name.size ≤ 100000 := by rw [eq] at yn; exact yn
    have qk : q.2.length ≤ 1000 := by
      rw [eq] at yk
      have : (absT q).2.2.length = q.2.length := by simp [absT]
      dsimp only at yk; omega
    have y17 := tenF_le eq qn qk fun z hz => (K.2 z hz).2.2.2
    refine ⟨a, ha, i0, by omega, q.1, Cx, _, _, rfl, rfl, ?_⟩
    have P := Blk.push h4 (S_api_Tenant.cs zT) 130
    have P2 := P.sets_all (vs := S_api_Tenant.cs q.1) rfl
    have W5 := (Ext.push h4 (.cells (S_api_Tenant.cs zT).toArray 130) (Nat.le_refl _)).trans (Ext.sets _ (a := ⟨h4.size, 0, none⟩) 0 (S_api_Tenant.cs q.1) (Nat.le_refl _))
    refine ⟨_, WrsAt.of_blk P (by rw [tcs_len]; omega), rfl, ?_⟩
    show ∃ v10, cellH (setsH (h4.push (.cells (S_api_Tenant.cs zT).toArray 130)) ⟨h4.size, 0, none⟩ 0 (S_api_Tenant.cs q.1)) _ = _ ∧ _
    generalize setsH (h4.push (.cells (S_api_Tenant.cs zT).toArray 130)) ⟨h4.size, 0, none⟩ 0 (S_api_Tenant.cs q.1) = h5 at *
    have z5 := W5.size
    have p5 := P2.lt
    have R5 := R4.ext W5 fun g hg => (R4.bd hg).2
    refine ⟨q.1.f_Name, by rw [P2.cell]; rfl, rtext_ok' R5.pb R5.slc (by omega) (by omega) fun s6 h6 R6 X6 => ?_⟩
    have z6 := X6.size
    have P6 := P2.ext X6 P2.lt
    refine ⟨_, _, rfl, rfl, ?_⟩
    have W7 := Ext.push h6 (.cells ([.int .u8 0] : List Value).toArray 5) (Nat.le_refl _)
    have R7 := R6.pushed (.cells ([.int .u8 0] : List Value).toArray 5)
    generalize h6.push (.cells ([.int .u8 0] : List Value).toArray 5) = h7 at *
    have z7 := W7.size
    have P7 := P6.ext W7 P6.lt
    have tl := textL_len q.1.f_Name
    have LL : ((shortL ts.length ++ (ts.take i.toNat).flatMap tenF) ++ textL q.1.f_Name).length ≤ 10 + i.toNat * 170000 + 10 + q.1.f_Name.size := by rw [List.length_append]; omega
    have i8 : i.toNat ≤ 8 := by omega
    refine AppB (m := [0]) R7 (by omega) rfl (by simp only [List.length_cons, List.length_nil]; omega) fun s8 h8 R8 X8 => ?_
    have z8 := X8.size
    have P8 := P7.ext X8 (by omega)
    have X58 : Ext h5.size h5 h8 := (X6.trans (W7.mono z6)).trans X8
    have X48 : Ext h4.size h4 h8 := W5.trans (X58.mono z5)
    have X28 : Ext h2.size h2 h8 := X4.trans (X48.mono z4)
    refine ⟨q.1.f_Shredded, by rw [add_mk, P8.cell]; rfl, ?_⟩
    -- what follows
    have go : ∀ (f : Int) (h9 : Heap), (f = if q.1.f_Shredded = true then 1 else 0) → Row h5.size h9 5 1 s8 (b8 (((shortL ts.length ++ (ts.take i.toNat).flatMap tenF) ++ textL q.1.f_Name) ++ [f])) → Blk h9 h4.size (S_api_Tenant.cs q.1) 130 → Ext h5.size h5 h9 → reg_Reg_Bytes_j2 s8 ⟨h4.size, 0, none⟩ st (ts.length : Int) i k (fun s h' => (0 ≤ s.2 ∧ s.2 ≤ (ts.length : Int) ∧ Row h2.size h' 5 1 s.1 (b8 (shortL ts.length ++ (ts.take s.2.toNat).flatMap tenF)) ∧ (shortL ts.length ++ (ts.take s.2.toNat).flatMap tenF).length ≤ 10 + s.2.toNat * 170000 ∧ Ext h2.size h2 h') ∧ ((ts.length : Int) - s.2).toNat < ((ts.length : Int) - i).toNat) h9 := fun f h9 hf R9 P9 X9 => by
      have z9 := X9.size
      have X29 : Ext h2.size h2 h9 := X4.trans ((W5.trans (X9.mono z5)).mono z4)
      refine Bj2_ok (h0 := h2) R9 z9 P9 (by omega) K X29 (by omega) qk (by rw [List.length_append, List.length_singleton]; omega) (by rw [← eq]; exact Wy) fun s10 h10 R10 X10 => ?_
      rw [wrapI64 (by omega) (by omega)]
      have et : ts.take (i + 1).toNat = ts.take i.toNat ++ [y] := by
        rw [show (i + 1).toNat = i.toNat + 1 from by omega, List.take_add_one, hy]; rfl
      have ef : formL (if (q.1.f_Shredded = true) then 1 else 0) 1 = [f] := by
        rw [hf]; cases q.1.f_Shredded <;> rfl
      have el : shortL ts.length ++ (ts.take (i + 1).toNat).flatMap tenF = (((shortL ts.length ++ (ts.take i.toNat).flatMap tenF) ++ textL q.1.f_Name) ++ [f]) ++ (formL (zigN q.1.f_Horizon) 8 ++ (shortL q.2.length ++ (q.2.map absK).flatMap keyF)) := by
        rw [et, List.flatMap_append, List.flatMap_singleton]
        have ey : tenF y = textL q.1.f_Name ++ (formL (if (q.1.f_Shredded = true) then 1 else 0) 1 ++ (formL (zigN q.1.f_Horizon) 8 ++ (shortL (q.2.map absK).length ++ (q.2.map absK).flatMap keyF))) := by rw [eq]; rfl
        rw [ey, ef, List.length_map]
        simp only [List.append_assoc]
      refine ⟨⟨by dsimp only; omega, by dsimp only; omega, by dsimp only; rw [el]; exact R10.mono (by omega), ?_, X29.trans (X10.mono (by omega))⟩, by dsimp only; omega⟩
      dsimp only
      rw [et, List.flatMap_append, List.flatMap_singleton, ← List.append_assoc, List.length_append, show (i + 1).toNat = i.toNat + 1 from by omega]
      omega
    cases hs : q.1.f_Shredded with
    | false =>
      rw [if_neg (by simp)]
      exact go 0 h8 (by rw [hs]; rfl) R8 P8 X58
    | true =>
      rw [if_pos rfl]
      have sl8 := R8.pb
      have ln : (((shortL ts.length ++ (ts.take i.toNat).flatMap tenF) ++ textL q.1.f_Name) ++ [(0 : Int)]).length = ((shortL ts.length ++ (ts.take i.toNat).flatMap tenF) ++ textL q.1.f_Name).length + 1 := by rw [List.length_append]; rfl
      rw [ln] at sl8
      rcases R8.2.2 with ⟨a0, a2, _⟩ | ⟨g, cur, a1, _⟩
      · omega
      refine ⟨_, a1, ?_⟩
      rw [wrapI64 (x := (s8.len : Int) - 1) (by omega) (by omega)]
      obtain ⟨wr, R9, g9⟩ := R8.setc (v := .int .u8 1) a1 (j := ((s8.len : Int) - 1).toNat) (by omega)
      refine ⟨by omega, by omega, _, by rw [add_mk, Nat.zero_add, Nat.mul_one]; exact wr, rfl, ?_⟩
      rw [add_mk, Nat.zero_add, Nat.mul_one]
      refine go 1 _ (by rw [hs]; rfl) ?_ (P8.old (setH_other (by dsimp only; omega))) (X58.trans (Ext.set _ _ g9))
      have : (b8 (((shortL ts.length ++ (ts.take i.toNat).flatMap tenF) ++ textL q.1.f_Name) ++ [(0 : Int)])).set ((s8.len : Int) - 1).toNat (.int .u8 1) = b8 (((shortL ts.length ++ (ts.take i.toNat).flatMap tenF) ++ textL q.1.f_Name) ++ [(1 : Int)]) := by
        unfold b8
        rw [List.map_append (l₂ := [(0 : Int)]), List.map_append (l₂ := [(1 : Int)]), List.set_append_right _ _ (by rw [List.length_map]; omega)]
        rw [show ((s8.len : Int) - 1).toNat - (List.map (Value.int .u8) ((shortL ts.length ++ (ts.take i.toNat).flatMap tenF) ++ textL q.1.f_Name)).length = 0 from by rw [List.length_map]; omega]
        rfl
      rw [this] at R9; exact R9
  · rw [if_neg (by rw [decide_eq_true_eq]; omega)]
    rw [List.take_of_length_le (by omega)] at R4
    exact H s h4 (R4.mono z2) (X2.trans (X4.mono z2))
end
end Go.Q.Yb
set_option linter.unusedVariables false
set_option linter.unusedSimpArgs false
namespace Go.Q.Yb
/-! ### rows of tenants by rising names, plainly -/
section
variable {K V : Type} [DecidableEq K]
theorem mget_mid (l1 l2 : List (K × V)) (k : K) (v : V) (x : K) (h : ∀ p ∈ l1, p.1 ≠ k) : mget (l1 ++ (k, v) :: l2) x = if x = k then some v else mget (l1 ++ l2) x := by
  induction l1 with
  | nil =>
    show (if k = x then some v else mget l2 x) = if x = k then some v else mget l2 x
    by_cases hx : x = k
    · rw [if_pos hx.symm, if_pos hx]
    · rw [if_neg (fun e => hx e.symm), if_neg hx]
  | cons p r ih =>
    have ih' := ih fun q hq => h q (List.mem_cons_of_mem _ hq)
    have hp := h p (by simp)
    have e : ∀ l : List (K × V), mget (p :: l) x = if p.1 = x then some p.2 else mget l x := fun _ => rfl
    rw [List.cons_append, List.cons_append, e, e, ih']
    by_cases h1 : p.1 = x
    · rw [if_pos h1, if_pos h1, if_neg (fun e => hp (h1.trans e))]
    · rw [if_neg h1, if_neg h1]
theorem mget_set : ∀ (l : List (K × V)) (i : Nat) (k : K) (o v : V) (x : K), (l.map (·.1)).Nodup → l[i]? = some (k, o) → mget (l.set i (k, v)) x = if x = k then some v else mget l x
  | [], i, k, o, v, x, _, h => by simp at h
  | p :: r, 0, k, o, v, x, nd, h => by
    simp only [List.getElem?_cons_zero, Option.some.injEq] at h
    subst h
    show mget ((k, v) :: r) x = if x = k then some v else mget ((k, o) :: r) x
    unfold mget
    by_cases hx : x = k
    · rw [if_pos hx.symm, if_pos hx]
    · rw [if_neg (fun e => hx e.symm), if_neg hx, if_neg (fun e => hx e.symm)]
  | p :: r, i + 1, k, o, v, x, nd, h => by
    rw [List.map_cons, List.nodup_cons] at nd
    have h' : r[i]? = some (k, o) := by simpa using h
    have ih := mget_set r i k o v x nd.2 h'
    have hp : p.1 ≠ k := fun e => nd.1 (e ▸ List.mem_map.2 ⟨(k, o), List.mem_of_getElem? h', rfl⟩)
    have e : ∀ l : List (K × V), mget (p :: l) x = if p.1 = x then some p.2 else mget l x := fun _ => rfl
    rw [List.set_cons_succ, e, e, ih]
    by_cases h1 : p.1 = x
    · rw [if_pos h1, if_pos h1, if_neg (fun e => hp (h1.trans e))]
    · rw [if_neg h1, if_neg h1]
end
theorem mget_none {A : AG} {n : ByteArray} (h : ∀ p ∈ A, p.1 ≠ n) : mget A n = none := by
  cases hm : mget A n with
  | none => rfl
  | some t => exact absurd rfl (h _ (mget_mem hm))
theorem lt_tri (a b : List UInt8) : a < b ∨ a = b ∨ b < a := by
  rcases Classical.em (a < b) with h | h
  · exact .inl h
  · rcases Classical.em (b < a) with g | g
    · exact .inr (.inr g)
    · exact .inr (.inl (List.le_antisymm (List.not_lt.1 g) (List.not_lt.1 h)))
theorem ltB_tri {a b : ByteArray} (h : ¬ ltB a b) (n : a ≠ b) : ltB b a := by
  unfold ltB at *
  rcases lt_tri a.data.toList b.data.toList with h1 | h1 | h1
  · exact absurd h1 h
  · exact absurd (ba_dt h1) n
  · exact h1
theorem Srt.at {A : AG} (S : Srt A) {i j : Nat} (hij : i < j) {p q : ByteArray × AT} (hp : A[i]? = some p) (hq : A[j]? = some q) : ltB p.1 q.1 := by
  unfold Srt at S
  rw [List.pairwise_map] at S
  obtain ⟨hi, rfl⟩ := List.getElem?_eq_some_iff.1 hp
  obtain ⟨hj, rfl⟩ := List.getElem?_eq_some_iff.1 hq
  exact List.pairwise_iff_getElem.1 S i j hi hj hij
/-- a new tenant goes where its name is -/
theorem tenL_new {A : AG} (S : Srt A) {n : ByteArray} {t : AT} {j : Nat} (jl : j ≤ A.length) (hn : ∀ p ∈ A, p.1 ≠ n) (h1 : ∀ i p, i < j → A[i]? = some p → ltB p.1 n) (h2 : ∀ p, A[j]? = some p → ¬ ltB p.1 n) :
    tenL (mput A n t) = A.take j ++ (n, t) :: A.drop j := by
  have g1 : ∀ p ∈ A.take j, ltB p.1 n := fun p hp => by
    obtain ⟨i, hi⟩ := List.getElem?_of_mem hp
    rw [List.getElem?_take] at hi
    by_cases hij : i < j
    · rw [if_pos hij] at hi; exact h1 i p hij hi
    · rw [if_neg hij] at hi; cases hi
  have g2 : ∀ p ∈ A.drop j, ltB n p.1 := fun p hp => by
    obtain ⟨i, hi⟩ := List.getElem?_of_mem hp
    rw [List.getElem?_drop] at hi
    have pm := List.mem_of_getElem? hi
    by_cases h0 : i = 0
    · subst h0
      exact ltB_tri (h2 p (by simpa using hi)) (hn p pm)
    · have hl := (List.getElem?_eq_some_iff.1 hi).1
      have hj : A[j]? = some (A[j]'(by omega)) := by simp
      have := ltB_tri (h2 _ hj) (hn _ (List.mem_of_getElem? hj))
      exact ltB_trans this (S.at (by omega) hj hi)
  have SB : Srt (A.take j ++ (n, t) :: A.drop j) := by
    have S' := S
    unfold Srt at S' ⊢
    rw [← List.take_append_drop j A, List.map_append, List.pairwise_append] at S'
    rw [List.map_append, List.map_cons, List.pairwise_append, List.pairwise_cons]
    refine ⟨S'.1, ⟨fun y hy => ?_, S'.2.1⟩, fun x hx y hy => ?_⟩
    · obtain ⟨p, hp, rfl⟩ := List.mem_map.1 hy; exact g2 p hp
    · obtain ⟨p, hp, rfl⟩ := List.mem_map.1 hx
      rcases List.mem_cons.1 hy with rfl | hy
      · exact g1 p hp
      · exact S'.2.2 _ (List.mem_map.2 ⟨p, hp, rfl⟩) _ hy
  rw [← tenL_sorted SB]
  refine tenL_ext (fun x => ?_) (keys_put2 _ _ _ S.nd) SB.nd
  rw [mget_put2, mget_mid _ _ _ _ _ (fun p hp => hn p (List.mem_of_mem_take hp)), List.take_append_drop]
/-- an old one stays where it is -/
theorem Srt.set {A : AG} (S : Srt A) {n : ByteArray} {o t : AT} {i : Nat} (hi : A[i]? = some (n, o)) : Srt (A.set i (n, t)) := by
  have e : (A.set i (n, t)).map (·.1) = A.map (·.1) := by
    rw [List.map_set]
    refine List.ext_getElem? fun j => ?_
    rw [List.getElem?_set]
    by_cases hj : i = j
    · subst hj
      have hl := (List.getElem?_eq_some_iff.1 hi).1
      rw [if_pos rfl, if_pos (by rw [List.length_map]; exact hl), List.getElem?_map, hi]; rfl
    · rw [if_neg hj]
  unfold Srt
  rw [e]; exact S
theorem tenL_set {A : AG} (S : Srt A) {n : ByteArray} {o t : AT} {i : Nat} (hi : A[i]? = some (n, o)) : tenL (mput A n t) = A.set i (n, t) := by
  have SB := S.set (t := t) hi
  rw [← tenL_sorted SB]
  refine tenL_ext (fun x => ?_) (keys_put2 _ _ _ S.nd) SB.nd
  rw [mget_put2, mget_set A i n o t x S.nd hi]
theorem srtS_pw {l : List ByteArray} (nd : l.Nodup) : (srtS l).Pairwise ltB := by
  unfold srtS
  have p1 : ((l.map fun t => t.data.toList).mergeSort fun x y => decide (x ≤ y)).Pairwise fun a b => decide (a ≤ b) = true :=
    List.pairwise_mergeSort (fun a b c h g => by rw [decide_eq_true_eq] at *; exact List.le_trans h g) (fun a b => by rw [Bool.or_eq_true, decide_eq_true_eq, decide_eq_true_eq]; exact List.le_total a b) _
  have p2 : ((l.map fun t => t.data.toList).mergeSort fun x y => decide (x ≤ y)).Nodup := (List.mergeSort_perm _ _).nodup_iff.2 (by
    refine List.nodup_iff_pairwise_ne.2 ?_
    rw [List.pairwise_map]
    exact (List.nodup_iff_pairwise_ne.1 nd).imp fun h e => h (ba_dt e))
  rw [List.pairwise_map]
  refine (p1.and (List.nodup_iff_pairwise_ne.1 p2)).imp fun {a b} h => ?_
  show a.toArray.toList < b.toArray.toList
  rcases lt_tri a b with h1 | h1 | h1
  · exact h1
  · exact absurd h1 h.2
  · exact absurd h1 (by have := h.1; rw [decide_eq_true_eq] at this; exact this)
theorem tenL_srt (A : AG) (nd : (A.map (·.1)).Nodup) : Srt (tenL A) := by
  unfold Srt tenL
  rw [List.map_map, show ((fun x : ByteArray × AT => x.1) ∘ fun n => (n, (mget A n).getD zAT)) = id from rfl, List.map_id]
  exact srtS_pw nd
theorem mget_tenL {A : AG} (nd : (A.map (·.1)).Nodup) (n : ByteArray) : mget (tenL A) n = mget A n := by
  cases hm : mget A n with
  | none =>
    refine mget_none fun p hp e => ?_
    have := tenL_mem hp
    rw [e, hm] at this; cases this
  | some t =>
    have h1 := tenL_of hm
    exact mget_self (tenL_srt A nd).nd _ h1
theorem stepR_tenL {A : AG} (nd : (A.map (·.1)).Nodup) (c : S_api_Command) (wr : List Int) : (stepR (tenL A) c wr).1 = (stepR A c wr).1 ∧ tenL (stepR (tenL A) c wr).2 = tenL (stepR A c wr).2 := by
  have e : applyB c wr.length (tenL A) = applyB c wr.length A := by unfold applyB; rw [mget_tenL nd, tenL_len]
  refine ⟨e, tenL_ext (fun n => ?_) (nd_step _ _ (tenL_srt A nd).nd) (nd_step _ _ nd)⟩
  rw [mget_step, mget_step, e, mget_tenL nd, mget_tenL nd]
end Go.Q.Yb
set_option linter.unusedVariables false
set_option linter.unusedSimpArgs false
namespace Go.Q.Yb
/-! ### what holds of every tenant, and its form -/
def GoodB (p : ByteArray × AT) : Prop := Good p ∧ ∀ x ∈ p.2.2.2, isB x.2.1 ∧ isB x.2.2
theorem nrm_isB {n : Nat} {l : List Int} (h : isB l) : isB (nrm n l) := fun b hb => by
  obtain ⟨i, _, rfl⟩ := List.mem_map.1 hb
  rw [List.getD_eq_getElem?_getD]
  cases hg : l[i]? with
  | none => exact ⟨by decide, by decide⟩
  | some v => exact h v (List.mem_of_getElem? hg)
theorem good_one {c : S_api_Command} {wr : List Int} {o : Option AT} {n : Nat} (h0 : (if mayR c wr.length = true then askB c o n else 1) = 0) (k0 : c.f_Kind ≠ 0) (ep : 0 ≤ c.f_Epoch ∧ c.f_Epoch < 4294967296) (hz : i64r c.f_Horizon) (nb : isB c.f_Nonce) (wb : isB wr)
    (hi : ∀ t, o = some t → GoodB (c.f_Tenant, t)) : GoodB (c.f_Tenant, newT c wr (o.getD zAT)) := by
  have hm : mayR c wr.length = true := by
    cases hq : mayR c wr.length with
    | true => rfl
    | false => rw [hq] at h0; simp at h0
  rw [if_pos hm] at h0
  obtain ⟨kk, w48⟩ := mayR_kind hm k0
  have nm : nameOk c.f_Tenant = true := by
    unfold mayR at hm
    rw [if_neg k0] at hm
    by_cases h12 : c.f_Kind = 1 ∨ c.f_Kind = 2
    · rw [if_pos h12, Bool.and_eq_true] at hm; exact hm.1
    · rw [if_neg h12] at hm
      by_cases h345 : c.f_Kind = 3 ∨ c.f_Kind = 4 ∨ c.f_Kind = 5
      · rw [if_pos h345] at hm; exact hm
      · rw [if_neg h345] at hm; cases hm
  have nn : (nrm 12 c.f_Nonce).length = 12 := nrm_len _ _
  have nB : isB (nrm 12 c.f_Nonce) := nrm_isB nb
  unfold askB at h0
  rw [if_neg k0] at h0
  unfold newT
  by_cases k1 : c.f_Kind = 1
  · rw [if_pos k1]
    cases o with
    | some t => rw [if_pos ⟨k1, rfl⟩] at h0; cases h0
    | none =>
      have e1 : c.f_Epoch = 1 := by
        rw [if_neg (fun e => by cases e.2)] at h0
        by_cases n8 : n ≥ 8
        · rw [if_pos ⟨k1, n8⟩] at h0; cases h0
        rw [if_neg (fun e => n8 e.2), if_neg (fun e => e.1 k1), if_neg (by simp), if_pos k1] at h0
        by_cases q : c.f_Epoch = 1
        · exact q
        · rw [if_pos (by simpa using q)] at h0; cases h0
      refine ⟨⟨nm, ⟨by dsimp only; omega, by dsimp only; omega⟩, ⟨by simp, by simp⟩, ⟨1, by omega, by simp, fun i x hx => ?_⟩, fun x hx => ?_⟩, fun x hx => ?_⟩
      · match i, hx with
        | 0, hx => cases hx; show c.f_Epoch = 1 + _; rw [e1]; rfl
        | i + 1, hx => simp at hx
      · simp only [List.mem_singleton] at hx; subst hx; exact ⟨nn, w48 (.inl k1)⟩
      · simp only [List.mem_singleton] at hx; subst hx; exact ⟨nB, wb⟩
  rw [if_neg k1]
  rw [if_neg (fun e => k1 e.1), if_neg (fun e => k1 e.1)] at h0
  cases o with
  | none => rw [if_pos ⟨k1, rfl⟩] at h0; cases h0
  | some t =>
  rw [if_neg (by simp)] at h0
  simp only [Option.getD_some] at h0 ⊢
  obtain ⟨⟨_, th, hs, ⟨a, a0, a1, ha⟩, hx0⟩, hx1⟩ := hi t rfl
  dsimp only at th hs a1 ha hx0 hx1
  by_cases k5 : c.f_Kind = 5
  · rw [if_neg (by omega), if_neg (by omega), if_neg (by omega), if_pos k5]
    exact ⟨⟨nm, th, by simp, keysOk_nil⟩, by simp⟩
  have ns : t.2.1 = false := by
    cases hq : t.2.1 with
    | false => rfl
    | true => rw [if_pos ⟨hq, k5⟩] at h0; cases h0
  rw [if_neg (by rw [ns]; simp), if_neg k1] at h0
  have nk : t.2.2 ≠ [] := fun e => by have := hs.2 e; rw [ns] at this; cases this
  have el := epB_last ha nk
  have lp : 0 < t.2.2.length := List.length_pos_iff.2 nk
  by_cases k2 : c.f_Kind = 2
  · rw [if_pos k2] at h0 ⊢
    have q : epB t.2.2 ≠ 4294967295 ∧ c.f_Epoch = IntKind.u32.wrap (epB t.2.2 + 1) := by
      by_cases q1 : epB t.2.2 = 4294967295
      · rw [if_pos q1] at h0; simp at h0
      · refine ⟨q1, ?_⟩
        rw [if_neg q1] at h0
        by_cases q2 : c.f_Epoch = IntKind.u32.wrap (epB t.2.2 + 1)
        · exact q2
        · rw [if_pos (by simpa using q2)] at h0; cases h0
    have qe : c.f_Epoch = a + t.2.2.length := by
      rw [q.2, wrapU32 (by omega) (by omega)]; omega
    refine ⟨⟨nm, th, by rw [ns]; simp, ⟨a, a0, by simp; omega, fun i x hx => ?_⟩, fun x hx => ?_⟩, fun x hx => ?_⟩
    · dsimp only at hx
      by_cases hi : i < t.2.2.length
      · rw [List.getElem?_append_left hi] at hx; exact ha i x hx
      · rw [List.getElem?_append_right (by omega)] at hx
        match h : i - t.2.2.length, hx with
        | 0, hx => cases hx; dsimp only; omega
        | j + 1, hx => simp at hx
    · rcases List.mem_append.1 hx with hx | hx
      · exact hx0 x hx
      · simp only [List.mem_singleton] at hx; subst hx; exact ⟨nn, w48 (.inr k2)⟩
    · rcases List.mem_append.1 hx with hx | hx
      · exact hx1 x hx
      · simp only [List.mem_singleton] at hx; subst hx; exact ⟨nB, wb⟩
  rw [if_neg k2] at h0 ⊢
  by_cases k3 : c.f_Kind = 3
  · rw [if_pos k3] at h0 ⊢
    have q : ¬ c.f_Epoch > epB t.2.2 := fun e => by rw [if_pos (by simpa using e)] at h0; cases h0
    rw [filt _ a _ ha]
    have dl : (t.2.2.drop (c.f_Epoch - a).toNat).length = t.2.2.length - (c.f_Epoch - a).toNat := List.length_drop
    have dn : t.2.2.drop (c.f_Epoch - a).toNat ≠ [] := fun e => by rw [e] at dl; simp at dl; omega
    refine ⟨⟨nm, th, by rw [ns]; simpa using dn, ⟨a + (c.f_Epoch - a).toNat, by omega, by dsimp only; rw [dl]; omega, fun i x hx => ?_⟩, fun x hx => hx0 x (List.mem_of_mem_drop hx)⟩, fun x hx => hx1 x (List.mem_of_mem_drop hx)⟩
    dsimp only at hx
    rw [List.getElem?_drop] at hx
    have := ha _ x hx
    omega
  rw [if_neg k3] at h0 ⊢
  have k4 : c.f_Kind = 4 := by omega
  rw [if_pos k4] at h0 ⊢
  exact ⟨⟨nm, hz, hs, ⟨a, a0, a1, ha⟩, hx0⟩, hx1⟩
theorem good_step {A : AG} {c : S_api_Command} {wr : List Int} (ep : 0 ≤ c.f_Epoch ∧ c.f_Epoch < 4294967296) (hz : i64r c.f_Horizon) (nb : isB c.f_Nonce) (wb : isB wr) (hi : ∀ n t, mget A n = some t → GoodB (n, t)) :
    ∀ n t, mget (stepR A c wr).2 n = some t → GoodB (n, t) := fun n t ht => by
  rw [mget_step] at ht
  by_cases h : (applyB c wr.length A = 0 ∧ c.f_Kind ≠ 0) ∧ n = c.f_Tenant
  · rw [if_pos h] at ht
    cases ht
    have := good_one (c := c) (wr := wr) (o := mget A c.f_Tenant) (n := A.length) h.1.1 h.1.2 ep hz nb wb (hi _)
    rw [h.2]; exact this
  · rw [if_neg h] at ht; exact hi n t ht
/-! the form is no other's -/
theorem zigN_inj {a b : Int} (h : zigN a = zigN b) : a = b := by unfold zigN at h; split at h <;> split at h <;> omega
theorem keysF_inj : ∀ {ks ks' : List AK} {r r' : List Int}, ks.length = ks'.length → (∀ x ∈ ks, (0 ≤ x.1 ∧ x.1 < 4294967296) ∧ x.2.1.length = 12 ∧ x.2.2.length = 48) → (∀ x ∈ ks', (0 ≤ x.1 ∧ x.1 < 4294967296) ∧ x.2.1.length = 12 ∧ x.2.2.length = 48) → ks.flatMap keyF ++ r = ks'.flatMap keyF ++ r' → ks = ks' ∧ r = r'
  | [], [], r, r', _, _, _, e => ⟨rfl, by simpa using e⟩
  | [], y :: l', _, _, h, _, _, _ => by simp at h
  | y :: l, [], _, _, h, _, _, _ => by simp at h
  | x :: l, y :: l', r, r', h, hx, hy, e => by
    obtain ⟨x1, x2, x3⟩ := hx x (by simp)
    obtain ⟨y1, y2, y3⟩ := hy y (by simp)
    simp only [List.flatMap_cons, keyF, List.append_assoc] at e
    obtain ⟨e1, e⟩ := formL_inj (w := 4) x1.1 (by have : (256 : Int) ^ 4 = 4294967296 := by decide
                                                  omega) y1.1 (by have : (256 : Int) ^ 4 = 4294967296 := by decide
                                                                  omega) e
    obtain ⟨e2, e⟩ := List.append_inj e (by rw [x2, y2])
    obtain ⟨e3, e⟩ := List.append_inj e (by rw [x3, y3])
    obtain ⟨e4, e5⟩ := keysF_inj (by simpa using h) (fun z hz => hx z (List.mem_cons_of_mem _ hz)) (fun z hz => hy z (List.mem_cons_of_mem _ hz)) e
    refine ⟨?_, e5⟩
    rw [e4, show x = y from Prod.ext e1 (Prod.ext e2 e3)]
theorem Good.keys {p : ByteArray × AT} (g : Good p) : ∀ x ∈ p.2.2.2, (0 ≤ x.1 ∧ x.1 < 4294967296) ∧ x.2.1.length = 12 ∧ x.2.2.length = 48 := fun x hx => ⟨g.wf.2 x hx, g.2.2.2.2 x hx⟩
theorem Good.small {p : ByteArray × AT} (g : Good p) : p.1.size ≤ 24 := by
  have h := g.1
  unfold nameOk at h
  rw [Bool.and_eq_true, Bool.and_eq_true, decide_eq_true_eq, decide_eq_true_eq] at h
  omega
theorem Good.klen {p : ByteArray × AT} (g : Good p) : p.2.2.2.length ≤ 4294967296 := by
  obtain ⟨⟨a, _, _, _⟩, _⟩ := g.2.2.2
  omega
theorem tenF_inj {p q : ByteArray × AT} {r r' : List Int} (gp : Good p) (gq : Good q) (e : tenF p ++ r = tenF q ++ r') : p = q ∧ r = r' := by
  have sp := gp.small
  have sq := gq.small
  have lp := gp.klen
  have lq := gq.klen
  simp only [tenF, List.append_assoc] at e
  obtain ⟨e1, e⟩ := textL_inj (by omega) (by omega) e
  obtain ⟨e2, e⟩ := formL_inj (w := 1) (by split <;> decide) (by split <;> decide) (by split <;> decide) (by split <;> decide) e
  have p8 : (256 : Int) ^ 8 = 18446744073709551616 := by decide
  obtain ⟨zp0, zp1⟩ := zigN_bd gp.2.1.1 gp.2.1.2
  obtain ⟨zq0, zq1⟩ := zigN_bd gq.2.1.1 gq.2.1.2
  obtain ⟨e3, e⟩ := formL_inj (w := 8) zp0 (by omega) zq0 (by omega) e
  obtain ⟨e4, e⟩ := shortL_inj (by omega) (by omega) (by omega) (by omega) e
  obtain ⟨e5, e⟩ := keysF_inj (by omega) gp.keys gq.keys e
  refine ⟨Prod.ext e1 (Prod.ext (zigN_inj e3) (Prod.ext ?_ e5)), e⟩
  cases h1 : p.2.2.1 <;> cases h2 : q.2.2.1 <;> rw [h1, h2] at e2 <;> simp at e2 ⊢
theorem tensF_inj {A : AG} : ∀ {B : AG}, A.length = B.length → (∀ p ∈ A, Good p) → (∀ p ∈ B, Good p) → A.flatMap tenF = B.flatMap tenF → A = B := by
  induction A with
  | nil => intro B h _ _ _; exact (List.eq_nil_of_length_eq_zero h.symm).symm
  | cons x l ih =>
    intro B h hx hy e
    cases B with
    | nil => simp at h
    | cons y l' =>
      rw [List.flatMap_cons, List.flatMap_cons] at e
      obtain ⟨e1, e2⟩ := tenF_inj (hx x (List.mem_cons_self ..)) (hy y (List.mem_cons_self ..)) e
      rw [e1, ih (by simpa using h) (fun z hz => hx z (List.mem_cons_of_mem _ hz)) (fun z hz => hy z (List.mem_cons_of_mem _ hz)) e2]
theorem IsReg.inj {l : List Int} {A B : AG} (I : IsReg l A) (J : IsReg l B) : A = B := by
  have h1 := I.1
  have h2 := J.1
  have e := I.2.2.2.symm.trans J.2.2.2
  obtain ⟨e1, e2⟩ := shortL_inj (by omega) (by omega) (by omega) (by omega) e
  exact tensF_inj (by omega) I.2.2.1 J.2.2.1 e2
/-! the form's bytes -/
theorem isB_append {a b : List Int} (ha : isB a) (hb : isB b) : isB (a ++ b) := fun x hx => (List.mem_append.1 hx).elim (ha x) (hb x)
theorem isB_flat {α : Type} {f : α → List Int} {l : List α} (h : ∀ x ∈ l, isB (f x)) : isB (l.flatMap f) := fun b hb => by
  obtain ⟨x, hx, hb⟩ := List.mem_flatMap.1 hb
  exact h x hx b hb
theorem shortL_B {n : Int} (h : 0 ≤ n) : isB (shortL n) := shortF_B 10 n h
theorem tenF_B {p : ByteArray × AT} (g : GoodB p) : isB (tenF p) := by
  refine isB_append (isB_append (shortL_B (by omega)) (sB_isB _)) (isB_append (formL_B _ _) (isB_append (formL_B _ _) (isB_append (shortL_B (by omega)) (isB_flat fun x hx => ?_))))
  exact isB_append (isB_append (formL_B _ _) (g.2 x hx).1) (g.2 x hx).2
theorem regF_B {A : AG} (g : ∀ p ∈ A, GoodB p) : isB (regF A) := isB_append (shortL_B (by omega)) (isB_flat fun p hp => tenF_B (g p hp))
end Go.Q.Yb
