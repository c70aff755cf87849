/- A part of the proof of statements of this seat: lemmas, no statement of their own. -/
import Derived.Test.YtcmbgfmbmbgbiaaYbRhJ
import Derived.Test.YtcmbgfmbmbgbiaaYbRgQ
set_option linter.unusedVariables false
set_option linter.unusedSimpArgs false
namespace Go.Q.Yb
/-! ### names by rising order -/
theorem bytesLess_lt : ∀ (a b : List UInt8), Op.bytesLess a b = decide (a < b)
  | _, [] => by simp [Op.bytesLess]
  | [], y :: b => by simp [Op.bytesLess]
  | x :: a, y :: b => by
    have ih := bytesLess_lt a b
    unfold Op.bytesLess
    rw [ih]
    have e : (x :: a < y :: b) ↔ (x < y ∨ x = y ∧ a < b) := List.cons_lt_cons_iff
    rw [Bool.eq_iff_iff, decide_eq_true_iff, e]
    simp only [Bool.or_eq_true, Bool.and_eq_true, decide_eq_true_iff, beq_iff_eq]
def ltB (a b : ByteArray) : Prop := a.data.toList < b.data.toList
theorem ltB_irrefl (a : ByteArray) : ¬ ltB a a := List.lt_irrefl _
theorem ltB_trans {a b c : ByteArray} (h : ltB a b) (g : ltB b c) : ltB a c := List.lt_trans h g
theorem ba_dt {a b : ByteArray} (h : a.data.toList = b.data.toList) : a = b := by
  cases a; cases b
  simp only [ByteArray.mk.injEq]
  exact Array.toList_inj.1 h
/-- a name is at or below another -/
theorem le_not {a b : ByteArray} : (Op.bytesLess a.toList b.toList || a.toList == b.toList) = false ↔ ltB b a := by
  rw [ba_eq, ByteArray.toList_eq, ByteArray.toList_eq, bytesLess_lt, Bool.or_eq_false_iff, decide_eq_false_iff_not, decide_eq_false_iff_not]
  unfold ltB
  constructor
  · rintro ⟨h1, h2⟩
    have h3 : b.data.toList ≤ a.data.toList := List.not_lt.1 h1
    rcases Classical.em (b.data.toList < a.data.toList) with h | h
    · exact h
    · exact absurd (ba_dt (List.le_antisymm (List.not_lt.1 h) h3)) h2
  · intro h
    exact ⟨fun h1 => List.lt_irrefl _ (List.lt_trans h h1), fun e => by subst e; exact List.lt_irrefl _ h⟩
def Srt (A : AG) : Prop := (A.map (·.1)).Pairwise ltB
theorem Srt.nd {A : AG} (S : Srt A) : (A.map (·.1)).Nodup := List.nodup_iff_pairwise_ne.2 (List.Pairwise.imp (fun h e => by subst e; exact ltB_irrefl _ h) S)
theorem srtS_sorted {l : List ByteArray} (h : l.Pairwise ltB) : srtS l = l := by
  unfold srtS
  rw [List.mergeSort_of_pairwise]
  · rw [List.map_map]
    refine (List.map_congr_left fun t _ => ?_).trans (List.map_id' _)
    show (⟨t.data.toList.toArray⟩ : ByteArray) = t
    cases t; simp
  · rw [List.pairwise_map]
    exact h.imp fun h => by rw [decide_eq_true_eq]; exact List.le_of_lt h
theorem mget_self {K V : Type} [DecidableEq K] : ∀ {l : List (K × V)}, (l.map (·.1)).Nodup → ∀ p ∈ l, mget l p.1 = some p.2
  | [], _, p, hp => by cases hp
  | q :: r, h, p, hp => by
    rw [List.map_cons, List.nodup_cons] at h
    unfold mget
    rcases List.mem_cons.1 hp with rfl | hp
    · rw [if_pos rfl]
    · rw [if_neg (fun e => h.1 (by rw [e]; exact List.mem_map.2 ⟨p, hp, rfl⟩)), mget_self h.2 p hp]
theorem tenL_sorted {A : AG} (S : Srt A) : tenL A = A := by
  unfold tenL
  rw [srtS_sorted S, List.map_map]
  refine (List.map_congr_left fun p hp => ?_).trans (List.map_id' _)
  show (p.1, (mget A p.1).getD zAT) = p
  rw [mget_self S.nd p hp]; rfl
theorem mput_twice {K V : Type} [DecidableEq K] (k : K) (v w : V) : ∀ l : List (K × V), mput (mput l k v) k w = mput l k w
  | [] => by simp [mput]
  | p :: r => by
    have ih := mput_twice k v w r
    by_cases h : p.1 = k
    · simp [mput, h]
    · simp [mput, h, ih]
/-! ### a registry whose keys are its own -/
structure RegO (B : Nat) (h : Heap) (r m : Nat) (L : List (ByteArray × TZ)) : Prop where
  P : Blk h r [.map (some m)] 212
  ne : r ≠ m
  M : MapAt (K := ByteArray) (V := S_api_Tenant) .string Value.string vT h (some m) (L.map fun q => (q.1, q.2.1))
  T : ∀ q ∈ L, q.2.1.f_Name = q.1 ∧ KOwn B h q.2.1.f_Keys q.2.2
theorem Row.notMap {B E w : Nat} {h : Heap} {s : Slc} {xs : List Value} (R : Row B h E w s xs) {g : Nat} (hg : s.blk = some g) : ∀ es ck, h[g]? ≠ some (.map es ck) := by
  intro es ck e
  rcases R.2.2 with ⟨a0, _⟩ | ⟨g', cur, a1, _, a3, _⟩
  · simp [Slc.blk, a0] at hg
  · have : g' = g := by simpa [Slc.blk, a1] using hg
    subst this
    exact Blk.notMap a3 es ck e
section
variable {B c : Nat} {h h' : Heap} {r m : Nat} {L : List (ByteArray × TZ)}
theorem KOwn.map {s : Slc} {zs : List Z} (K : KOwn B h s zs) {es : Array MapEntry} {ck : Nat} (hm : h[m]? = some (.map es ck)) (e : ∀ g, g < h.size → g ≠ m → h'[g]? = h[g]?) : KOwn B h' s zs :=
  K.keepE fun g E w t ys Ru _ hg => e g (Ru.bd hg).2 fun hh => Row.notMap Ru hg es ck (hh ▸ hm)
theorem RegO.upd (O : RegO B h r m L) (U : Upd c h h') (hc : c < B) (hr : r ≠ c) (hm : m ≠ c) : RegO B h' r m L :=
  ⟨U.blk O.P hr, O.ne, O.M.old (U.block m O.M.lt hm), fun q hq => ⟨(O.T q hq).1, (O.T q hq).2.step U.size fun g g1 g2 => U.block g g2 (by omega)⟩⟩
theorem RegO.ext (O : RegO B h r m L) (X : Ext h.size h h') : RegO B h' r m L :=
  ⟨O.P.ext X O.P.lt, O.ne, O.M.ext X O.M.lt, fun q hq => ⟨(O.T q hq).1, (O.T q hq).2.step X.size fun g _ g2 => X.block g g2⟩⟩
theorem RegO.reg (O : RegO B h r m L) (hl : L.length ≤ 8) (hz : ∀ q ∈ L, q.2.2.length ≤ 1000) : RegAt 1000 h r m L :=
  ⟨O.P, O.ne, O.M, fun q hq => ⟨(O.T q hq).1, fun h' U => by
    obtain ⟨es, ck, e, _⟩ := O.M
    exact ((O.T q hq).2.map e fun g g1 g2 => U.block g g1 g2).held.now, hz q hq⟩, hl, Nat.le_refl _⟩
theorem FromPut_ok {b1 b9 : Nat} {t : S_api_Tenant} {zs : List Z} {lj : List Int} {bj t46 : Bool} {n : Int} {k : Option Addr × Int → Heap → Prop} {nx1 : ByteArray × Int → Heap → Prop}
    (R : Rd 155 h b1 lj bj) (O : RegO B h r m L) (T : Blk h b9 (S_api_Tenant.cs t) 130) (K : KOwn B h t.f_Keys zs) (hb : b1 < B) (hr : r ≠ b1) (hm : b1 < m) (h9 : b9 ≠ b1)
    (H : ∀ h', Rd 155 h' b1 lj t46 → RegO B h' r m (mput L t.f_Name (t, zs)) → h.size ≤ h'.size → (∀ g, g < h.size → g ≠ b1 → g ≠ m → h'[g]? = h[g]?) → nx1 (t.f_Name, IntKind.u64.wrap (n - 1)) h') :
    reg_From_g4 ⟨b1, 0, none⟩ (some ⟨r, 0, none⟩) n ⟨b9, 0, none⟩ ⟨b1, 0, none⟩ t46 k nx1 h := by
  unfold reg_From_g4
  obtain ⟨_, wr, R2, U2⟩ := R.bit t46
  refine ⟨_, wr, rfl, ?_⟩
  have O2 := O.upd U2 hb hr (by omega)
  have T2 := U2.blk T h9
  have K2 := K.step U2.size fun g g1 g2 => U2.block g g2 (by omega)
  have z2 := U2.size
  generalize setH h ((⟨b1, 0, none⟩ : Addr).add 1) (.bool t46) = h2 at *
  have nm : ∀ {h'}, Blk h' b9 (S_api_Tenant.cs t) 130 → cellH h' (⟨b9, 0, none⟩ : Addr) = some (.string t.f_Name) := fun K => by rw [K.cell]; rfl
  have ct : ∀ {h'}, Blk h' b9 (S_api_Tenant.cs t) 130 → CellsAt h' (⟨b9, 0, none⟩ : Addr) (S_api_Tenant.cs t) := fun K => K.part (n := 4) rfl
  obtain ⟨es, ck, em, _⟩ := O2.M
  have b9m : b9 ≠ m := fun e => Blk.notMap T2 es ck (e ▸ em)
  have rlt := R2.lt
  refine ⟨_, rfl, some m, by rw [O2.P.cell]; rfl, _, nm T2, t, ct T2, _, nm T2, m, _, _, rfl, O2.M, rfl, ?_⟩
  have M3 := O2.M.put kStr t.f_Name ((mget (L.map fun q => (q.1, q.2.1)) t.f_Name).getD zT)
  have S3 := StampAt.of kStr O2.M t.f_Name ((mget (L.map fun q => (q.1, q.2.1)) t.f_Name).getD zT)
  have o3 : ∀ g, g ≠ m → (setM h2 m (.string t.f_Name) (vT ((mget (L.map fun q => (q.1, q.2.1)) t.f_Name).getD zT)))[g]? = h2[g]? := fun g hg => setM_other hg
  have z3 : (setM h2 m (.string t.f_Name) (vT ((mget (L.map fun q => (q.1, q.2.1)) t.f_Name).getD zT))).size = h2.size := setM_size
  show cellH (setM h2 m (.string t.f_Name) (vT ((mget (L.map fun q => (q.1, q.2.1)) t.f_Name).getD zT))) _ = _ ∧ _
  generalize setM h2 m (.string t.f_Name) (vT ((mget (L.map fun q => (q.1, q.2.1)) t.f_Name).getD zT)) = h3 at *
  have T3 := T2.old (o3 b9 b9m)
  refine ⟨nm T3, ct T3, m, _, rfl, S3, rfl, ?_⟩
  have M4 := M3.put kStr t.f_Name t
  rw [mput_twice] at M4
  have o4 : ∀ g, g ≠ m → (setM h3 m (.string t.f_Name) (vT t))[g]? = h3[g]? := fun g hg => setM_other hg
  have z4 : (setM h3 m (.string t.f_Name) (vT t)).size = h3.size := setM_size
  show cellH (setM h3 m (.string t.f_Name) (vT t)) _ = _ ∧ _
  generalize setM h3 m (.string t.f_Name) (vT t) = h4 at *
  have o24 : ∀ g, g ≠ m → h4[g]? = h2[g]? := fun g hg => (o4 g hg).trans (o3 g hg)
  refine ⟨nm (T3.old (o4 b9 b9m)), _, rfl, ?_⟩
  refine H h4 ?_ ⟨O2.P.old (o24 r O2.ne), O2.ne, ?_, fun q hq => ?_⟩ (by omega) fun g g1 g2 g3 => by rw [o24 g g3, U2.block g g1 g2]
  · exact R2.ext ⟨by omega, fun g hg => o24 g (by omega)⟩
  · have := mput_map (fun q : TZ => q.1) t.f_Name (t, zs) L
    rw [← this]; exact M4
  · rcases mput_mem hq with rfl | hq
    · exact ⟨rfl, K2.map em fun g g1 g2 => o24 g g2⟩
    · exact ⟨(O2.T q hq).1, (O2.T q hq).2.map em fun g g1 g2 => o24 g g2⟩
end
end Go.Q.Yb
