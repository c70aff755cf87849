/- A part of the proof of statements of this seat: lemmas, no statement of their own. -/
import Derived.Test.YthjafnfadiijgaaYhLe
set_option linter.unusedVariables false
set_option linter.unusedSimpArgs false
set_option maxRecDepth 100000
/- Logs: what is appended, what is cut. -/
namespace Go.Q.Yh
open Rf (Lg)
def OB (O : BSet) (s : Slc) : BSet := fun g => O g ∨ s.blk = some g
section
variable {O : BSet} {h : Heap} {b : Nat} {s : Slc} {l : Lg} {p t : Int}
theorem app_j4_ok {t0 : Option Addr} {t1 x3 i : Int} {c : Nat} {p3 t : Slc} {n : Int} {cur : List Ent} {vt : List S_api_Entry} {e : Ent} {v : S_api_Entry} {k : Int × Int → Heap → Prop} {nx : Slc × Int → Heap → Prop}
    (R : Row 0 h 65 2 t (ecs vt)) (I : Imm (OB O t) h fun h' => Each h' vt cur) (C : Blk h c (S_api_Entry.cs v) 65) (E : EntAt h v e) (ok : esOk [e]) (ob : ∀ g, O g → g < h.size) (sz : cur.length ≤ 1000000)
    (H : ∀ s' h' vs', Row 0 h' 65 2 s' (ecs vs') → Imm (OB O s') h' (fun h' => Each h' vs' (cur ++ [e])) → h.size ≤ h'.size → (∀ g, g < h.size → t.blk ≠ some g → h'[g]? = h[g]?) → ((s'.blk = t.blk ∧ t.len + 1 ≤ t.cap) ∨ ∃ g, s'.blk = some g ∧ h.size ≤ g) →
      (∀ D w ys, Row D h 65 2 w ys → (w.len ≤ t.len ∨ w.blk ≠ t.blk ∨ t.cap < t.len + 1) → Row D h' 65 2 w ys) → rlog_Log_Append_j3 t0 t1 x3 p3 n i s' k nx h') : rlog_Log_Append_j4 t0 t1 x3 ⟨c, 0, none⟩ p3 n i t k nx h := by
  have tl : t.len = cur.length := by have := R.1; rw [ecs_len, I.now.1] at this; omega
  unfold rlog_Log_Append_j4
  refine ⟨v, CellsAt.of_blk C, _, _, rfl, rfl, ?_⟩
  have X1 := Ext.push h (.cells (S_api_Entry.cs v).toArray 65) (Nat.le_refl _)
  have A : EntsAt (h.push (.cells (S_api_Entry.cs v).toArray 65)) ⟨some ⟨h.size, 0, none⟩, 1, 1⟩ [e] :=
    ⟨rfl, Nat.le_refl _, [v], (Row.of_pushE (E := 65) (w := 2) h (S_api_Entry.cs v) 1 rfl (by decide)).slc, (Each.one E).ext X1⟩
  have R1 := R.pushed (.cells (S_api_Entry.cs v).toArray 65)
  generalize h.push (.cells (S_api_Entry.cs v).toArray 65) = h1 at *
  have z1 := X1.size
  refine copied_ok A ok (by simp) fun r h2 us F X2 => ?_
  have z2 := X2.size
  have X02 : Ext h.size h h2 := X1.trans (X2.mono z1)
  have rl := F.len
  have ul := F.l
  simp at rl ul
  obtain ⟨u, rfl⟩ := List.length_eq_one_iff.1 ul
  refine ⟨ecs [u], F.r.slc, ?_⟩
  rw [rl]
  have R2 := R1.ext X2 fun g hg => (R1.bd hg).2
  refine App.row2 R2 (Nat.zero_le _) rfl rfl (ecs_one _) (by omega) (by simp only [maxLen]; omega) fun s' h3 R3 l3 z3 o3 b3 w3 => ?_
  have R3' : Row 0 h3 65 2 s' (ecs (vt ++ [u])) := by
    have : ecs (vt ++ [u]) = ecs vt ++ ecs [u] := by simp [ecs]
    rw [this]; exact R3
  obtain ⟨u1, u2⟩ := F.e 0 u e rfl rfl
  have S3 : Stp (fun g => t.blk = some g) h2 h3 := ⟨z3, fun g hg hn => o3 g hg hn⟩
  have rb : ∀ g, u.f_Cmd.blk = some g → t.blk ≠ some g := fun g hg e1 => u2.ne_row R2 (by decide) hg e1
  refine H s' h3 (vt ++ [u]) R3' ?_ (by omega) (fun g hg hn => (o3 g (by omega) hn).trans (X02.block g hg)) ?_ fun D w ys Rw hw => w3 D w ys (Rw.ext X02 fun g hg => (Rw.bd hg).2) hw
  · have U3 := u2.keep fun g hg => o3 g (u2.bd hg).2 (rb g hg)
    have I3 : Imm (OB O s') h3 fun h' => Each h' vt cur := (I.ext X02).step (S3.mono fun g hg => .inl (.inr hg)) fun g hg => by
      rcases hg with hg | hg
      · exact .inl (.inl hg)
      · rcases b3 with ⟨b3, _⟩ | b3
        · exact .inl (.inr (by rw [← b3]; exact hg))
        · rw [b3] at hg; cases hg; exact .inr (Nat.le_refl _)
    intro h4 S4
    refine (I3 h4 S4).app (Each.one ?_)
    have := S4.row U3 fun g hg hO => by
      rcases hO with hO | hO
      · have := (U3.bd hg).1; have := ob g hO; omega
      · exact U3.ne_row R3' (by decide) hg hO
    exact ⟨u1, this.slc, by simpa using this.len⟩
  · rcases b3 with ⟨b3, b4⟩ | b3
    · exact .inl ⟨b3, b4⟩
    · exact .inr ⟨_, b3, by omega⟩
theorem subS_blk (s : Slc) (n : Nat) : (subS s 2 0 n n).blk = s.blk := by
  have : (subS s 2 0 n n).a = s.a := by
    simp only [subS]
    split
    · rfl
    · cases s.a <;> simp [Addr.add]
  simp only [Slc.blk, this]
theorem Row.take2 {B : Nat} {h : Heap} {s : Slc} {vs : List S_api_Entry} (R : Row B h 65 2 s (ecs vs)) {n : Nat} (hn : n ≤ s.len) : Row B h 65 2 (subS s 2 0 n n) (ecs (vs.take n)) := by
  have hl := R.1
  have ea : (subS s 2 0 n n).a = s.a := by
    simp only [subS]
    split
    · rfl
    · cases s.a <;> simp [Addr.add]
  have hm := R.2.1
  rw [ecs_len] at hl
  refine ⟨by rw [ecs_len, List.length_take]; simp [subS]; omega, by simp [subS]; have := R.cap; omega, ?_⟩
  rcases R.2.2 with ⟨k1, k2, k3⟩ | ⟨g, cur, a1, a2, a3, a4, a5, a6⟩
  · exact .inl ⟨by rw [ea]; exact k1, by simp [subS]; omega, by simp [subS]; omega⟩
  · refine .inr ⟨g, cur, by rw [ea]; exact a1, a2, a3, by simp [subS], by simp [subS]; omega, ?_⟩
    rw [← ecs_take, ← a6, List.take_take]
    congr 1
    simp [subS]; omega
/-- the turns over the entries that come in -/
def AppI (O : BSet) (b : Nat) (p : Int) (more : List Ent) (s : Slc) (l : Lg) (vs : List S_api_Entry) (h : Heap) (q : Slc × Int) (h' : Heap) : Prop :=
  ∃ vsn, 0 ≤ q.2 ∧ q.2 ≤ more.length ∧ Row 0 h' 65 2 q.1 (ecs vsn) ∧ Imm (OB O q.1) h' (fun h' => Each h' vsn (Lg.appN l.ix p l.es more q.2.toNat)) ∧ Row 0 h' 65 2 s (ecs vs) ∧ Stp (fun g => s.blk = some g) h h' ∧ (q.1.blk = s.blk ∨ ∃ g, q.1.blk = some g ∧ h.size ≤ g) ∧ (q.1.blk = s.blk → s.len ≤ q.1.len ∨ q.1.cap ≤ q.1.len) ∧
    esOk (Lg.appN l.ix p l.es more q.2.toNat) ∧ l.ix + (Lg.appN l.ix p l.es more q.2.toNat).length < 18446744073709551616 ∧ (Lg.appN l.ix p l.es more q.2.toNat).length ≤ 1000 + q.2.toNat
theorem LogAt.back {h' : Heap} {vs : List S_api_Entry} (L : LogAt O h b s l) (I : Imm O h fun h' => Each h' vs l.es) (R : Row 0 h' 65 2 s (ecs vs)) (F : Stp (fun g => s.blk = some g) h h') : LogAt O h' b s l := by
  obtain ⟨vs0, R0, _⟩ := L.r
  exact ⟨F.blk L.k fun e => R0.ne_blk L.k (by decide) e, ⟨vs, R, I.stp (F.mono fun g hg => .inl (L.os g hg))⟩, L.ob, L.os, L.x0, L.x1, L.t0, L.ok, L.sz⟩
theorem Each.len {h : Heap} {vs : List S_api_Entry} {es : List Ent} (a : Each h vs es) : vs.length = es.length := a.1
theorem row_len {B : Nat} {h : Heap} {s : Slc} {vs : List S_api_Entry} {es : List Ent} (R : Row B h 65 2 s (ecs vs)) (E : Each h vs es) : s.len = es.length := by
  have := R.1; rw [ecs_len, E.1] at this; omega
theorem row_term {B : Nat} {h : Heap} {s : Slc} {vs : List S_api_Entry} {es : List Ent} (R : Row B h 65 2 s (ecs vs)) (E : Each h vs es) {i : Nat} {e : Ent} (he : es[i]? = some e) : ∃ a, s.a = some a ∧ cellH h (a.add (i * 2)) = some (.int .u64 e.1) := by
  have A : EntsAt h s es := ⟨row_len R E, R.cap, vs, R.slc, E⟩
  obtain ⟨a, v, ha, C, E⟩ := A.get he
  refine ⟨a, ha, ?_⟩
  have := C 0 (.int .u64 v.f_Term) rfl
  rwa [add_add2, Nat.add_zero, E.t] at this
theorem W_bd (x : Int) : 0 ≤ Rf.W x ∧ Rf.W x < 18446744073709551616 := by
  unfold Rf.W IntKind.wrap
  simp [IntKind.signed, IntKind.bits]
  omega
theorem app_l2_ok {x3 : Int} {p3 : Slc} {more : List Ent} {k : Int × Int → Heap → Prop} (L : LogAt O h b s l) (ob : ∀ g, O g → g < h.size) (A0 : Imm O h fun h' => EntsAt h' p3 more) (okm : esOk more)
    (p0 : 0 ≤ p) (p1 : p < 18446744073709551616) (hm : more.length ≤ 1000) (hp : p ≤ l.ix + 1000)
    (H : ∀ h' s', LogAt (OB O s') h' b s' (if (Lg.appN l.ix p l.es more more.length).length > 64 then l else { l with es := Lg.appN l.ix p l.es more more.length }) → Stp (fun g => g = b ∨ s.blk = some g) h h' → (∀ g, s'.blk = some g → s.blk = some g ∨ h.size ≤ g) → k (if (Lg.appN l.ix p l.es more more.length).length > 64 then (0, 8) else (x3, 0)) h') :
    rlog_Log_Append_l2 (some ⟨b, 0, none⟩) p x3 p3 (more.length : Int) s 0 k h := by
  have x0 := L.x0
  obtain ⟨vs, R0, I0⟩ := L.r
  refine ⟨AppI O b p more s l vs h, fun q _ => (more.length - q.2).toNat, ?_, ?_⟩
  · exact ⟨vs, by simp, by simp, R0, I0.mono (fun g hg => hg.elim .inl fun e => .inl (L.os g e)), R0, Stp.refl _ _, .inl rfl, fun _ => .inl (Nat.le_refl _), L.ok, L.x1, by have := L.sz; simp [Lg.appN]; omega⟩
  rintro now i h1 ⟨vsn, i0, i1, R, I, Rs, F, nb, nc, okc, xc, lc⟩
  simp only at i0 i1 R I nb nc okc xc lc
  have L1 := L.back I0 Rs F
  have z1 := F.size
  unfold rlog_Log_Append_l2b
  by_cases hi : i < more.length
  · rw [if_pos (by simpa using hi)]
    have hie : i.toNat < more.length := by omega
    have he : more[i.toNat]? = some more[i.toNat] := by simp [hie]
    have hstep : Lg.appN l.ix p l.es more (i + 1).toNat = Lg.appStep l.ix p (Lg.appN l.ix p l.es more i.toNat) i.toNat more[i.toNat] := by
      rw [show (i + 1).toNat = i.toNat + 1 from by omega]; simp only [Lg.appN, he]
    generalize more[i.toNat] = e at he hstep
    generalize Lg.appN l.ix p l.es more i.toNat = cur at *
    have A : EntsAt h1 p3 more := A0 h1 (F.mono fun g hg => .inl (L.os g hg))
    have oke := okm _ (List.mem_of_getElem? he)
    have okE : esOk [e] := fun f hf => by simp at hf; subst hf; exact oke
    obtain ⟨a, v, ha, c1, c2⟩ := A.get he
    refine ⟨a, ha, i0, by rw [A.l]; exact hi, v, c1, _, _, rfl, rfl, ?_⟩
    have P0 := Blk.push h1 (S_api_Entry.cs ⟨0, ⟨none, 0, 0⟩⟩) 65
    have P1 := P0.sets_all (vs := S_api_Entry.cs v) (by simp [S_api_Entry.cs])
    have X2 : Ext h1.size h1 (setsH (h1.push (.cells (S_api_Entry.cs ⟨0, ⟨none, 0, 0⟩⟩).toArray 65)) ⟨h1.size, 0, none⟩ 0 (S_api_Entry.cs v)) := (Ext.push h1 _ (Nat.le_refl _)).trans (Ext.sets _ _ _ (Nat.le_refl _))
    refine ⟨_, WrsAt.of_blk P0 (by simp [S_api_Entry.cs]), rfl, ?_⟩
    generalize setsH (h1.push (.cells (S_api_Entry.cs ⟨0, ⟨none, 0, 0⟩⟩).toArray 65)) ⟨h1.size, 0, none⟩ 0 (S_api_Entry.cs v) = h2 at *
    have L2 := L1.ext X2
    have Rs2 := Rs.ext X2 fun g hg => (Rs.bd hg).2
    have R2 := R.ext X2 fun g hg => (R.bd hg).2
    have I2 := I.ext X2
    have F2 := F.trans (Stp.of_ext (O := fun _ => False) X2) fun _ h => h.elim
    have z2 := X2.size
    rw [wrapU64 (x := i) (by omega) (by omega)]
    have ewp : IntKind.u64.wrap (IntKind.u64.wrap (p + i) + 1) = Rf.W (p + (i.toNat : Int) + 1) := by
      unfold Rf.W IntKind.wrap
      simp [IntKind.signed, IntKind.bits]
      omega
    rw [ewp]
    obtain ⟨w0, w1⟩ := W_bd (p + (i.toNat : Int) + 1)
    have hw : Rf.W (p + (i.toNat : Int) + 1) ≤ p + i + 1 := by
      unfold Rf.W IntKind.wrap
      simp [IntKind.signed, IntKind.bits]
      omega
    have stay : Lg.appStep l.ix p cur i.toNat e = cur → rlog_Log_Append_j3 (some ⟨b, 0, none⟩) p x3 p3 (more.length : Int) i now k (fun q h' => AppI O b p more s l vs h q h' ∧ (more.length - q.2).toNat < (more.length - i).toNat) h2 := fun hs => by
      unfold rlog_Log_Append_j3
      rw [wrapI64 (by omega) (by omega)]
      exact ⟨⟨vsn, by dsimp only; omega, by dsimp only; omega, R2, by dsimp only; rw [hstep, hs]; exact I2, Rs2, F2, nb, nc, by dsimp only; rw [hstep, hs]; exact okc, by dsimp only; rw [hstep, hs]; exact xc, by dsimp only; rw [hstep, hs]; omega⟩, by dsimp only; omega⟩
    have more' : ∀ {t : Slc} {cur' : List Ent} {vt : List S_api_Entry}, Row 0 h2 65 2 t (ecs vt) → Imm (OB O t) h2 (fun h' => Each h' vt cur') → t.blk = now.blk → cur'.length ≤ cur.length → (t.blk = s.blk → s.len ≤ t.len ∨ t.cap ≤ t.len) → esOk cur' → l.ix + (cur'.length + 1) < 18446744073709551616 → Lg.appStep l.ix p cur i.toNat e = cur' ++ [e] →
        rlog_Log_Append_j4 (some ⟨b, 0, none⟩) p x3 ⟨h1.size, 0, none⟩ p3 (more.length : Int) i t k (fun q h' => AppI O b p more s l vs h q h' ∧ (more.length - q.2).toNat < (more.length - i).toNat) h2 := fun {t cur' vt} Rt It tb tl tc okt xt hs => by
      have nb' : t.blk = s.blk ∨ ∃ g, t.blk = some g ∧ h.size ≤ g := by rw [tb]; exact nb
      refine app_j4_ok Rt It P1 (c2.ext X2) okE (fun g hg => by have := ob g hg; omega) (by omega) fun s' h3 vs' R3 I3 z3 o3 b3 w3 => ?_
      unfold rlog_Log_Append_j3
      rw [wrapI64 (by omega) (by omega)]
      have tO : ∀ g, t.blk = some g → s.blk = some g ∨ h.size ≤ g := fun g hg => by
        rcases nb' with h4 | ⟨g', h4, h5⟩
        · exact .inl (by rw [← h4]; exact hg)
        · rw [h4] at hg; cases hg; exact .inr h5
      have S3 : Stp (fun g => t.blk = some g) h2 h3 := ⟨z3, fun g hg hn => o3 g hg hn⟩
      have Rs3 : Row 0 h3 65 2 s (ecs vs) := w3 0 s _ Rs2 (by
        by_cases hbb : s.blk = t.blk
        · rcases tc hbb.symm with h | h
          · exact .inl h
          · exact .inr (.inr (by omega))
        · exact .inr (.inl hbb))
      have F3 : Stp (fun g => s.blk = some g) h h3 := F2.trans S3 tO
      have l3 := row_len R3 I3.now
      have lt := row_len Rt It.now
      simp at l3
      refine ⟨⟨vs', by dsimp only; omega, by dsimp only; omega, R3, by dsimp only; rw [hstep, hs]; exact I3, Rs3, F3, ?_, fun hsb => ?_, by dsimp only; rw [hstep, hs]; exact okt.app okE, by dsimp only; rw [hstep, hs, List.length_append]; simp; omega, by dsimp only; rw [hstep, hs, List.length_append]; simp; omega⟩, by dsimp only; omega⟩
      · dsimp only
        rcases b3 with ⟨h4, _⟩ | ⟨g, h4, h5⟩
        · rw [h4]; exact nb'
        · exact .inr ⟨g, h4, by omega⟩
      · dsimp only at hsb ⊢
        rcases b3 with ⟨h4, hr⟩ | ⟨g, h4, h5⟩
        · rcases tc (by rw [← h4]; exact hsb) with h5 | h5
          · left; omega
          · omega
        · rw [hsb] at h4
          have := (Rs2.bd h4).2
          omega
    refine ⟨_, rfl, _, rfl, _, L2.c0, ?_⟩
    have ln := row_len R2 I2.now
    by_cases hle : Rf.W (p + (i.toNat : Int) + 1) ≤ l.ix
    · rw [if_pos (by simpa using hle)]
      exact stay (by unfold Lg.appStep; rw [if_pos hle])
    rw [if_neg (by simpa using hle)]
    refine ⟨l.ix, L2.c0, _, rfl, ?_⟩
    have hwx : Rf.W (p + (i.toNat : Int) + 1) - l.ix - 1 ≤ 3000 := by omega
    generalize hK : Rf.W (p + (i.toNat : Int) + 1) = K at *
    rw [wrapU64 (x := K - l.ix) (by omega) (by omega), wrapU64 (x := K - l.ix - 1) (by omega) (by omega), wrapI64 (x := K - l.ix - 1) (by omega) (by omega)]
    by_cases hk : K - l.ix - 1 < (now.len : Int)
    · rw [if_pos (by simpa using hk)]
      have hkc : (K - l.ix - 1).toNat < cur.length := by omega
      obtain ⟨f, hf⟩ : ∃ f, cur[(K - l.ix - 1).toNat]? = some f := ⟨_, List.getElem?_eq_getElem hkc⟩
      have hgd : cur.getD (K - l.ix - 1).toNat (0, []) = f := by rw [List.getD_eq_getElem?_getD, hf]; rfl
      obtain ⟨a', d1, d2⟩ := row_term R2 I2.now hf
      refine ⟨a', d1, by omega, hk, _, d2, v.f_Term, by rw [P1.cell]; rfl, ?_⟩
      rw [c2.t]
      by_cases ht : f.1 = e.1
      · rw [if_pos (by simpa using ht)]
        exact stay (by unfold Lg.appStep; rw [hK, if_neg hle, if_pos hkc, hgd, if_pos ht])
      · rw [if_neg (by simpa using ht)]
        have cp := R2.cap
        refine ⟨_, by decide, by omega, Int.le_refl _, by omega, rfl, ?_⟩
        rw [show (0 : Int).toNat = 0 from rfl]
        refine more' (Row.take2 R2 (by omega)) ((I2.mono fun g hg => by rw [OB, subS_blk] at hg; exact .inl hg).imp fun _ E => E.take _) (subS_blk _ _) (by rw [List.length_take]; omega) (fun _ => .inr (by simp [subS])) (okc.take _) (by rw [List.length_take]; omega) ?_
        unfold Lg.appStep; rw [hK, if_neg hle, if_pos hkc, hgd, if_neg ht]
    · rw [if_neg (by simpa using hk)]
      refine more' R2 I2 rfl (Nat.le_refl _) nc okc (by omega) ?_
      unfold Lg.appStep; rw [hK, if_neg hle, if_neg (by omega)]
  · rw [if_neg (by simpa using hi)]
    have hin : i.toNat = more.length := by omega
    rw [hin] at I okc xc lc
    have ln := row_len R I.now
    have nO : ∀ g, now.blk = some g → s.blk = some g ∨ h.size ≤ g := fun g hg => by
      rcases nb with h4 | ⟨g', h4, h5⟩
      · exact .inl (by rw [← h4]; exact hg)
      · rw [h4] at hg; cases hg; exact .inr h5
    by_cases h64 : (Lg.appN l.ix p l.es more more.length).length > 64
    · rw [if_pos (by simp; omega)]
      simp only [if_pos h64] at H
      refine H h1 s (L1.sub (fun g hg => hg.elim .inl fun e => .inl (L.os g e)) (.inl L.ob) fun g hg => .inr hg) (F.mono fun g hg => .inl (.inr hg)) fun g hg => .inl hg
    · rw [if_neg (by simp; omega)]
      obtain ⟨w1, w2⟩ := L1.k.put (i := 2) (v := Slc.v now) (by show 2 < 3; omega)
      refine ⟨_, rfl, _, w1, rfl, ?_⟩
      obtain ⟨K, U⟩ := w2 _ rfl
      generalize setH h1 ((⟨b, 0, none⟩ : Addr).add 2) (Slc.v now) = h2 at *
      have nb2 : ∀ g, now.blk = some g → g ≠ b := fun g hg e => by subst e; exact R.ne_blk L1.k (by decide) hg
      have S2 : Stp (fun g => g = b) h1 h2 := Stp.of_upd U (.inl rfl)
      have := H h2 now ?_ ((F.mono (O' := fun g => g = b ∨ s.blk = some g) fun g hg => .inl (.inr hg)).trans S2 fun g hg => .inl (.inl hg)) nO
      · simpa only [if_neg h64] using this
      · simp only [if_neg h64]
        exact ⟨K, ⟨vsn, S2.row R fun g hg e => nb2 g hg e, I.stp (S2.mono fun g hg => .inl (.inl (by subst hg; exact L.ob)))⟩,   .inl L.ob, fun g hg => .inr hg, L.x0, xc, L.t0, okc, by show (Lg.appN l.ix p l.es more more.length).length ≤ 1000; omega⟩
theorem matOk {l : Lg} (h : l.mat p t = true) : p ≤ l.ix + l.es.length := by
  unfold Lg.mat at h
  rw [Bool.and_eq_true, beq_iff_eq] at h
  exact (termOf_ok h.1).2
theorem Append_ok {p3 : Slc} {more : List Ent} {k : Int × Int → Heap → Prop} (L : LogAt O h b s l) (ob : ∀ g, O g → g < h.size) (A0 : Imm O h fun h' => EntsAt h' p3 more) (okm : esOk more)
    (p0 : 0 ≤ p) (p1 : p < 18446744073709551616) (hm : more.length ≤ 1000)
    (H : ∀ h' s', LogAt (OB O s') h' b s' (l.append p t more).1 → Stp (fun g => g = b ∨ s.blk = some g) h h' → (∀ g, s'.blk = some g → s.blk = some g ∨ h.size ≤ g) → k (l.append p t more).2 h') : rlog_Log_Append (some ⟨b, 0, none⟩) p t p3 k h := by
  have sz := L.sz
  have lO := L.sub (O' := OB O s) (fun g hg => hg.elim .inl fun e => .inl (L.os g e)) (.inl L.ob) fun g hg => .inr hg
  have go : ¬ (p ≥ l.ix ∧ l.mat p t = false) → rlog_Log_Append_g1 (some ⟨b, 0, none⟩) p p3 false k h := fun hn => by
    have hp : p ≤ l.ix + 1000 := by
      by_cases h1 : p ≥ l.ix
      · have : l.mat p t = true := by cases hm : l.mat p t with | true => rfl | false => exact absurd ⟨h1, hm⟩ hn
        have := matOk this; omega
      · omega
    unfold rlog_Log_Append_g1
    rw [if_neg (by simp), A0.now.l, wrapU64 (x := (more.length : Int)) (by omega) (by omega)]
    refine ⟨_, rfl, _, rfl, _, L.c2, app_l2_ok L ob A0 okm p0 p1 hm hp fun h' s' L' F hb => ?_⟩
    have := H h' s'
    unfold Lg.append at this
    rw [if_neg hn] at this
    by_cases h64 : (Lg.appN l.ix p l.es more more.length).length > 64
    · simp only [if_pos h64] at this L' ⊢
      exact this L' F hb
    · simp only [if_neg h64] at this L' ⊢
      exact this L' F hb
  have bad : (p ≥ l.ix ∧ l.mat p t = false) → k (0, 6) h := fun hn => by
    have e : l.append p t more = (l, 0, 6) := by unfold Lg.append; rw [if_pos hn]
    rw [e] at H
    exact H h s lO (Stp.refl _ _) fun g hg => .inl hg
  unfold rlog_Log_Append
  rw [if_neg (by simp)]
  refine ⟨_, rfl, _, L.c0, ?_⟩
  by_cases hp : p ≥ l.ix
  · rw [if_pos (by simpa using hp)]
    refine Match_ok L p0 p1 ?_
    cases hm : l.mat p t with
    | true => exact go fun hn => by rw [hm] at hn; cases hn.2
    | false =>
      show rlog_Log_Append_g1 _ _ _ true _ _
      unfold rlog_Log_Append_g1
      rw [if_pos rfl]
      exact bad ⟨hp, hm⟩
  · rw [if_neg (by simpa using hp)]
    exact go fun hn => hp hn.1
theorem CloneE_ok {p0 : Slc} {vs : List S_api_Entry} {k : Slc → Heap → Prop} {h : Heap} (hl : p0.len = vs.length) (hs : SlcAt h p0 (ecs vs)) (hsz : vs.length ≤ 1099511627776)
    (H : ∀ s' h', Row h.size h' 65 2 s' (ecs vs) → Ext h.size h h' → k s' h') : slices_Clone_api_Entry_api_Entry p0 k h := by
  unfold slices_Clone_api_Entry_api_Entry
  cases ha : p0.a with
  | none =>
    rw [if_pos (by simp)]
    have hn := hs.1 ha
    rw [hn] at H
    exact H _ _ (Row.nil _ _ _ _) (Ext.refl _ _)
  | some a =>
    rw [if_neg (by simp)]
    have hp : ∀ o : Obj, Ext h.size h (h.push o) := fun o => Ext.push h o (Nat.le_refl _)
    refine ⟨_, _, rfl, rfl, ecs vs, hs.ext (hp _), ?_⟩
    have R : Row h.size (h.push (.cells ([] : List Value).toArray 65)) 65 2 ⟨some ⟨h.size, 0, none⟩, 0, 0⟩ [] :=
      ⟨by simp, by simp [maxLen], .inr ⟨h.size, [], rfl, Nat.le_refl _, Blk.push _ _ _, Nat.le_refl _, by simp, by simp⟩⟩
    refine App.row R (by simp) rfl (by rw [ecs_len, hl]) (ecs_one vs) (by simp only; omega) (by simp only [maxLen]; omega) fun s' h' R' _ hsz' ho _ => ?_
    refine H s' h' (by simpa using R') ⟨by simp at hsz'; omega, fun i hi => ?_⟩
    rw [ho i (by simp; omega) (by simp [Slc.blk]; omega), (hp _).block i hi]
theorem Cut_ok {k : Int → Heap → Prop} (L : LogAt O h b s l) (ob : ∀ g, O g → g < h.size) (p0 : 0 ≤ p) (p1 : p < 18446744073709551616)
    (H : ∀ h' s', LogAt (OB O s') h' b s' (l.cut p).1 → Stp (fun g => g = b) h h' → (∀ g, s'.blk = some g → s.blk = some g ∨ h.size ≤ g) → k (l.cut p).2 h') : rlog_Log_Cut (some ⟨b, 0, none⟩) p k h := by
  have lO := L.sub (O' := OB O s) (fun g hg => hg.elim .inl fun e => .inl (L.os g e)) (.inl L.ob) fun g hg => .inr hg
  have x0 := L.x0; have x1 := L.x1; have sz := L.sz
  unfold rlog_Log_Cut
  rw [if_neg (by simp)]
  refine Term_ok L p0 p1 ?_
  unfold Lg.cut at H
  by_cases ht : (l.termOf p).2 = 0
  · rw [if_neg (by simpa using ht)]; rw [if_neg (by simpa using ht)] at H
    obtain ⟨h1, h2⟩ := termOf_ok ht
    have hl := L.len
    obtain ⟨vs, R, I⟩ := L.r
    have hc := R.cap
    have vl := I.now.1
    refine ⟨_, rfl, s, L.c2, _, L.c0, ?_⟩
    rw [wrapU64 (x := p - l.ix) (by omega) (by omega)]
    refine ⟨_, by omega, by omega, by omega, by omega, rfl, ?_⟩
    have A1 := (EntsAt.sub ⟨hl, hc, vs, R.slc, I.now⟩ (l := (p - l.ix).toNat) (u := (s.len : Int).toNat) (m := (s.cap : Int).toNat) (by omega) (by omega) (by omega) (by omega))
    have hA : SlcAt h (subS s 2 (p - l.ix).toNat (s.len : Int).toNat (s.cap : Int).toNat) (ecs (vs.drop (p - l.ix).toNat)) ∧ (subS s 2 (p - l.ix).toNat (s.len : Int).toNat (s.cap : Int).toNat).len = (vs.drop (p - l.ix).toNat).length := by
      refine ⟨⟨fun hn => ?_, fun a ha j v hj => ?_⟩, by simp [subS]; omega⟩
      · have : s.a = none := by simp only [subS] at hn; split at hn <;> simpa using hn
        have h0 := R.slc.1 this
        have := ecs_len vs
        rw [h0] at this
        simp at this
        have : vs = [] := List.eq_nil_of_length_eq_zero (by omega)
        simp [this]
      · rw [← ecs_drop, List.getElem?_drop] at hj
        by_cases hm : (s.cap : Int).toNat = (p - l.ix).toNat
        · have := (List.getElem?_eq_some_iff.1 hj).1
          rw [ecs_len] at this; omega
        cases hs : s.a with
        | none => simp [subS, hs] at ha
        | some a0 =>
          have hm' : ¬ s.cap = (p - l.ix).toNat := fun e => hm (by omega)
          simp [subS, hs, hm'] at ha
          subst ha
          rw [add_add2]
          exact R.slc.2 a0 hs _ v hj
    generalize subS s 2 (p - l.ix).toNat (s.len : Int).toNat (s.cap : Int).toNat = s6 at hA ⊢
    refine CloneE_ok hA.2 hA.1 (by rw [List.length_drop]; omega) fun s' h' R' X => ?_
    have z1 := X.size
    have K1 := L.k.ext X L.k.lt
    obtain ⟨w1, f1⟩ := K1.put (i := 2) (v := Slc.v s') (by show 2 < 3; omega)
    refine ⟨_, w1, rfl, ?_⟩
    obtain ⟨K2, U2⟩ := f1 _ rfl
    generalize setH h' ((⟨b, 0, none⟩ : Addr).add 2) (Slc.v s') = h2 at *
    obtain ⟨w3, f3⟩ := K2.put (i := 0) (v := .int .u64 p) (by show 0 < 3; omega)
    rw [show (⟨b, 0, none⟩ : Addr).add 0 = ⟨b, 0, none⟩ from rfl] at w3 f3
    refine ⟨_, w3, rfl, ?_⟩
    obtain ⟨K3, U3⟩ := f3 _ rfl
    generalize setH h2 (⟨b, 0, none⟩ : Addr) (.int .u64 p) = h3 at *
    obtain ⟨w4, f4⟩ := K3.put (i := 1) (v := .int .u64 (l.termOf p).1) (by show 1 < 3; omega)
    refine ⟨_, w4, rfl, ?_⟩
    obtain ⟨K4, U4⟩ := f4 _ rfl
    generalize setH h3 ((⟨b, 0, none⟩ : Addr).add 1) (.int .u64 (l.termOf p).1) = h4 at *
    have U := (U2.trans U3).trans U4
    have S : Stp (fun g => g = b) h' h4 := Stp.of_upd U (.inl rfl)
    have S0 : Stp (fun g => g = b) h h4 := (Stp.of_ext (O := fun g => g = b) X).trans' S
    have sb : ∀ g, s'.blk = some g → h.size ≤ g := fun g hg => (R'.bd hg).1
    have tb : 0 ≤ (l.termOf p).1 ∧ (l.termOf p).1 < 18446744073709551616 := by
      have := L.t0
      unfold Lg.termOf
      split
      · decide
      · split
        · decide
        · split
          · exact this
          · rename_i h5 h6 h7
            have hlast : l.last = l.ix + l.es.length := rfl
            obtain ⟨e, he⟩ : ∃ e, l.es[(p - l.ix - 1).toNat]? = some e := ⟨_, List.getElem?_eq_getElem (by omega)⟩
            rw [List.getD_eq_getElem?_getD, he]
            exact (L.ok _ (List.mem_of_getElem? he)).1
    refine H h4 s' ⟨K4, ⟨vs.drop (p - l.ix).toNat, S.row (R'.mono (Nat.zero_le _)) fun g hg e => by have := sb g hg; have := L.k.lt; omega, ?_⟩, .inl L.ob, fun g hg => .inr hg, p0, ?_, tb, L.ok.drop _, by show (l.es.drop _).length ≤ 1000; rw [List.length_drop]; omega⟩ S0 fun g hg => .inr (sb g hg)
    · exact ((I.step (S0.mono fun g hg => .inl (by subst hg; exact L.ob)) fun g hg => hg.elim .inl fun e => .inr (sb g e)).imp fun _ E => E.drop _)
    · show p + ((l.es.drop _).length : Int) < _
      rw [List.length_drop]; omega
  · rw [if_pos (by simpa using ht)]; rw [if_pos (by simpa using ht)] at H
    exact H _ _ lO (Stp.refl _ _) fun g hg => .inl hg
end
end Go.Q.Yh
