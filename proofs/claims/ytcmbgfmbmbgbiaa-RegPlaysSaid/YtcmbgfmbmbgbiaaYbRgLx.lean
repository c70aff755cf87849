/- A part of the proof of statements of this seat: lemmas, no statement of their own. -/
import Derived.Test.YtcmbgfmbmbgbiaaYbRgK
set_option linter.unusedVariables false
set_option linter.unusedSimpArgs false
namespace Go.Q.Yb
/-! ### an act, plainly -/
def applyB (c : S_api_Command) (n : Nat) (A : AG) : Int := if mayR c n = true then askB c (mget A c.f_Tenant) A.length else 1
def stepR (A : AG) (c : S_api_Command) (wr : List Int) : Int × AG :=
  (applyB c wr.length A, if applyB c wr.length A = 0 ∧ c.f_Kind ≠ 0 then mput A c.f_Tenant (newT c wr ((mget A c.f_Tenant).getD zAT)) else A)
theorem absL_len (L : List (ByteArray × TZ)) : (absL L).length = L.length := by unfold absL; rw [List.length_map]
theorem applyE_abs (c : S_api_Command) (n : Nat) (L : List (ByteArray × TZ)) : applyE c n L = applyB c n (absL L) := by
  unfold applyE applyB
  rw [askA_abs, absL_get, absL_len]
theorem mget_put2 {K V : Type} [DecidableEq K] (k j : K) (v : V) : ∀ l : List (K × V), mget (mput l k v) j = if j = k then some v else mget l j
  | [] => by
    show mget [(k, v)] j = _
    unfold mget
    by_cases h : j = k
    · rw [if_pos h.symm, if_pos h]
    · rw [if_neg (fun e => h e.symm), if_neg h]; rfl
  | p :: r => by
    have ih := mget_put2 k j v r
    unfold mput
    by_cases hp : p.1 = k
    · rw [if_pos hp]
      unfold mget
      by_cases h : j = k
      · rw [if_pos h.symm, if_pos h]
      · rw [if_neg (fun e => h e.symm), if_neg h, if_neg (fun e => h (e.symm.trans hp))]
    · rw [if_neg hp]
      unfold mget
      by_cases h : p.1 = j
      · rw [if_pos h, if_pos h, if_neg (fun e => hp (h.trans e))]
      · rw [if_neg h, if_neg h, ih]
theorem keys_put2 {K V : Type} [DecidableEq K] (k : K) (v : V) : ∀ l : List (K × V), (l.map (·.1)).Nodup → ((mput l k v).map (·.1)).Nodup
  | [], _ => by show [k].Nodup; simp
  | p :: r, h => by
    rw [List.map_cons, List.nodup_cons] at h
    unfold mput
    by_cases hp : p.1 = k
    · rw [if_pos hp, List.map_cons, List.nodup_cons]
      exact ⟨by rw [← hp]; exact h.1, h.2⟩
    · rw [if_neg hp, List.map_cons, List.nodup_cons]
      refine ⟨fun hm => ?_, keys_put2 k v r h.2⟩
      obtain ⟨q, hq, e⟩ := List.mem_map.1 hm
      rcases mput_mem hq with rfl | hq
      · exact hp e.symm
      · exact h.1 (List.mem_map.2 ⟨q, hq, e⟩)
theorem mem_keys {K V : Type} [DecidableEq K] {k : K} : ∀ {l : List (K × V)}, k ∈ l.map (·.1) ↔ (mget l k).isSome = true
  | [] => by simp [mget]
  | p :: r => by
    have ih := mem_keys (k := k) (l := r)
    unfold mget
    rw [List.map_cons, List.mem_cons]
    by_cases hp : p.1 = k
    · rw [if_pos hp]; simp [hp]
    · rw [if_neg hp, ← ih]
      exact ⟨fun h => h.elim (fun e => absurd e.symm hp) id, .inr⟩
/-! ### the registry at hand, and another -/
theorem Blk.notMap {h : Heap} {b E : Nat} {cs : List Value} (P : Blk h b cs E) : ∀ es ck, h[b]? ≠ some (.map es ck) := fun es ck e => by
  obtain ⟨_, _, p, _⟩ := P
  rw [p] at e; cases e
theorem cell_notMap {h : Heap} {a : Addr} {v : Value} (hc : cellH h a = some v) : ∀ es ck, h[a.block]? ≠ some (.map es ck) := fun es ck e => by
  unfold cellH at hc
  rw [e] at hc; cases hc
theorem KAt.mp {h h' : Heap} {s : Slc} {zs : List Z} (K : KAt h s zs) (e : ∀ g, g < h.size → (∀ es ck, h[g]? ≠ some (.map es ck)) → h'[g]? = h[g]?) : KAt h' s zs := by
  have cell : ∀ {a v}, cellH h a = some v → cellH h' a = some v := fun {a v} hc => by rw [cellH_of (e _ (cellH_lt hc) (cell_notMap hc))]; exact hc
  refine ⟨⟨K.1.l, fun i x hx => ?_⟩, fun z hz => ?_⟩
  · obtain ⟨a, ha, C⟩ := K.1.at' i x hx
    exact ⟨a, ha, fun j v hj => cell (C j v hj)⟩
  · obtain ⟨S, q⟩ := K.2 z hz
    exact ⟨⟨S.1, fun a ha j v hj => cell (S.2 a ha j v hj)⟩, q⟩
section
variable {b : Nat} {h h' : Heap} {r m r' m' : Nat} {L L' : List (ByteArray × TZ)}
theorem RegAt.map (R : RegAt b h r m L) : ∃ es ck, h[m]? = some (.map es ck) := by
  obtain ⟨es, ck, h1, _⟩ := R.M; exact ⟨es, ck, h1⟩
theorem RegAt.more (R : RegAt b h r m L) {b' : Nat} (hb : b ≤ b') (h1 : b' ≤ 1000) : RegAt b' h r m L := ⟨R.P, R.ne, R.M, fun q hq => by obtain ⟨a, b, c⟩ := R.T q hq; exact ⟨a, b, Nat.le_trans c hb⟩, R.n, h1⟩
theorem RegAt.nd (R : RegAt b h r m L) : (L.map (·.1)).Nodup := by
  obtain ⟨es, ck, _, hs, _, hl⟩ := R.M
  have h1 := hs.2.2
  have e : es.toList.map (·.key) = (L.map (·.1)).map Value.string := by
    have := congrArg (List.map (·.1)) hl
    rw [List.map_map, List.map_map, List.map_map] at this
    rw [List.map_map]; exact this
  rw [e] at h1
  have h2 := List.nodup_iff_pairwise_ne.1 h1
  rw [List.pairwise_map] at h2
  exact List.nodup_iff_pairwise_ne.2 (h2.imp fun h e => h (congrArg _ e))
/-- what another map's registry suffers leaves this one as it was -/
theorem RegAt.other (R : RegAt b h r m L) (M : ∃ es ck, h[m']? = some (.map es ck)) (hne : m ≠ m') (U : Upd m' h h') : RegAt b h' r m L := by
  obtain ⟨es', ck', M'⟩ := M
  have rm : r ≠ m' := fun e => by subst e; exact Blk.notMap R.P _ _ M'
  obtain ⟨es, ck, M0⟩ := R.map
  refine ⟨R.P.old (U.block r R.P.lt rm), R.ne, R.M.old (U.block m R.M.lt hne), fun q hq => ?_, R.n, R.hb⟩
  obtain ⟨a, t, c⟩ := R.T q hq
  refine ⟨a, fun h2 U2 => ?_, c⟩
  refine (t h (Upd.refl _ _)).mp fun g hg hm => ?_
  have g1 : g ≠ m' := fun e => hm _ _ (e ▸ M')
  have g2 : g ≠ m := fun e => hm _ _ (e ▸ M0)
  rw [U2.block g (by have := U.size; omega) g2, U.block g hg g1]
theorem Apply2_ok {c : S_api_Command} {wr : List Int} {k : Int → Heap → Prop} (R : RegAt b h r m L) (hb : b + 1 ≤ 1000) (A : CmdAt h c wr) (ht : c.f_Tenant.size ≤ 100000) (wl : wr.length ≤ 100000)
    (H : ∀ L' h', RegAt (b + 1) h' r m L' → absL L' = (stepR (absL L) c wr).2 → (∀ p ∈ L', p ∈ L ∨ p.1 = c.f_Tenant) → Upd m h h' → k (stepR (absL L) c wr).1 h') : reg_Reg_Apply (some ⟨r, 0, none⟩) c k h := by
  refine Apply_ok R hb A ht wl (fun h' hne X => ?_) fun t' zs' h' he k0 ab R' U => ?_
  · have e : (stepR (absL L) c wr).2 = absL L := by
      show (if applyB c wr.length (absL L) = 0 ∧ c.f_Kind ≠ 0 then _ else _) = _
      rw [if_neg]
      rw [← applyE_abs]
      intro hh
      rcases hne with h1 | h1
      · exact h1 hh.1
      · exact hh.2 h1
    have := H L h' ((R.ext X).more (Nat.le_succ b) hb) e.symm (fun p hp => .inl hp) (Upd.of_ext X)
    have e2 : (stepR (absL L) c wr).1 = applyE c wr.length L := (applyE_abs c wr.length L).symm
    rw [e2] at this; exact this
  · have e1 : applyB c wr.length (absL L) = 0 := by rw [← applyE_abs]; exact he
    have := H _ h' R' (by
      show absL (mput L c.f_Tenant (t', zs')) = if applyB c wr.length (absL L) = 0 ∧ c.f_Kind ≠ 0 then _ else _
      rw [if_pos ⟨e1, k0⟩]
      unfold absL
      rw [← mput_map absT c.f_Tenant (t', zs') L, ab]
      have : (mget (L.map fun q => (q.1, absT q.2)) c.f_Tenant).getD zAT = absT ((mget L c.f_Tenant).getD zTZ) := by
        rw [mget_map absT c.f_Tenant L]
        cases mget L c.f_Tenant <;> rfl
      rw [this]) (fun p hp => by
        rcases mput_mem hp with rfl | hp
        · exact .inr rfl
        · exact .inl hp) U
    have e2 : (stepR (absL L) c wr).1 = 0 := e1
    rw [e2] at this; exact this
end
/-! ### the tenants told -/
theorem srtS_eq {l l' : List ByteArray} (hp : l.Perm l') : srtS l = srtS l' := by
  unfold srtS
  have := Go.mergeSort_of_perm (hp.map fun t => t.data.toList)
  exact congrArg _ this
theorem tenL_ext {A B : AG} (h : ∀ n, mget A n = mget B n) (nA : (A.map (·.1)).Nodup) (nB : (B.map (·.1)).Nodup) : tenL A = tenL B := by
  have pm : (A.map (·.1)).Perm (B.map (·.1)) := (List.perm_ext_iff_of_nodup nA nB).2 fun n => by rw [mem_keys, mem_keys, h n]
  unfold tenL
  rw [srtS_eq pm]
  refine List.map_congr_left fun n _ => ?_
  rw [h n]
theorem tenL_mem {A : AG} {p : ByteArray × AT} (h : p ∈ tenL A) : mget A p.1 = some p.2 := by
  unfold tenL at h
  obtain ⟨n, hn, rfl⟩ := List.mem_map.1 h
  have h1 := (srtS_perm _).mem_iff.1 hn
  rw [mem_keys] at h1
  dsimp only
  cases hm : mget A n with
  | none => rw [hm] at h1; cases h1
  | some t => rfl
theorem tenL_of {A : AG} {n : ByteArray} {t : AT} (h : mget A n = some t) : (n, t) ∈ tenL A := by
  have h1 : n ∈ A.map (·.1) := mem_keys.2 (by rw [h]; rfl)
  unfold tenL
  refine List.mem_map.2 ⟨n, (srtS_perm _).mem_iff.2 h1, ?_⟩
  rw [h]; rfl
theorem tenL_len (A : AG) : (tenL A).length = A.length := by unfold tenL; rw [List.length_map, srtS_len, List.length_map]
/-! ### commands that come as an argument -/
def Cmds (W : Heap) (s : Slc) (l : List (S_api_Command × List Int)) : Prop := LsAt S_api_Command.cs 17 W s (l.map (·.1)) ∧ (∀ p ∈ l, CmdAt W p.1 p.2) ∧ s.len ≤ maxLen
theorem Cmds.len {W : Heap} {s : Slc} {l : List (S_api_Command × List Int)} (S : Cmds W s l) : s.len = l.length := by have := S.1.l; simpa using this
theorem Cmds.ext {W h : Heap} {s : Slc} {l : List (S_api_Command × List Int)} (S : Cmds W s l) (X : Ext W.size W h) : Cmds h s l := ⟨S.1.ext X, fun p hp => (S.2.1 p hp).ext X, S.2.2⟩
theorem Cmds.at {W h : Heap} {s : Slc} {l : List (S_api_Command × List Int)} (S : Cmds W s l) (X : Ext W.size W h) {i : Nat} {p : S_api_Command × List Int} (hx : l[i]? = some p) : ∃ a, s.a = some a ∧ CellsAt h (a.add (i * 17)) (S_api_Command.cs p.1) ∧ CmdAt h p.1 p.2 := by
  obtain ⟨a, ha, C⟩ := (S.1.ext X).at' i p.1 (by rw [List.getElem?_map, hx]; rfl)
  exact ⟨a, ha, C, (S.2.1 p (List.mem_of_getElem? hx)).ext X⟩
theorem G25_ok {h : Heap} {s : Slc} {l : List (S_api_Command × List Int)} {N : Nat} {k : Bool → Heap → Prop} (S : Cmds h s l) (hN : N ≤ 1000) (H : ∀ r, (r = false → l.length ≤ N ∧ ∀ p ∈ l, p.1.f_Tenant.size ≤ 100 ∧ p.2.length ≤ 200) → k r h) : ref25_Great s (N : Int) k h := by
  have n1 := S.len
  have m1 : s.len ≤ 9223372036854775807 := S.2.2
  unfold ref25_Great
  refine ⟨fun i h' => 0 ≤ i ∧ i ≤ l.length ∧ i ≤ N ∧ (∀ p ∈ l.take i.toNat, p.1.f_Tenant.size ≤ 100 ∧ p.2.length ≤ 200) ∧ h' = h, fun i _ => (l.length - i).toNat, ⟨by omega, by omega, by omega, by simp, rfl⟩, ?_⟩
  rintro i h' ⟨i0, i1, i2, ha, e⟩
  subst e
  unfold ref25_Great_l1b
  by_cases hi : i < l.length ∧ i < N
  · rw [if_pos (by rw [Bool.and_eq_true, decide_eq_true_eq, decide_eq_true_eq]; omega)]
    have hx : l[i.toNat]? = some (l[i.toNat]'(by omega)) := by simp
    generalize l[i.toNat]'(by omega) = p at *
    obtain ⟨a, h1, C, K⟩ := S.at (Ext.refl _ _) hx
    refine ⟨a, h1, i0, by omega, p.1.f_Tenant, C 1 _ rfl, ?_⟩
    by_cases hb : p.1.f_Tenant.size > 100
    · rw [if_pos (by rw [decide_eq_true_eq]; omega)]
      unfold ref25_Great_g2
      rw [if_pos rfl]
      exact H true fun e => by cases e
    · rw [if_neg (by rw [decide_eq_true_eq]; omega)]
      refine ⟨a, h1, i0, by omega, p.1.f_Wrapped, C 15 _ rfl, ?_⟩
      have wl := K.wl
      unfold ref25_Great_g2
      by_cases hw : p.2.length > 200
      · rw [if_pos (by rw [decide_eq_true_eq]; omega)]
        exact H true fun e => by cases e
      · rw [if_neg (by rw [decide_eq_true_eq]; omega), wrapI64 (by omega) (by omega)]
        refine ⟨_, rfl, ⟨by omega, by omega, by omega, fun q hq => ?_, rfl⟩, by dsimp only; omega⟩
        rw [show (i + 1).toNat = i.toNat + 1 from by omega, List.take_add_one, hx] at hq
        simp only [Option.toList_some, List.mem_append, List.mem_singleton] at hq
        rcases hq with hq | rfl
        · exact ha q hq
        · exact ⟨by omega, by omega⟩
  · rw [if_neg (by rw [Bool.and_eq_true, decide_eq_true_eq, decide_eq_true_eq]; omega)]
    refine H _ fun hr => ?_
    rw [decide_eq_false_iff_not] at hr
    have hl : l.length ≤ N := by omega
    rw [List.take_of_length_le (by omega)] at ha
    exact ⟨hl, ha⟩
/-! ### two commands to two tenants -/
theorem askB_n {c : S_api_Command} {o : Option AT} {n n' : Nat} (h : n < 8) (h' : n' < 8) : askB c o n = askB c o n' := by
  unfold askB
  have e : ∀ n : Nat, n < 8 → ¬ (c.f_Kind = 1 ∧ n ≥ 8) := fun n hn hh => by omega
  rw [if_neg (e n h), if_neg (e n' h')]
theorem mget_step (A : AG) (c : S_api_Command) (wr : List Int) (n : ByteArray) : mget (stepR A c wr).2 n = if (applyB c wr.length A = 0 ∧ c.f_Kind ≠ 0) ∧ n = c.f_Tenant then some (newT c wr ((mget A c.f_Tenant).getD zAT)) else mget A n := by
  show mget (if applyB c wr.length A = 0 ∧ c.f_Kind ≠ 0 then _ else _) n = _
  by_cases h : applyB c wr.length A = 0 ∧ c.f_Kind ≠ 0
  · rw [if_pos h, mget_put2]
    by_cases hn : n = c.f_Tenant
    · rw [if_pos hn, if_pos ⟨h, hn⟩]
    · rw [if_neg hn, if_neg (fun e => hn e.2)]
  · rw [if_neg h, if_neg (fun e => h e.1)]
theorem len_step (A : AG) (c : S_api_Command) (wr : List Int) : (stepR A c wr).2.length ≤ A.length + 1 := by
  show (if applyB c wr.length A = 0 ∧ c.f_Kind ≠ 0 then _ else _ : AG).length ≤ _
  split
  · rw [mput_len]; split <;> omega
  · omega
theorem nd_step {A : AG} (c : S_api_Command) (wr : List Int) (h : (A.map (·.1)).Nodup) : ((stepR A c wr).2.map (·.1)).Nodup := by
  show ((if applyB c wr.length A = 0 ∧ c.f_Kind ≠ 0 then _ else _ : AG).map (·.1)).Nodup
  split
  · exact keys_put2 _ _ _ h
  · exact h
theorem apart {A : AG} {a b : S_api_Command} {wa wb : List Int} (ne : a.f_Tenant ≠ b.f_Tenant) (hl : A.length ≤ 6) (nd : (A.map (·.1)).Nodup) :
    applyB a wa.length (stepR A b wb).2 = applyB a wa.length A ∧ tenL (stepR (stepR A a wa).2 b wb).2 = tenL (stepR (stepR A b wb).2 a wa).2 := by
  have same : ∀ (x y : S_api_Command) (wx wy : List Int), x.f_Tenant ≠ y.f_Tenant → applyB x wx.length (stepR A y wy).2 = applyB x wx.length A := fun x y wx wy hne => by
    unfold applyB
    have e : mget (stepR A y wy).2 x.f_Tenant = mget A x.f_Tenant := by rw [mget_step, if_neg (fun e => hne e.2)]
    have l := len_step A y wy
    rw [e, askB_n (n := (stepR A y wy).2.length) (n' := A.length) (by omega) (by omega)]
  have g : ∀ (x y : S_api_Command) (wx wy : List Int), x.f_Tenant ≠ y.f_Tenant → mget (stepR A y wy).2 x.f_Tenant = mget A x.f_Tenant := fun x y wx wy hne => by rw [mget_step, if_neg (fun e => hne e.2)]
  refine ⟨same a b wa wb ne, tenL_ext (fun n => ?_) (nd_step _ _ (nd_step _ _ nd)) (nd_step _ _ (nd_step _ _ nd))⟩
  have ga := g a b wa wb ne
  have gb := g b a wb wa fun e => ne e.symm
  rw [mget_step (stepR A a wa).2 b wb n, mget_step (stepR A b wb).2 a wa n, ga, gb, same a b wa wb ne, same b a wb wa (fun e => ne e.symm), mget_step A a wa n, mget_step A b wb n]
  by_cases h1 : n = a.f_Tenant
  · by_cases h2 : n = b.f_Tenant
    · exact absurd (h1.symm.trans h2) ne
    · rw [if_neg (fun e => h2 e.2), if_neg (c := (applyB b wb.length A = 0 ∧ b.f_Kind ≠ 0) ∧ n = b.f_Tenant) (fun e => h2 e.2)]
  · rw [if_neg (c := (applyB a wa.length A = 0 ∧ a.f_Kind ≠ 0) ∧ n = a.f_Tenant) (fun e => h1 e.2), if_neg (c := (applyB a wa.length A = 0 ∧ a.f_Kind ≠ 0) ∧ n = a.f_Tenant) (fun e => h1 e.2)]
end Go.Q.Yb
set_option linter.unusedVariables false
set_option linter.unusedSimpArgs false
namespace Go.Q.Yb
theorem RegAt.kl {b : Nat} {h : Heap} {r m : Nat} {L : List (ByteArray × TZ)} (R : RegAt b h r m L) : ∀ x ∈ tenL (absL L), x.2.2.2.length ≤ 1000000 := fun x hx => by
  have h1 := tenL_mem hx
  rw [absL_get] at h1
  cases hg : mget L x.1 with
  | none => rw [hg] at h1; cases h1
  | some q =>
    rw [hg] at h1
    have h2 := Option.some.inj h1
    obtain ⟨_, _, h3⟩ := R.T _ (mget_mem hg)
    have h4 := R.hb
    rw [← h2]
    show (q.2.map absK).length ≤ _
    rw [List.length_map]
    simp only at h3; omega
theorem cmdC {h : Heap} {b : Nat} {c : S_api_Command} (P : Blk h b (S_api_Command.cs c) 32) : CellsAt h ⟨b, 0, none⟩ (S_api_Command.cs c) := P.part (n := 17) rfl
theorem Apart_ok {W : Heap} {s : Slc} {l : List (S_api_Command × List Int)} {a b : S_api_Command} {wa wb : List Int} {k : Bool → Heap → Prop}
    (S : Cmds W s l) (A : CmdAt W a wa) (B : CmdAt W b wb) (H : ∀ h', Ext W.size W h' → k true h') : law25_RegApart s a b k W := by
  have n1 := S.len
  have m1 : s.len ≤ 9223372036854775807 := S.2.2
  unfold law25_RegApart
  refine ⟨_, _, rfl, rfl, _, _, rfl, rfl, ?_⟩
  have P := Blk.push W (S_api_Command.cs a) 32
  have W2 := Ext.push W (.cells (S_api_Command.cs a).toArray 32) (Nat.le_refl _)
  have pl := P.lt
  generalize W.push (.cells (S_api_Command.cs a).toArray 32) = h2 at *
  have z2 := W2.size
  have Q := Blk.push h2 (S_api_Command.cs b) 32
  have W3 := Ext.push h2 (.cells (S_api_Command.cs b).toArray 32) (Nat.le_refl _)
  have ql := Q.lt
  generalize h2.push (.cells (S_api_Command.cs b).toArray 32) = h4 at *
  have P4 := P.ext W3 pl
  have X4 : Ext W.size W h4 := W2.trans (W3.mono z2)
  have z4 := W3.size
  generalize h2.size = b3 at *
  generalize eW : W.size = b1 at *
  have S4 := S.ext (by rw [eW]; exact X4)
  have A4 := A.ext (by rw [eW]; exact X4)
  have B4 := B.ext (by rw [eW]; exact X4)
  have dead : ∀ {h'}, Ext b1 W h' → law25_RegApart_g2 s ⟨b1, 0, none⟩ ⟨b3, 0, none⟩ true k h' := fun X => by
    unfold law25_RegApart_g2
    rw [if_pos rfl]
    exact awake25_ok fun h'' X2 => H h'' (X.trans (X2.mono (by have := X.size; omega)))
  have dead1 : ∀ {h'}, Ext b1 W h' → law25_RegApart_g1 s ⟨b1, 0, none⟩ ⟨b3, 0, none⟩ true k h' := fun X => by
    unfold law25_RegApart_g1
    rw [if_pos rfl]
    exact dead X
  refine G25_ok (N := 20) S4 (by omega) fun r1 hr1 => ?_
  cases r1 with
  | true => rw [if_pos rfl]; exact dead1 X4
  | false =>
  rw [if_neg (by simp)]
  obtain ⟨ll, sm⟩ := hr1 rfl
  refine ⟨a, cmdC P4, b, cmdC Q, _, _, rfl, rfl, ?_⟩
  have U := Blk.push h4 (S_api_Command.cs a ++ S_api_Command.cs b) 32
  have W5 := Ext.push h4 (.cells (S_api_Command.cs a ++ S_api_Command.cs b).toArray 32) (Nat.le_refl _)
  generalize h4.push (.cells (S_api_Command.cs a ++ S_api_Command.cs b).toArray 32) = h5 at *
  have z5 := W5.size
  have X5 : Ext b1 W h5 := X4.trans (W5.mono (by omega))
  have P5 := P4.ext W5 (by omega)
  have Q5 := Q.ext W5 (by omega)
  have A5 := A4.ext W5
  have B5 := B4.ext W5
  have S5 := S4.ext W5
  have S2 : Cmds h5 ⟨some ⟨h4.size, 0, none⟩, 2, 2⟩ [(a, wa), (b, wb)] := by
    refine ⟨⟨rfl, fun i x hx => ⟨_, rfl, ?_⟩⟩, fun p hp => ?_, by simp only [maxLen]; omega⟩
    · rw [add_mk, Nat.zero_add]
      match i, hx with
      | 0, hx => cases hx; exact U.part (n := 17) rfl
      | 1, hx => cases hx; exact U.part (n := 17) rfl
    · rcases List.mem_cons.1 hp with rfl | hp
      · exact A5
      · simp at hp; subst hp; exact B5
  refine G25_ok (N := 2) S2 (by omega) fun r2 hr2 => ?_
  cases r2 with
  | true => exact dead1 X5
  | false =>
  obtain ⟨_, sm2⟩ := hr2 rfl
  obtain ⟨ta, la⟩ := sm2 (a, wa) (by simp)
  obtain ⟨tb, lb⟩ := sm2 (b, wb) (by simp)
  dsimp only at ta la tb lb
  unfold law25_RegApart_g1
  rw [if_neg (by simp)]
  refine ⟨a.f_Tenant, by rw [add_mk, P5.cell]; rfl, b.f_Tenant, by rw [add_mk, Q5.cell]; rfl, ?_⟩
  rw [ba_eq]
  by_cases ne : a.f_Tenant = b.f_Tenant
  · rw [show decide (a.f_Tenant = b.f_Tenant) = true from decide_eq_true ne]
    exact dead X5
  rw [show decide (a.f_Tenant = b.f_Tenant) = false from decide_eq_false ne]
  unfold law25_RegApart_g2
  rw [if_neg (by simp)]
  refine New_ok fun r m h6 R6 r0 m0 X6 => ?_
  have z6 := X6.size
  refine New_ok fun r' m' h7 R7' r0' m0' X7 => ?_
  have z7 := X7.size
  have R7 := R6.ext X7
  have ml := R6.M.lt
  have hmm : m ≠ m' := by omega
  have X57 : Ext h5.size h5 h7 := X6.trans (X7.mono z6)
  unfold law25_RegApart_l3
  refine ⟨fun i h' => 0 ≤ i ∧ i ≤ l.length ∧ Ext h5.size h5 h' ∧ ∃ LA LB, RegAt i.toNat h' r m LA ∧ RegAt i.toNat h' r' m' LB ∧ absL LA = absL LB ∧ (∀ p ∈ LA, p.1.size ≤ 100) ∧ (∀ p ∈ LB, p.1.size ≤ 100), fun i _ => (l.length - i).toNat,
    ⟨by omega, by omega, X57, [], [], R7, R7', rfl, by simp, by simp⟩, ?_⟩
  rintro i h8 ⟨i0, i1, X8, LA, LB, RA, RB, eAB, nA, nB⟩
  have z8 := X8.size
  unfold law25_RegApart_l3b
  by_cases hi : i < l.length
  · rw [if_pos (by rw [decide_eq_true_eq]; omega)]
    have hx : l[i.toNat]? = some (l[i.toNat]'(by omega)) := by simp
    generalize l[i.toNat]'(by omega) = p at *
    obtain ⟨sp, sw⟩ := sm p (List.mem_of_getElem? hx)
    obtain ⟨ad, had, C, K⟩ := S5.at X8 hx
    refine ⟨ad, had, i0, by omega, p.1, C, Apply2_ok RA (by omega) K (by omega) (by omega) fun LA' h9 RA' eA' mA' U9 => ?_⟩
    have X9 : Ext h5.size h5 h9 := X8.trans (U9.ext (by omega) z8)
    obtain ⟨ad2, had2, C2, K2⟩ := S5.at X9 hx
    have RB9 := RB.other RA.map (fun e => hmm e.symm) U9
    refine ⟨ad2, had2, i0, by omega, p.1, C2, Apply2_ok RB9 (by omega) K2 (by omega) (by omega) fun LB' h10 RB' eB' mB' U10 => ?_⟩
    have RA10 := RA'.other RB9.map hmm U10
    refine ⟨_, rfl, ?_⟩
    rw [wrapI64 (by omega) (by omega)]
    have z9 := X9.size
    dsimp only
    rw [show (i + 1).toNat = i.toNat + 1 from by omega]
    refine ⟨⟨by omega, by omega, X9.trans (U10.ext (by omega) z9), LA', LB', RA10, RB', by rw [eA', eB', eAB], fun q hq => ?_, fun q hq => ?_⟩, by omega⟩
    · rcases mA' q hq with h | h
      · exact nA q h
      · rw [h]; omega
    · rcases mB' q hq with h | h
      · exact nB q h
      · rw [h]; omega
  rw [if_neg (by rw [decide_eq_true_eq]; omega)]
  refine Tenants_ok RA (fun p hp => Nat.le_trans (nA p hp) (by omega)) fun s9 h9 T9 X9 => ?_
  have z9 := X9.size
  have X59 := X8.trans (X9.mono z8)
  have l9 : s9.len = (absL LA).length := by rw [T9.len, tenL_len]
  by_cases h6' : (absL LA).length > 6
  · rw [if_pos (by rw [decide_eq_true_eq]; omega)]
    exact awake25_ok fun h' X' => H h' (X5.trans ((X59.trans (X'.mono X59.size)).mono (by have := X5.size; omega)))
  rw [if_neg (by rw [decide_eq_true_eq]; omega)]
  have PP : ∀ {h'}, Ext h5.size h5 h' → Blk h' b1 (S_api_Command.cs a) 32 := fun X => P5.ext X P5.lt
  have QQ : ∀ {h'}, Ext h5.size h5 h' → Blk h' b3 (S_api_Command.cs b) 32 := fun X => Q5.ext X Q5.lt
  have RA9 := RA.ext X9
  have RB9 := RB.ext X9
  refine ⟨a, cmdC (PP X59), b, cmdC (QQ X59), Apply2_ok RA9 (by omega) (A5.ext X59) (by omega) (by omega) fun L1 h10 R1 e1 m1 U10 => ?_⟩
  have z59 := X59.size
  have X510 := X59.trans (U10.ext (by omega) z59)
  have RB10 := RB9.other RA9.map (fun e => hmm e.symm) U10
  have z510 := X510.size
  refine ⟨cmdC (QQ X510), Apply2_ok R1 (by omega) (B5.ext X510) (by omega) (by omega) fun L2 h11 R2 e2 m2 U11 => ?_⟩
  have X511 := X510.trans (U11.ext (by omega) z510)
  have z511 := X511.size
  have RB11 := RB10.other R1.map (fun e => hmm e.symm) U11
  refine ⟨b, cmdC (QQ X511), a, cmdC (PP X511), Apply2_ok RB11 (by omega) (B5.ext X511) (by omega) (by omega) fun L3 h12 R3 e3 m3 U12 => ?_⟩
  have X512 := X511.trans (U12.ext (by omega) z511)
  have z512 := X512.size
  have R212 := R2.other RB11.map hmm U12
  refine ⟨cmdC (PP X512), Apply2_ok R3 (by omega) (A5.ext X512) (by omega) (by omega) fun L4 h13 R4 e4 m4 U13 => ?_⟩
  have X513 := X512.trans (U13.ext (by omega) z512)
  have z513 := X513.size
  have R213 := R212.other R3.map hmm U13
  have nd : ((absL LA).map (·.1)).Nodup := by rw [absL_keys]; exact RA.nd
  obtain ⟨g1, g2⟩ := apart (wa := wa) (wb := wb) ne (by omega) nd
  obtain ⟨g3, _⟩ := apart (wa := wb) (wb := wa) (a := b) (b := a) (fun e => ne e.symm) (by omega) nd
  have q1 : (stepR (absL L3) a wa).1 = (stepR (absL LA) a wa).1 := by rw [e3, ← eAB]; exact g1
  have q2 : (stepR (absL L1) b wb).1 = (stepR (absL LB) b wb).1 := by rw [e1, ← eAB]; exact g3
  have q3 : tenL (absL L2) = tenL (absL L4) := by rw [e2, e4, e1, e3, ← eAB]; exact g2
  rw [q1, q2, if_pos (by simp)]
  have n2 : ∀ p ∈ L2, p.1.size ≤ 100000 := fun p hp => by
    rcases m2 p hp with h | h
    · rcases m1 p h with h | h
      · exact Nat.le_trans (nA p h) (by omega)
      · rw [h]; omega
    · rw [h]; omega
  have n4 : ∀ p ∈ L4, p.1.size ≤ 100000 := fun p hp => by
    rcases m4 p hp with h | h
    · rcases m3 p h with h | h
      · exact Nat.le_trans (nB p h) (by omega)
      · rw [h]; omega
    · rw [h]; omega
  refine Tenants_ok R213 n2 fun s14 h14 T14 X14 => ?_
  refine Tenants_ok (R4.ext X14) n4 fun s15 h15 T15 X15 => ?_
  have tl : (tenL (absL L2)).length ≤ 1000000 := by
    have := R2.n
    rw [tenL_len, absL_len]; omega
  refine STenants_ok (T14.ext X15) T15 tl R2.kl fun h16 X16 => ?_
  rw [show decide (tenL (absL L2) = tenL (absL L4)) = true from decide_eq_true q3]
  unfold law25_RegApart_g4
  rw [if_pos rfl]
  refine awake25_ok fun h17 X17 => ?_
  unfold law25_RegApart_g5
  have X1416 := X15.trans (X16.mono X15.size)
  have XX := X14.trans ((X1416.trans (X17.mono X1416.size)).mono X14.size)
  exact H h17 (X5.trans ((X513.trans (XX.mono z513)).mono (by have := X5.size; omega)))
end Go.Q.Yb
set_option linter.unusedVariables false
set_option linter.unusedSimpArgs false
namespace Go.Q.Yb
/-! ### what holds of every tenant -/
def KI (t : AT) : Prop := (t.2.1 = true ↔ t.2.2 = []) ∧ ∃ a : Int, 0 ≤ a ∧ a + t.2.2.length ≤ 4294967296 ∧ ∀ (i : Nat) x, t.2.2[i]? = some x → x.1 = a + i
theorem epB_last {ks : List AK} {a : Int} (h : ∀ (i : Nat) x, ks[i]? = some x → x.1 = a + i) (n : ks ≠ []) : epB ks = a + ks.length - 1 := by
  unfold epB
  have : 0 < ks.length := List.length_pos_iff.2 n
  rw [List.getLast?_eq_getElem?]
  have hx : ks[ks.length - 1]? = some (ks[ks.length - 1]'(by omega)) := by simp
  rw [hx]
  dsimp only
  rw [h _ _ hx]; omega
theorem filt : ∀ (ks : List AK) (a e : Int), (∀ (i : Nat) x, ks[i]? = some x → x.1 = a + i) → (ks.filter fun x => !decide (x.1 < e)) = ks.drop (e - a).toNat
  | [], _, _, _ => by simp
  | y :: r, a, e, h => by
    have h0 : y.1 = a := by have := h 0 y rfl; omega
    have hr : ∀ (i : Nat) x, r[i]? = some x → x.1 = (a + 1) + i := fun i x hx => by
      have := h (i + 1) x (by simpa using hx)
      omega
    have ih := filt r (a + 1) e hr
    rw [List.filter_cons]
    by_cases hy : y.1 < e
    · rw [if_neg (by simp [hy]), ih, show (e - a).toNat = (e - (a + 1)).toNat + 1 from by omega, List.drop_succ_cons]
    · rw [if_pos (by simp [hy]), ih, show (e - a).toNat = 0 from by omega, show (e - (a + 1)).toNat = 0 from by omega, List.drop_zero, List.drop_zero]
theorem one {c : S_api_Command} {wr : List Int} {o : Option AT} {n : Nat} (h0 : (if mayR c wr.length = true then askB c o n else 1) = 0) (k0 : c.f_Kind ≠ 0) (ep : 0 ≤ c.f_Epoch ∧ c.f_Epoch < 4294967296) (hi : ∀ t, o = some t → KI t) :
    KI (newT c wr (o.getD zAT)) ∧ ∀ t, o = some t → t.1 ≤ (newT c wr (o.getD zAT)).1 ∧ (t.2.1 = true → (newT c wr (o.getD zAT)).2.1 = true) := by
  have hm : mayR c wr.length = true := by
    cases hq : mayR c wr.length with
    | true => rfl
    | false => rw [hq] at h0; simp at h0
  rw [if_pos hm] at h0
  obtain ⟨kk, _⟩ := mayR_kind hm k0
  unfold askB at h0
  rw [if_neg k0] at h0
  unfold newT
  by_cases k1 : c.f_Kind = 1
  · rw [if_pos k1]
    cases o with
    | some t => rw [if_pos ⟨k1, rfl⟩] at h0; cases h0
    | none =>
      refine ⟨⟨by simp, c.f_Epoch, ep.1, by simp; omega, fun i x hx => ?_⟩, fun t ht => by cases ht⟩
      match i, hx with
      | 0, hx => cases hx; simp
      | i + 1, hx => simp at hx
  rw [if_neg k1]
  rw [if_neg (fun e => k1 e.1), if_neg (fun e => k1 e.1)] at h0
  cases o with
  | none => rw [if_pos ⟨k1, rfl⟩] at h0; cases h0
  | some t =>
  rw [if_neg (by simp)] at h0
  simp only [Option.getD_some] at h0 ⊢
  obtain ⟨hs, a, a0, a1, ha⟩ := hi t rfl
  by_cases k5 : c.f_Kind = 5
  · rw [if_neg (by omega), if_neg (by omega), if_neg (by omega), if_pos k5]
    refine ⟨⟨by simp, 0, by omega, by simp, fun i x hx => by simp at hx⟩, fun u hu => ?_⟩
    cases hu
    exact ⟨Int.le_refl _, fun _ => rfl⟩
  have ns : t.2.1 = false := by
    cases hq : t.2.1 with
    | false => rfl
    | true => rw [if_pos ⟨hq, k5⟩] at h0; cases h0
  rw [if_neg (by rw [ns]; simp), if_neg k1] at h0
  have nk : t.2.2 ≠ [] := fun e => by have := hs.2 e; rw [ns] at this; cases this
  have el := epB_last ha nk
  have lp : 0 < t.2.2.length := List.length_pos_iff.2 nk
  by_cases k2 : c.f_Kind = 2
  · rw [if_pos k2] at h0 ⊢
    have q : epB t.2.2 ≠ 4294967295 ∧ c.f_Epoch = IntKind.u32.wrap (epB t.2.2 + 1) := by
      by_cases q1 : epB t.2.2 = 4294967295
      · rw [if_pos q1] at h0; simp at h0
      · refine ⟨q1, ?_⟩
        rw [if_neg q1] at h0
        by_cases q2 : c.f_Epoch = IntKind.u32.wrap (epB t.2.2 + 1)
        · exact q2
        · rw [if_pos (by simpa using q2)] at h0; cases h0
    have qe : c.f_Epoch = a + t.2.2.length := by
      rw [q.2, wrapU32 (by omega) (by omega)]; omega
    refine ⟨⟨by rw [ns]; simp, a, a0, by simp; omega, fun i x hx => ?_⟩, fun u hu => ?_⟩
    · dsimp only at hx
      by_cases hi : i < t.2.2.length
      · rw [List.getElem?_append_left hi] at hx; exact ha i x hx
      · rw [List.getElem?_append_right (by omega)] at hx
        match h : i - t.2.2.length, hx with
        | 0, hx => cases hx; dsimp only; omega
        | j + 1, hx => simp at hx
    · cases hu; exact ⟨Int.le_refl _, fun e => by rw [ns] at e; cases e⟩
  rw [if_neg k2] at h0 ⊢
  by_cases k3 : c.f_Kind = 3
  · rw [if_pos k3] at h0 ⊢
    have q : ¬ c.f_Epoch > epB t.2.2 := fun e => by rw [if_pos (by simpa using e)] at h0; cases h0
    rw [filt _ a _ ha]
    have dl : (t.2.2.drop (c.f_Epoch - a).toNat).length = t.2.2.length - (c.f_Epoch - a).toNat := List.length_drop
    have dn : t.2.2.drop (c.f_Epoch - a).toNat ≠ [] := fun e => by rw [e] at dl; simp at dl; omega
    refine ⟨⟨by rw [ns]; simpa using dn, a + (c.f_Epoch - a).toNat, by omega, by dsimp only; rw [dl]; omega, fun i x hx => ?_⟩, fun u hu => ?_⟩
    · dsimp only at hx
      rw [List.getElem?_drop] at hx
      have := ha _ x hx
      omega
    · cases hu; exact ⟨Int.le_refl _, fun e => by rw [ns] at e; cases e⟩
  rw [if_neg k3] at h0 ⊢
  have k4 : c.f_Kind = 4 := by omega
  rw [if_pos k4] at h0 ⊢
  have q : ¬ c.f_Horizon < t.1 := fun e => by rw [if_pos (by simpa using e)] at h0; cases h0
  refine ⟨⟨hs, a, a0, a1, ha⟩, fun u hu => ?_⟩
  cases hu
  exact ⟨by dsimp only; omega, fun e => by rw [ns] at e; cases e⟩
theorem step_keep {A : AG} {c : S_api_Command} {wr : List Int} (ep : 0 ≤ c.f_Epoch ∧ c.f_Epoch < 4294967296) (hi : ∀ n t, mget A n = some t → KI t) :
    (∀ n t, mget (stepR A c wr).2 n = some t → KI t) ∧ (∀ n t, mget A n = some t → ∃ t', mget (stepR A c wr).2 n = some t' ∧ t.1 ≤ t'.1 ∧ (t.2.1 = true → t'.2.1 = true)) := by
  have key : ∀ n, (applyB c wr.length A = 0 ∧ c.f_Kind ≠ 0) ∧ n = c.f_Tenant → _ := fun n h => one (c := c) (wr := wr) (o := mget A c.f_Tenant) (n := A.length) h.1.1 h.1.2 ep (hi _)
  refine ⟨fun n t ht => ?_, fun n t ht => ?_⟩
  · rw [mget_step] at ht
    by_cases h : (applyB c wr.length A = 0 ∧ c.f_Kind ≠ 0) ∧ n = c.f_Tenant
    · rw [if_pos h] at ht
      cases ht
      exact (key n h).1
    · rw [if_neg h] at ht; exact hi n t ht
  · rw [mget_step]
    by_cases h : (applyB c wr.length A = 0 ∧ c.f_Kind ≠ 0) ∧ n = c.f_Tenant
    · rw [if_pos h]
      refine ⟨_, rfl, ?_⟩
      have := (key n h).2 t (by rw [← h.2]; exact ht)
      exact this
    · rw [if_neg h]; exact ⟨t, ht, Int.le_refl _, id⟩
end Go.Q.Yb
