/- A part of the proof of statements of this seat: lemmas, no statement of their own. -/
import Derived.Test.YtcmbgfmbmbgbiaaYbRgK
set_option linter.unusedVariables false
set_option linter.unusedSimpArgs false
namespace Go.Q.Yb
/-! ### an act, plainly -/
def applyB (c : S_api_Command) (n : Nat) (A : AG) : Int := if mayR c n = true then askB c (mget A c.f_Tenant) A.length else 1
def stepR (A : AG) (c : S_api_Command) (wr : List Int) : Int × AG :=
  (applyB c wr.length A, if applyB c wr.length A = 0 ∧ c.f_Kind ≠ 0 then mput A c.f_Tenant (newT c wr ((mget A c.f_Tenant).getD zAT)) else A)
theorem absL_len (L : List (ByteArray × TZ)) : (absL L).length = L.length := by unfold absL; rw [List.length_map]
theorem applyE_abs (c : S_api_Command) (n : Nat) (L : List (ByteArray × TZ)) : applyE c n L = applyB c n (absL L) := by
  unfold applyE applyB
  rw [askA_abs, absL_get, absL_len]
theorem mget_put2 {K V : Type} [DecidableEq K] (k j : K) (v : V) : ∀ l : List (K × V), mget (mput l k v) j = if j = k then some v else mget l j
  | [] => by
    show mget [(k, v)] j = _
    unfold mget
    by_cases h : j = k
    · rw [if_pos h.symm, if_pos h]
    · rw [if_neg (fun e => h e.symm), if_neg h]; rfl
  | p :: r => by
    have ih := mget_put2 k j v r
    unfold mput
    by_cases hp : p.1 = k
    · rw [if_pos hp]
      unfold mget
      by_cases h : j = k
      · rw [if_pos h.symm, if_pos h]
      · rw [if_neg (fun e => h e.symm), if_neg h, if_neg (fun e => h (e.symm.trans hp))]
    · rw [if_neg hp]
      unfold mget
      by_cases h : p.1 = j
      · rw [if_pos h, if_pos h, if_neg (fun e => hp (h.trans e))]
      · rw [if_neg h, if_neg h, ih]
theorem keys_put2 {K V : Type} [DecidableEq K] (k : K) (v : V) : ∀ l : List (K × V), (l.map (·.1)).Nodup → ((mput l k v).map (·.1)).Nodup
  | [], _ => by show [k].Nodup; simp
  | p :: r, h => by
    rw [List.map_cons, List.nodup_cons] at h
    unfold mput
    by_cases hp : p.1 = k
    · rw [if_pos hp, List.map_cons, List.nodup_cons]
      exact ⟨by rw [← hp]; exact h.1, h.2⟩
    · rw [if_neg hp, List.map_cons, List.nodup_cons]
      refine ⟨fun hm => ?_, keys_put2 k v r h.2⟩
      obtain ⟨q, hq, e⟩ := List.mem_map.1 hm
      rcases mput_mem hq with rfl | hq
      · exact hp e.symm
      · exact h.1 (List.mem_map.2 ⟨q, hq, e⟩)
theorem mem_keys {K V : Type} [DecidableEq K] {k : K} : ∀ {l : List (K × V)}, k ∈ l.map (·.1) ↔ (mget l k).isSome = true
  | [] => by simp [mget]
  | p :: r => by
    have ih := mem_keys (k := k) (l := r)
    unfold mget
    rw [List.map_cons, List.mem_cons]
    by_cases hp : p.1 = k
    · rw [if_pos hp]; simp [hp]
    · rw [if_neg hp, ← ih]
      exact ⟨fun h => h.elim (fun e => absurd e.symm hp) id, .inr⟩
/-! ### the registry at hand, and another -/
theorem Blk.notMap {h : Heap} {b E : Nat} {cs : List Value} (P : Blk h b cs E) : ∀ es ck, h[b]? ≠ some (.map es ck) := fun es ck e => by
  obtain ⟨_, _, p, _⟩ := P
  rw [p] at e; cases e
theorem cell_notMap {h : Heap} {a : Addr} {v : Value} (hc : cellH h a = some v) : ∀ es ck, h[a.block]? ≠ some (.map es ck) := fun es ck e => by
  unfold cellH at hc
  rw [e] at hc; cases hc
theorem KAt.mp {h h' : Heap} {s : Slc} {zs : List Z} (K : KAt h s zs) (e : ∀ g, g < h.size → (∀ es ck, h[g]? ≠ some (.map es ck)) → h'[g]? = h[g]?) : KAt h' s zs := by
  have cell : ∀ {a v}, cellH h a = some v → cellH h' a = some v := fun {a v} hc => by rw [cellH_of (e _ (cellH_lt hc) (cell_notMap hc))]; exact hc
  refine ⟨⟨K.1.l, fun i x hx => ?_⟩, fun z hz => ?_⟩
  · obtain ⟨a, ha, C⟩ := K.1.at' i x hx
    exact ⟨a, ha, fun j v hj => cell (C j v hj)⟩
  · obtain ⟨S, q⟩ := K.2 z hz
    exact ⟨⟨S.1, fun a ha j v hj => cell (S.2 a ha j v hj)⟩, q⟩
section
variable {b : Nat} {h h' : Heap} {r m r' m' : Nat} {L L' : List (ByteArray × TZ)}
theorem RegAt.map (R : RegAt b h r m L) : ∃ es ck, h[m]? = some (.map es ck) := by
  obtain ⟨es, ck, h1, _⟩ := R.M; exact ⟨es, ck, h1⟩
theorem RegAt.more (R : RegAt b h r m L) {b' : Nat} (hb : b ≤ b') (h1 : b' ≤ 1000) : RegAt b' h r m L := ⟨R.P, R.ne, R.M, fun q hq => by obtain ⟨a, b, c⟩ := R.T q hq; exact ⟨a, b, Nat.le_trans c hb⟩, R.n, h1⟩
theorem RegAt.nd (R : RegAt b h r m L) : (L.map (·.1)).Nodup := by
  obtain ⟨es, ck, _, hs, _, hl⟩ := R.M
  have h1 := hs.2.2
  have e : es.toList.map (·.key) = (L.map (·.1)).map Value.string := by
    have := congrArg (List.map (·.1)) hl
    rw [List.map_map, List.map_map, List.map_map] at this
    rw [List.map_map]; exact this
  rw [e] at h1
  have h2 := List.nodup_iff_pairwise_ne.1 h1
  rw [List.pairwise_map] at h2
  exact List.nodup_iff_pairwise_ne.2 (h2.imp fun h e => h (congrArg _ e))
/-- what another map's registry suffers leaves this one as it was -/
theorem RegAt.other (R : RegAt b h r m L) (M : ∃ es ck, h[m']? = some (.map es ck)) (hne : m ≠ m') (U : Upd m' h h') : RegAt b h' r m L := by
  obtain ⟨es', ck', M'⟩ := M
  have rm : r ≠ m' := fun e => by subst e; exact Blk.notMap R.P _ _ M'
  obtain ⟨es, ck, M0⟩ := R.map
  refine ⟨R.P.old (U.block r R.P.lt rm), R.ne, R.M.old (U.block m R.M.lt hne), fun q hq => ?_, R.n, R.hb⟩
  obtain ⟨a, t, c⟩ := R.T q hq
  refine ⟨a, fun h2 U2 => ?_, c⟩
  refine (t h (Upd.refl _ _)).mp fun g hg hm => ?_
  have g1 : g ≠ m' := fun e => hm _ _ (e ▸ M')
  have g2 : g ≠ m := fun e => hm _ _ (e ▸ M0)
  rw [U2.block g (by have := U.size; omega) g2, U.block g hg g1]
theorem Apply2_ok {c : S_api_Command} {wr : List Int} {k : Int → Heap → Prop} (R : RegAt b h r m L) (hb : b + 1 ≤ 1000) (A : CmdAt h c wr) (ht : c.f_Tenant.size ≤ 100000) (wl : wr.length ≤ 100000)
    (H : ∀ L' h', RegAt (b + 1) h' r m L' → absL L' = (stepR (absL L) c wr).2 → (∀ p ∈ L', p ∈ L ∨ p.1 = c.f_Tenant) → Upd m h h' → k (stepR (absL L) c wr).1 h') : reg_Reg_Apply (some ⟨r, 0, none⟩) c k h := by
  refine Apply_ok R hb A ht wl (fun h' hne X => ?_) fun t' zs' h' he k0 ab R' U => ?_
  · have e : (stepR (absL L) c wr).2 = absL L := by
      show (if applyB c wr.length (absL L) = 0 ∧ c.f_Kind ≠ 0 then _ else _) = _
      rw [if_neg]
      rw [← applyE_abs]
      intro hh
      rcases hne with h1 | h1
      · exact h1 hh.1
      · exact hh.2 h1
    have := H L h' ((R.ext X).more (Nat.le_succ b) hb) e.symm (fun p hp => .inl hp) (Upd.of_ext X)
    have e2 : (stepR (absL L) c wr).1 = applyE c wr.length L := (applyE_abs c wr.length L).symm
    rw [e2] at this; exact this
  · have e1 : applyB c wr.length (absL L) = 0 := by rw [← applyE_abs]; exact he
    have := H _ h' R' (by
      show absL (mput L c.f_Tenant (t', zs')) = if applyB c wr.length (absL L) = 0 ∧ c.f_Kind ≠ 0 then _ else _
      rw [if_pos ⟨e1, k0⟩]
      unfold absL
      rw [← mput_map absT c.f_Tenant (t', zs') L, ab]
      have : (mget (L.map fun q => (q.1, absT q.2)) c.f_Tenant).getD zAT = absT ((mget L c.f_Tenant).getD zTZ) := by
        rw [mget_map absT c.f_Tenant L]
        cases mget L c.f_Tenant <;> rfl
      rw [this]) (fun p hp => by
        rcases mput_mem hp with rfl | hp
        · exact .inr rfl
        · exact .inl hp) U
    have e2 : (stepR (absL L) c wr).1 = 0 := e1
    rw [e2] at this; exact this
end
/-! ### the tenants told -/
theorem srtS_eq {l l' : List ByteArray} (hp : l.Perm l') : srtS l = srtS l' := by
  unfold srtS
  have := Go.mergeSort_of_perm (hp.map fun t => t.data.toList)
  exact congrArg _ this
theorem tenL_ext {A B : AG} (h : ∀ n, mget A n = mget B n) (nA : (A.map (·.1)).Nodup) (nB : (B.map (·.1)).Nodup) : tenL A = tenL B := by
  have pm : (A.map (·.1)).Perm (B.map (·.1)) := (List.perm_ext_iff_of_nodup nA nB).2 fun n => by rw [mem_keys, mem_keys, h n]
  unfold tenL
  rw [srtS_eq pm]
  refine List.map_congr_left fun n _ => ?_
  rw [h n]
theorem tenL_mem {A : AG} {p : ByteArray × AT} (h : p ∈ tenL A) : mget A p.1 = some p.2 := by
  unfold tenL at h
  obtain ⟨n, hn, rfl⟩ := List.mem_map.1 h
  have h1 := (srtS_perm _).mem_iff.1 hn
  rw [mem_keys] at h1
  dsimp only
  cases hm : mget A n with
  | none => rw [hm] at h1; cases h1
  | some t => rfl
theorem tenL_of {A : AG} {n : ByteArray} {t : AT} (h : mget A n = some t) : (n, t) ∈ tenL A := by
  have h1 : n ∈ A.map (·.1) := mem_keys.2 (by rw [h]; rfl)
  unfold tenL
  refine List.mem_map.2 ⟨n, (srtS_perm _).mem_iff.2 h1, ?_⟩
  rw [h]; rfl
theorem tenL_len (A : AG) : (tenL A).length = A.length := by unfold tenL; rw [List.length_map, srtS_len, List.length_map]
/-! ### commands that come as an argument -/
def Cmds (W : Heap) (s : Slc) (l : List (S_api_Command × List Int)) : Prop := LsAt S_api_Command.cs 17 W s (l.map (·.1)) ∧ (∀ p ∈ l, CmdAt W p.1 p.2) ∧ s.len ≤ maxLen
theorem Cmds.len {W : Heap} {s : Slc} {l : List (S_api_Command × List Int)} (S : Cmds W s l) : s.len = l.length := by have := S.1.l; simpa using this
theorem Cmds.ext {W h : Heap} {s : Slc} {l : List (S_api_Command × List Int)} (S : Cmds W s l) (X : Ext W.size W h) : Cmds h s l := ⟨S.1.ext X, fun p hp => (S.2.1 p hp).ext X, S.2.2⟩
theorem Cmds.at {W h : Heap} {s : Slc} {l : List (S_api_Command × List Int)} (S : Cmds W s l) (X : Ext W.size W h) {i : Nat} {p : S_api_Command × List Int} (hx : l[i]? = some p) : ∃ a, s.a = some a ∧ CellsAt h (a.add (i * 17)) (S_api_Command.cs p.1) ∧ CmdAt h p.1 p.2 := by
  obtain ⟨a, ha, C⟩ := (S.1.ext X).at' i p.1 (by rw [List.getElem?_map, hx]; rfl)
  exact ⟨a, ha, C, (S.2.1 p (List.mem_of_getElem? hx)).ext X⟩
theorem G25_ok {h : Heap} {s : Slc} {l : List (S_api_Command × List Int)} {N : Nat} {k : Bool → Heap → Prop} (S : Cmds h s l) (hN : N ≤ 1000) (H : ∀ r, (r = false → l.length ≤ N ∧ ∀ p ∈ l, p.1.f_Tenant.size ≤ 100 ∧ p.2.length ≤ 200) → k r h) : ref25_Great s (N : Int) k h := by
  have n1 := S.len
  have m1 : s.len ≤ 9223372036854775807 := S.2.2
  unfold ref25_Great
  refine ⟨fun i h' => 0 ≤ i ∧ i ≤ l.length ∧ i ≤ N ∧ (∀ p ∈ l.take i.toNat, p.1.f_Tenant.size ≤ 100 ∧ p.2.length ≤ 200) ∧ h' = h, fun i _ => (l.length - i).toNat, ⟨by omega, by omega, by omega, by simp, rfl⟩, ?_⟩
  rintro i h' ⟨i0, i1, i2, ha, e⟩
  subst e
  unfold ref25_Great_l1b
  by_cases hi : i < l.length ∧ i < N
  · rw [if_pos (by rw [Bool.and_eq_true, decide_eq_true_eq, decide_eq_true_eq]; omega)]
    have hx : l[i.toNat]? = some (l[i.toNat]'(by omega)) := by simp
    generalize l[i.toNat]'(by omega) = p at *
    obtain ⟨a, h1, C, K⟩ := S.at (Ext.refl _ _) hx
    refine ⟨a, h1, i0, by omega, p.1.f_Tenant, C 1 _ rfl, ?_⟩
    by_cases hb : p.1.f_Tenant.size > 100
    · rw [if_pos (by rw [decide_eq_true_eq]; omega)]
      unfold ref25_Great_g2
      rw [if_pos rfl]
      exact H true fun e => by cases e
    · rw [if_neg (by rw [decide_eq_true_eq]; omega)]
      refine ⟨a, h1, i0, by omega, p.1.f_Wrapped, C 15 _ rfl, ?_⟩
      have wl := K.wl
      unfold ref25_Great_g2
      by_cases hw : p.2.length > 200
      · rw [if_pos (by rw [decide_eq_true_eq]; omega)]
        exact H true fun e => by cases e
      · rw [if_neg (by rw [decide_eq_true_eq]; omega), wrapI64 (by omega) (by omega)]
        refine ⟨_, rfl, ⟨by omega, by omega, by omega, fun q hq => ?_, rfl⟩, by dsimp only; omega⟩
        rw [show (i + 1).toNat = i.toNat + 1 from by omega, List.take_add_one, hx] at hq
        simp only [Option.toList_some, List.mem_append, List.mem_singleton] at hq
        rcases hq with hq | rfl
        · exact ha q hq
        · exact ⟨by omega, by omega⟩
  · rw [if_neg (by rw [Bool.and_eq_true, decide_eq_true_eq, decide_eq_true_eq]; omega)]
    refine H _ fun hr => ?_
    rw [decide_eq_false_iff_not] at hr
    have hl : l.length ≤ N := by omega
    rw [List.take_of_length_le (by omega)] at ha
    exact ⟨hl, ha⟩
/-! ### two commands to two tenants -/
theorem askB_n {c : S_api_Command} {o : Option AT} {n n' : Nat} (h : n < 8) (h' : n' < 8) : askB c o n = askB c o n' := by
  unfold askB
  have e : ∀ n : Nat, n < 8 → ¬ (c.f_Kind = 1 ∧ n ≥ 8) := fun n hn hh => by omega
  rw [if_neg (e n h), if_neg (e n' h')]
theorem mget_step (A : AG) (c : S_api_Command) (wr : List Int) (n : ByteArray) : mget (stepR A c wr).2 n = if (applyB c wr.length A = 0 ∧ c.f_Kind ≠ 0) ∧ n = c.f_Tenant then some (newT c wr ((mget A c.f_Tenant).getD zAT)) else mget A n := by
  show mget (if applyB c wr.length A = 0 ∧ c.f_Kind ≠ 0 then _ else _) n = _
  by_cases h : applyB c wr.length A = 0 ∧ c.f_Kind ≠ 0
  · rw [if_pos h, mget_put2]
    by_cases hn : n = c.f_Tenant
    · rw [if_pos hn, if_pos ⟨h, hn⟩]
    · rw [if_neg hn, if_neg (fun e => hn e.2)]
  · rw [if_neg h, if_neg (fun e => h e.1)]
theorem len_step (A : AG) (c : S_api_Command) (wr : List Int) : (stepR A c wr).2.length ≤ A.length + 1 := by
  show (if applyB c wr.length A = 0 ∧ c.f_Kind ≠ 0 then _ else _ : AG).length ≤ _
  split
  · rw [mput_len]; split <;> omega
  · omega
theorem nd_step {A : AG} (c : S_api_Command) (wr : List Int) (h : (A.map (·.1)).Nodup) : ((stepR A c wr).2.map (·.1)).Nodup := by
  show ((if applyB c wr.length A = 0 ∧ c.f_Kind ≠ 0 then _ else _ : AG).map (·.1)).Nodup
  split
  · exact keys_put2 _ _ _ h
  · exact h
theorem apart {A : AG} {a b : S_api_Command} {wa wb : List Int} (ne : a.f_Tenant ≠ b.f_Tenant) (hl : A.length ≤ 6) (nd : (A.map (·.1)).Nodup) :
    applyB a wa.length (stepR A b wb).2 = applyB a wa.length A ∧ tenL (stepR (stepR A a wa).2 b wb).2 = tenL (stepR (stepR A b wb).2 a wa).2 := by
  have same : ∀ (x y : S_api_Command) (wx wy : List Int), x.f_Tenant ≠ y.f_Tenant → applyB x wx.length (stepR A y wy).2 = applyB x wx.length A := fun x y wx wy hne => by
    unfold applyB
    have e : mget (stepR A y wy).2 x.f_Tenant = mget A x.f_Tenant := by rw [mget_step, if_neg (fun e => hne e.2)]
    have l := len_step A y wy
    rw [e, askB_n (n := (stepR A y wy).2.length) (n' := A.length) (by omega) (by omega)]
  have g : ∀ (x y : S_api_Command) (wx wy : List Int), x.f_Tenant ≠ y.f_Tenant → mget (stepR A y wy).2 x.f_Tenant = mget A x.f_Tenant := fun x y wx wy hne => by rw [mget_step, if_neg (fun e => hne e.2)]
  refine ⟨same a b wa wb ne, tenL_ext (fun n => ?_) (nd_step _ _ (nd_step _ _ nd)) (nd_step _ _ (nd_step _ _ nd))⟩
  have ga := g a b wa wb ne
  have gb := g b a wb wa fun e => ne e.symm
  rw [mget_step (stepR A a wa).2 b wb n, mget_step (stepR A b wb).2 a wa n, ga, gb, same a b wa wb ne, same b a wb wa (fun e => ne e.symm), mget_step A a wa n, mget_step A b wb n]
  by_cases h1 : n = a.f_Tenant
  · by_cases h2 : n = b.f_Tenant
    · exact absurd (h1.symm.trans h2) ne
    · rw [if_neg (fun e => h2 e.2), if_neg (c := (applyB b wb.length A = 0 ∧ b.f_Kind ≠ 0) ∧ n = b.f_Tenant) (fun e => h2 e.2)]
  · rw [if_neg (c := (applyB a wa.length A = 0 ∧ a.f_Kind ≠ 0) ∧ n = a.f_Tenant) (fun e => h1 e.2), if_neg (c := (applyB a wa.length A = 0 ∧ a.f_Kind ≠ 0) ∧ n = a.f_Tenant) (fun e => h1 e.2)]
end Go.Q.Yb
