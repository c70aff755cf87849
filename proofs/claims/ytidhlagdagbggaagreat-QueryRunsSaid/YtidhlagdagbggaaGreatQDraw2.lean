/- A part of the proof of statements of this seat: lemmas, no statement of their own. -/
import Derived.Test.YtidhlagdagbggaaGreatQDraw
/- Effects that have no order among themselves: whichever comes first. -/
namespace Go.Q
set_option linter.unusedVariables false
set_option linter.unusedSimpArgs false
section
variable {c : Cx} {lops : List Oper} {Q : Exit → Act → World → Prop} {done dead : List Nat} {pend D : List Pn} {e : Env} {h : Heap} {listed : Array Bool} {a : Act}
/-- operation i comes up -/
def SimI (c : Cx) (lops : List Oper) (Q : Exit → Act → World → Prop) (done dead : List Nat) (pend : List Pn) (e : Env) (h : Heap) (i : Nat) : Prop :=
  ∀ fuel D listed a w, cnt listed ≤ fuel + 1 → Inv c lops done dead pend e D listed a → WW c.D c.W0 h w → i ∉ done → un listed i → (∀ p, isPred lops p i = true → ¬ un listed p) →
    wpOp c.P lops.toArray Q i (wpAny c.P .any lops.toArray Q fuel (listed.setIfInBounds i true)) a w
def sideI (lops : List Oper) (done dead dead' A : List Nat) (i : Nat) : Bool := !mem done i && !mem dead i && ancOk lops i A && dead'.all fun x => mem A x || mem dead x
def onlyL (lops : List Oper) (done L : List Nat) : Bool :=
  (List.range lops.length).all fun j => mem (L ++ done) j || (List.range j).any fun p => isPred lops p j && !mem done p
theorem sim_ei (i : Nat) (A dead' : List Nat) {o : Oper} {Φ : Value → Heap → Prop} {ei : Env} (hwf : wfR lops = true) (hp : PFs c lops h dead pend) (hside : sideI lops done dead dead' A i = true) (hs : Sub ei e) (hk : slotsOk lops done i ei = true)
    (ho : lops[i]? = some o) (hdk : dOk c.N o.dst = true) (hw : wnt lops ei o = some true) (hy : YE c.D c.P ei h o Φ)
    (H : ∀ v h', Φ v h' → Sim c lops Q (i :: done) dead' pend (pu e o.dst v) h') : SimI c lops Q done dead pend e h i := by
  simp only [wfR, Bool.and_eq_true] at hwf
  simp only [sideI, Bool.and_eq_true, Bool.not_eq_true', List.all_eq_true, Bool.or_eq_true] at hside
  obtain ⟨⟨⟨hi, hid⟩, hA⟩, hdd⟩ := hside
  have hlt : i < lops.length := (List.getElem?_eq_some_iff.1 ho).1
  have hi' := not_mem hi
  intro fuel D listed a w hf I hww hj hu hpre
  have hjl := hlt
  obtain ⟨j, hji⟩ : ∃ j, j = i := ⟨i, rfl⟩
  subst hji
  have av : Fr c.N ei a := I.fr (x := ⟨j, undef, ei⟩) hu (I.look hwf.2 hs hk) hpre
  have hds : dst? lops j = o.dst := by simp [dst?, ho]
  unfold wpOp
  simp only [List.getElem?_toArray, ho, wnt_spec hw av, if_true]
  left
  refine hy a w av.agr hww.heap _ _ fun v w' hw' hΦ => ?_
  have I1 := I.fix (v := v) hwf.2 hi' (not_mem hid) hlt hs hk
  have I2 := I1.come hwf.2 (x := ⟨j, v, ei⟩) (by simp) hu hpre (by rw [hds]; exact hdk)
  rw [hds] at I2
  -- those that 'i' waited for have come up
  have anc : ∀ n x, lops.length - x ≤ n → x ∈ A → ¬ un listed x := by
    intro n
    induction n with
    | zero =>
      intro x hx hxA
      simp only [ancOk, List.all_eq_true, List.any_eq_true] at hA
      obtain ⟨b, _, hb⟩ := hA x hxA
      have := pred_lt hwf.1 hb
      omega
    | succ n ih =>
      intro x hx hxA
      have hA' := hA
      simp only [ancOk, List.all_eq_true, List.any_eq_true] at hA'
      obtain ⟨b, hbm, hb⟩ := hA' x hxA
      have hbl := pred_lt hwf.1 hb
      rcases List.mem_cons.1 hbm with rfl | hbm
      · exact hpre x hb
      · exact I.dc b hbl.2 (ih b (by omega) hbm) x hb
  refine H v w'.heap hΦ fuel (⟨j, v, ei⟩ :: D) _ _ _ (by have := cnt_set hu; omega) ?_ (hww.trans hw')
  have pl : ∀ x ∈ (⟨j, v, ei⟩ : Pn) :: D, un (listed.setIfInBounds j true) x.j → x ∈ pend ∧ x.j ∉ dead' := fun x hx hl => by
    obtain ⟨h1, h3⟩ := I2.pd x hx hl
    have h2 := (un_set (un_lt hu)).1 hl
    rcases List.mem_cons.1 h1 with rfl | h1
    · exact absurd rfl h2.2
    · refine ⟨h1, fun hh => ?_⟩
      rcases hdd x.j hh with hA1 | hA1
      · exact anc _ _ (Nat.le_refl _) (mem_iff.1 hA1) h2.1
      · exact h3 (mem_iff.1 hA1)
  exact ⟨I2.sz, I2.d, I2.n, I2.jd, I2.dj, I2.uq, I2.dn, I2.dc, pl, fun x hx => I2.pin x (List.mem_cons_of_mem _ hx), I2.val, I2.env, I2.ops⟩
/-- an effect on the heap -/
theorem sim_hi (i : Nat) (A dead' : List Nat) {o : Oper} {v : Value} {h' : Heap} {ei : Env} (hwf : wfR lops = true) (hp : PFs c lops h dead pend) (hside : sideI lops done dead dead' A i = true) (hs : Sub ei e) (hk : slotsOk lops done i ei = true)
    (ho : lops[i]? = some o) (hdk : dOk c.N o.dst = true) (hw : wnt lops ei o = some true) (hy : Yh c.P ei h o v h')
    (H : Sim c lops Q (i :: done) dead' pend (pu e o.dst v) h') : SimI c lops Q done dead pend e h i :=
  sim_ei i A dead' hwf hp hside hs hk ho hdk hw (YE.of_h hy) (by rintro _ _ ⟨rfl, rfl⟩; exact H)
/-- two effects, in either order -/
theorem sim_or (i j : Nat) {A B : Prop} (hwf : wfR lops = true) (hp : PFs c lops h dead pend) (honly : onlyL lops done [i, j] = true) (hi : (!mem done i && Nat.blt i lops.length) = true) (H : A ∧ B) (h1 : A → SimI c lops Q done dead pend e h i) (h2 : B → SimI c lops Q done dead pend e h j) : Sim c lops Q done dead pend e h := by
  simp only [wfR, Bool.and_eq_true] at hwf
  simp only [Bool.and_eq_true, Bool.not_eq_true', Nat.blt_eq] at hi
  refine sim_core hwf.1 hwf.2 hp (fun D listed a w I hw hn => absurd (I.dn i hi.2 (hn i)) (not_mem hi.1)) fun fuel D listed a w x hf I hww hx hxl hu hpre => ?_
  simp only [onlyL, List.all_eq_true, List.mem_range, Bool.or_eq_true, List.any_eq_true, Bool.and_eq_true, Bool.not_eq_true'] at honly
  rcases honly x hxl with h3 | ⟨p, hpj, hp1, hp2⟩
  · rcases List.mem_append.1 (mem_iff.1 h3) with h4 | h4
    · simp only [List.mem_cons, List.not_mem_nil, or_false] at h4
      rcases h4 with rfl | rfl
      · exact h1 H.1 fuel D listed a w hf I hww hx hu hpre
      · exact h2 H.2 fuel D listed a w hf I hww hx hu hpre
    · exact absurd h4 hx
  · exact absurd (I.dn p (by omega) (hpre p hp1)) (not_mem hp2)
end
end Go.Q
