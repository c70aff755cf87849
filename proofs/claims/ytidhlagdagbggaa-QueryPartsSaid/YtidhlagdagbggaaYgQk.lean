/- A part of the proof of statements of this seat: lemmas, no statement of their own. -/
import Derived.Test.YtidhlagdagbggaaQrC
set_option linter.unusedVariables false
set_option linter.unusedSimpArgs false
set_option maxRecDepth 100000
/- QueryParts over the predicates. -/
namespace Go.Q.Yg
open Go.Q.Rw
def wgt (agg : Int) (p : Pc) : Int := if agg = 1 then 1 else p.f_V
def sumW (agg : Int) (l : List Pc) : Int := (l.map (wgt agg)).sum
abbrev agg3 (a : Int) : Prop := a = 1 ∨ a = 2 ∨ a = 6
theorem sumW_app (agg : Int) (a b : List Pc) : sumW agg (a ++ b) = sumW agg a + sumW agg b := by simp [sumW]
theorem sumW_split {agg : Int} {A B C : Pc → Bool} (h : ∀ p, A p = (B p || C p)) (d : ∀ p, (B p && C p) = false) : ∀ l : List Pc, sumW agg (l.filter A) = sumW agg (l.filter B) + sumW agg (l.filter C)
  | [] => rfl
  | p :: l => by
    have ih := sumW_split (agg := agg) h d l
    have hp := h p
    have dp := d p
    have e : ∀ x, sumW agg (p :: x) = wgt agg p + sumW agg x := fun x => by simp [sumW]
    simp only [List.filter_cons]
    cases hB : B p <;> cases hC : C p <;> rw [hB, hC] at hp dp
    · rw [hp]; simpa using ih
    · rw [hp]; simp only [Bool.or_true, Bool.false_eq_true, if_true, if_false, e]; omega
    · rw [hp]; simp only [Bool.or_false, Bool.false_eq_true, if_true, if_false, e]; omega
    · cases dp
theorem totR_eachE (step : Int) (o : List RI) (p : Pc) : totR (eachE step o p) = totR o + p.f_V := by
  unfold eachE
  cases h : o.getLast? with
  | none => rw [List.getLast?_eq_none_iff.1 h]; simp [totR]
  | some r =>
    dsimp only
    split
    · have := last_split h
      conv => rhs; rw [this]
      rw [totR_app, totR_app]; simp [totR]; omega
    · rw [totR_app]; simp [totR]
theorem totR_each (step : Int) : ∀ (g : List Pc) (o : List RI), totR (g.foldl (eachE step) o) = totR o + sumV g
  | [], o => by simp [sumV]
  | p :: g, o => by
    rw [List.foldl_cons, totR_each step g, totR_eachE]
    simp [sumV]; omega
theorem sumW_1 (g : List Pc) : sumW 1 g = g.length := by
  induction g with
  | nil => rfl
  | cons p r ih => simp only [sumW, List.map_cons, List.sum_cons, wgt, if_true, List.length_cons] at *; omega
theorem sumW_V {agg : Int} (h : agg ≠ 1) (g : List Pc) : sumW agg g = sumV g := by
  unfold sumW sumV
  congr 1
  apply List.map_congr_left
  intro p _
  unfold wgt; rw [if_neg h]
theorem rowsP_tot {agg step : Int} (h : agg3 agg) (g : List Pc) : ∃ r, rowsP agg step g = some r ∧ totR r = sumW agg g := by
  unfold rowsP
  rcases h with rfl | rfl | rfl
  · exact ⟨_, rfl, by rw [sumW_1]; simp [totR]⟩
  · exact ⟨_, rfl, by rw [sumW_V (by decide)]; simp [totR]⟩
  · exact ⟨_, rfl, by rw [sumW_V (by decide)]; unfold eachP; rw [totR_each]; simp [totR]⟩
theorem rowsL_tot {agg step : Int} (h : agg3 agg) : ∀ gs : List (List Pc), ∃ r, rowsL agg step gs = some r ∧ totR r = sumW agg gs.flatten
  | [] => ⟨[], rfl, rfl⟩
  | g :: gs => by
    obtain ⟨x, e1, t1⟩ := rowsP_tot (step := step) h g
    obtain ⟨y, e2, t2⟩ := rowsL_tot (step := step) h gs
    refine ⟨x ++ y, by unfold rowsL; rw [e1]; dsimp only; rw [e2]; rfl, ?_⟩
    rw [totR_app, t1, t2, List.flatten_cons, sumW_app]
abbrev big : Int := 9223372036854775808
theorem each_bd (step : Int) : ∀ (g : List Pc) (o : List RI) (N : Int), (∀ p ∈ g, in64 p.f_V) → 0 ≤ N → (∀ r ∈ o, -(big * N) ≤ r.2.2 ∧ r.2.2 ≤ big * N) → ∀ r ∈ g.foldl (eachE step) o, -(big * (N + g.length)) ≤ r.2.2 ∧ r.2.2 ≤ big * (N + g.length)
  | [], o, N, _, _, h => by simpa using h
  | p :: g, o, N, hv, n0, h => by
    have vp := hv p List.mem_cons_self
    unfold in64 at vp
    have := each_bd step g (eachE step o p) (N + 1) (fun q hq => hv q (List.mem_cons_of_mem _ hq)) (by omega) ?_
    · rw [List.foldl_cons]
      intro r hr
      have := this r hr
      simp only [List.length_cons]
      unfold big at *
      omega
    · intro r hr
      unfold eachE at hr
      cases hl : o.getLast? with
      | none =>
        rw [hl] at hr
        simp only [List.mem_singleton] at hr
        subst hr; unfold big at *; dsimp only; omega
      | some r0 =>
        rw [hl] at hr
        dsimp only at hr
        have sp := last_split hl
        split at hr
        · rcases List.mem_append.1 hr with hr | hr
          · have := h r (by rw [sp]; exact List.mem_append.2 (.inl hr)); unfold big at *; omega
          · simp only [List.mem_singleton] at hr; subst hr
            have := h r0 (by rw [sp]; simp)
            unfold big at *; dsimp only; omega
        · rcases List.mem_append.1 hr with hr | hr
          · have := h r hr; unfold big at *; omega
          · simp only [List.mem_singleton] at hr; subst hr; unfold big at *; dsimp only; omega
theorem rowsP_vb {agg step : Int} (h : agg3 agg) {g : List Pc} {r : List RI} (m : g.length ≤ 1000) (hv : ∀ p ∈ g, in64 p.f_V) (e : rowsP agg step g = some r) : ∀ x ∈ r, -(big * 1000) ≤ x.2.2 ∧ x.2.2 ≤ big * 1000 := by
  unfold rowsP at e
  rcases h with rfl | rfl | rfl
  · cases e; intro x hx; simp only [List.mem_singleton] at hx; subst hx; unfold big; dsimp only; omega
  · cases e; intro x hx; simp only [List.mem_singleton] at hx; subst hx
    have := sumV_bd hv; unfold big; dsimp only; omega
  · cases e; intro x hx
    have := each_bd step g [] 0 hv (Int.le_refl _) (by simp) x hx
    unfold big at *; omega
theorem rowsL_vb {agg step : Int} (h : agg3 agg) : ∀ {gs : List (List Pc)} {r : List RI}, (∀ g ∈ gs, g.length ≤ 1000 ∧ ∀ p ∈ g, in64 p.f_V) → rowsL agg step gs = some r → ∀ x ∈ r, -(big * 1000) ≤ x.2.2 ∧ x.2.2 ≤ big * 1000
  | [], r, _, e => by cases e; simp
  | g :: gs, r, hg, e => by
    unfold rowsL at e
    cases e1 : rowsP agg step g with
    | none => rw [e1] at e; cases e
    | some x =>
      rw [e1] at e
      dsimp only at e
      cases e2 : rowsL agg step gs with
      | none => rw [e2] at e; cases e
      | some y =>
        rw [e2] at e; cases e
        intro z hz
        rcases List.mem_append.1 hz with hz | hz
        · obtain ⟨g1, g2⟩ := hg g List.mem_cons_self
          exact rowsP_vb h g1 g2 e1 z hz
        · exact rowsL_vb h (fun a b => hg a (List.mem_cons_of_mem _ b)) e2 z hz
theorem totR_bd : ∀ {r : List RI} {C : Int}, (∀ x ∈ r, -C ≤ x.2.2 ∧ x.2.2 ≤ C) → -(C * r.length) ≤ totR r ∧ totR r ≤ C * r.length
  | [], C, _ => by simp [totR]
  | x :: r, C, h => by
    have ih := totR_bd (r := r) fun y hy => h y (List.mem_cons_of_mem _ hy)
    have hx := h x List.mem_cons_self
    have e : totR (x :: r) = x.2.2 + totR r := by simp [totR]
    rw [e]
    simp only [List.length_cons]
    rw [show (((r.length + 1 : Nat)) : Int) = (r.length : Int) + 1 from by omega, Int.mul_add]
    omega
/-- what is run is all there, and its total is the sum -/
theorem run_tot {q : S_api_Query} {hz : Int} {zs : List Pc} (hc : chkQ q = 0) (ha : agg3 q.f_Agg) (m : zs.length ≤ 1000) (hv : ∀ p ∈ zs, in64 p.f_V) :
    (runP q hz zs).2 = 0 ∧ totR (runP q hz zs).1 = sumW q.f_Agg (askQ q hz zs) ∧ (∀ n, bd2 (totR ((runP q hz zs).1.take n))) ∧ ∀ r ∈ (runP q hz zs).1, bd2 r.2.2 := by
  obtain ⟨r, e, t⟩ := rowsL_tot (step := q.f_Step) ha (grp (askQ q hz zs))
  have er : runP q hz zs = (r, 0) := by unfold runP; rw [if_neg (by simpa using hc), e]
  have bl := runP_bd (q := q) (hz := hz) (zs := zs)
  rw [er] at bl ⊢
  have vb := rowsL_vb ha (fun g hg => ⟨Nat.le_trans ((grp_mem hg).trans askQ_sub).length_le m, fun p hp => hv p (((grp_mem hg).trans askQ_sub).mem hp)⟩) e
  refine ⟨rfl, by rw [grp_flat] at t; exact t, fun n => ?_, fun x hx => ?_⟩
  · have := totR_bd (r := r.take n) (C := big * 1000) fun x hx => vb x (List.mem_of_mem_take hx)
    have hl : (r.take n).length ≤ 1000 := by rw [List.length_take]; dsimp only at bl; omega
    unfold big bd2 at *
    dsimp only
    omega
  · have := vb x hx
    unfold big bd2 at *
    omega
theorem askQ_hz {q : S_api_Query} {cut : Int} {zs : List Pc} (h1 : q.f_From < cut) (h2 : -9223372036854775808 ≤ cut) : askQ ⟨q.f_Select, cut, q.f_To, q.f_Agg, q.f_Step⟩ (-9223372036854775808) zs = askQ q cut zs := by
  unfold askQ askP
  dsimp only
  rw [show max cut (-9223372036854775808) = cut from by omega, show max q.f_From cut = cut from by omega]
theorem chk_ft {q : S_api_Query} {f t : Int} : chkQ ⟨q.f_Select, f, t, q.f_Agg, q.f_Step⟩ = chkQ q := rfl
theorem run_hz {q : S_api_Query} {cut : Int} {zs : List Pc} (h1 : q.f_From < cut) (h2 : -9223372036854775808 ≤ cut) : runP ⟨q.f_Select, cut, q.f_To, q.f_Agg, q.f_Step⟩ (-9223372036854775808) zs = runP q cut zs := by
  unfold runP
  rw [askQ_hz h1 h2, chk_ft]
theorem ask_parts {q : S_api_Query} {cut : Int} {zs : List Pc} (h1 : q.f_From < cut) (h2 : cut ≤ q.f_To) (h3 : -9223372036854775808 ≤ q.f_From) :
    sumW q.f_Agg (askQ q (-9223372036854775808) zs) = sumW q.f_Agg (askQ ⟨q.f_Select, q.f_From, cut - 1, q.f_Agg, q.f_Step⟩ (-9223372036854775808) zs) + sumW q.f_Agg (askQ ⟨q.f_Select, cut, q.f_To, q.f_Agg, q.f_Step⟩ (-9223372036854775808) zs) := by
  unfold askQ
  dsimp only
  split
  · rfl
  · unfold askP
    rw [show max q.f_From (-9223372036854775808) = q.f_From from by omega, show max cut (-9223372036854775808) = cut from by omega]
    refine sumW_split (fun p => ?_) (fun p => ?_) zs
    · rw [Bool.eq_iff_iff]
      simp only [Bool.and_eq_true, Bool.or_eq_true, decide_eq_true_eq]
      constructor
      · rintro ⟨⟨a, b⟩, c⟩
        rcases Int.lt_or_le p.f_T cut with h | h
        · exact .inl ⟨⟨a, by omega⟩, c⟩
        · exact .inr ⟨⟨h, b⟩, c⟩
      · rintro (⟨⟨a, b⟩, c⟩ | ⟨⟨a, b⟩, c⟩)
        · exact ⟨⟨a, by omega⟩, c⟩
        · exact ⟨⟨by omega, b⟩, c⟩
    · rw [Bool.eq_false_iff]
      simp only [ne_eq, Bool.and_eq_true, decide_eq_true_eq]
      rintro ⟨⟨⟨a, b⟩, c⟩, ⟨⟨d, e⟩, f⟩⟩
      omega
theorem QueryParts_ok {q0 : S_api_Query} {p1 : Slc} {l : List Pc} {cut kind : Int} {k : Bool → Heap → Prop} {h : Heap} (L : Pcs h p1 l) (hok : ∀ p ∈ l, OkPc p) (qF : in64 q0.f_From) (q6 : in64 q0.f_Step) (ic : in64 cut) (ik : 0 ≤ kind) (H : ∀ h', Ext h.size h h' → k true h') : law19_QueryParts q0 p1 cut kind k h := by
  unfold law19_QueryParts
  refine bx0 fun h2 B1 X1 => ?_
  have z1 := X1.size
  have l1 := B1.lt
  have aw : law19_QueryParts_g1 p1 cut kind ⟨h.size, 0, none⟩ true k h2 := by
    unfold law19_QueryParts_g1
    rw [if_pos rfl]
    exact awake_ok fun h'' X => H h'' (X1.trans (X.mono z1))
  refine Great_ok (n := 40) (L.ext X1) (by decide) (by rw [if_pos rfl]; exact aw) fun l40 s400 => ?_
  rw [if_neg (by simp)]
  refine ⟨q0.f_Select, B1.cl0 rfl, ?_⟩
  by_cases hs : q0.f_Select.size ≤ 400
  rotate_left
  · rw [show decide ((q0.f_Select.size : Int) > 400) = true from by simp; omega]
    exact aw
  rw [show decide ((q0.f_Select.size : Int) > 400) = false from by simp; omega]
  unfold law19_QueryParts_g1
  rw [if_neg (by simp)]
  have hp : ∀ p ∈ l, p.f_Series.size ≤ 100000000 ∧ in64 p.f_V ∧ in64 p.f_T := fun p hp => ⟨by have := s400 p hp; omega, hok p hp⟩
  have L2 := L.ext X1
  refine bx0 fun h8 B7 X8 => ?_
  have z8 := X8.size
  have km : 0 ≤ kind.tmod 3 ∧ kind.tmod 3 < 3 := by rw [Int.tmod_eq_emod_of_nonneg ik]; omega
  obtain ⟨A, hA, a3, ea⟩ : ∃ A : Int, ([.int .i64 1, .int .i64 2, .int .i64 6] : List Value)[(kind.tmod 3).toNat]? = some (.int .i64 A) ∧ agg3 A ∧ in64 A := by
    have : (kind.tmod 3).toNat = 0 ∨ (kind.tmod 3).toNat = 1 ∨ (kind.tmod 3).toNat = 2 := by omega
    rcases this with e | e | e <;> rw [e]
    · exact ⟨1, rfl, .inl rfl, by decide⟩
    · exact ⟨2, rfl, .inr (.inl rfl), by decide⟩
    · exact ⟨6, rfl, .inr (.inr rfl), by decide⟩
  refine ⟨_, rfl, km.1, km.2, A, by rw [Nat.mul_one]; exact B7.cl hA, bset1 (B1.ext X8 l1) (by show 3 < 5; decide) fun h11 B11 U11 => ?_⟩
  have z11 := U11.size
  replace B11 : Blk h11 h.size (qcs5 ⟨q0.f_Select, q0.f_From, q0.f_To, A, q0.f_Step⟩) 36 := B11
  refine ⟨q0.f_Step, B11.cl rfl, bset1 B11 (by show 4 < 5; decide) fun h13 B13 U13 => ?_⟩
  have z13 := U13.size
  obtain ⟨st, est⟩ : ∃ st, st = (if 1 > q0.f_Step then 1 else q0.f_Step) := ⟨_, rfl⟩
  rw [← est] at B13
  have st1 : 1 ≤ st ∧ in64 st := by
    obtain ⟨s0, s1⟩ := q6
    rw [est]; split
    · exact ⟨by omega, by decide⟩
    · exact ⟨by omega, by omega, by omega⟩
  obtain ⟨q, eq⟩ : ∃ q : S_api_Query, q = ⟨q0.f_Select, q0.f_From, q0.f_To, A, st⟩ := ⟨_, rfl⟩
  replace B13 : Blk h13 h.size (qcs5 q) 36 := by rw [eq]; exact B13
  have eF : q.f_From = q0.f_From := by rw [eq]
  have eA : q.f_Agg = A := by rw [eq]
  have eS : q.f_Step = st := by rw [eq]
  have eSel : q.f_Select = q0.f_Select := by rw [eq]
  have qs : q.f_Select.size ≤ 100000000 := by rw [eSel]; omega
  have q6' : in64 q.f_Step := by rw [eS]; exact st1.2
  have X213 : Ext h.size h h13 := (X1.trans (X8.mono z1)).trans ((U11.ext (Nat.le_refl _) (by omega)).trans (U13.ext (Nat.le_refl _) (by omega)))
  have L13 : Pcs h13 p1 l := L.ext X213
  have ag : agg3 q.f_Agg := by rw [eA]; exact a3
  have chk : chkQ q = 0 ∨ chkQ q = 4 := by
    unfold chkQ
    split
    · exact .inr rfl
    · left
      rw [if_neg]
      rw [eA, eS]
      have s1 := st1.1
      rcases a3 with h | h | h <;> omega
  refine ⟨q, CellsAt.of_blk B13, Run_ok L13 (by omega) qs hp q6' fun z0 s9 h16 im0 X16 R9 fr9 => ?_⟩
  have z16 := X16.size
  have X016 := X213.trans (X16.mono X213.size)
  have B16 := B13.ext X16 B13.lt
  have q64 : (runP q (-9223372036854775808) z0).2 = 0 ∨ (runP q (-9223372036854775808) z0).2 = 4 := by
    rcases chk with hc | hc
    · obtain ⟨r, e, _⟩ := rowsL_tot (step := q.f_Step) ag (grp (askQ q (-9223372036854775808) z0))
      left; unfold runP; rw [if_neg (by simpa using hc), e]
    · right; unfold runP; rw [if_pos (by rw [hc]; decide)]; exact hc
  have g3t : ∀ s, law19_QueryParts_g3 p1 cut ⟨h.size, 0, none⟩ s (runP q (-9223372036854775808) z0).2 true k h16 := fun s => by
    unfold law19_QueryParts_g3
    rw [if_pos rfl, if_pos (by rcases q64 with e | e <;> rw [e] <;> decide)]
    exact awake_ok fun h'' X => by unfold law19_QueryParts_g4; exact H h'' (X016.trans (X.mono X016.size))
  by_cases he : (runP q (-9223372036854775808) z0).2 = 0
  rotate_left
  · rw [if_pos (by simpa using he)]
    unfold law19_QueryParts_g2
    rw [if_pos rfl]
    exact g3t _
  rw [if_neg (by simpa using he)]
  have hc : chkQ q = 0 := by
    rcases chk with hc | hc
    · exact hc
    · unfold runP at he; rw [if_pos (by rw [hc]; decide)] at he; rw [hc] at he; exact absurd he (by decide)
  refine ⟨q.f_From, B16.cl rfl, ?_⟩
  unfold law19_QueryParts_g2
  by_cases c1 : cut ≤ q.f_From
  · rw [if_pos (by simpa using c1)]
    exact g3t _
  rw [if_neg (by simpa using c1)]
  refine ⟨q.f_To, B16.cl rfl, ?_⟩
  by_cases c2 : cut > q.f_To
  · rw [show decide (cut > q.f_To) = true from by simpa using c2]
    exact g3t _
  rw [show decide (cut > q.f_To) = false from by simpa using c2]
  unfold law19_QueryParts_g3
  rw [if_neg (by simp)]
  obtain ⟨c00, c01⟩ := ic
  have ffr := qF.1
  rw [← eF] at ffr
  have im0' : IsMrg l z0 := im0.resolve_right fun h => h.1 hc
  have zl := im0'.len
  have zv : ∀ p ∈ z0, in64 p.f_V := fun p h => (hok p (im0'.sub p h)).1
  -- the first part
  refine ⟨q, CellsAt.of_blk B16, bx rfl (by show 5 ≤ 5; decide) fun h22 B20 X22 => bset1 B20 (by show 2 < 5; decide) fun h23 C20 U23 => ?_⟩
  have z22 := X22.size
  have z23 := U23.size
  have l20 := B20.lt
  rw [wrapI64 (x := cut - 1) (by omega) (by omega)] at C20
  obtain ⟨qa, eqa⟩ : ∃ x : S_api_Query, x = ⟨q.f_Select, q.f_From, cut - 1, q.f_Agg, q.f_Step⟩ := ⟨_, rfl⟩
  replace C20 : Blk h23 h16.size (qcs5 qa) 36 := by rw [eqa]; exact C20
  have B23 : Blk h23 h.size (qcs5 q) 36 := U23.blk (B16.ext X22 B16.lt) (by have := B16.lt; omega)
  have X023 : Ext h.size h h23 := X016.trans ((X22.mono (by omega)).trans (U23.ext (by omega) (by omega)))
  have X1623 : Ext h16.size h16 h23 := X22.trans (U23.ext (Nat.le_refl _) (by omega))
  refine ⟨qa, CellsAt.of_blk C20, Run_ok (L.ext X023) (by omega) (by rw [eqa]; exact qs) hp (by rw [eqa]; exact q6') fun za s25 h26 ima X26 Ra fra => ?_⟩
  have hca : chkQ qa = 0 := by rw [eqa]; exact hc
  have eza : za = z0 := (ima.resolve_right fun h => h.1 hca).uniq im0' fun _ => Iff.rfl
  subst eza
  have z26 := X26.size
  have B26 := B23.ext X26 B23.lt
  have D20 := C20.ext X26 C20.lt
  -- the second part
  refine ⟨q, CellsAt.of_blk B26, bset D20 rfl (by show 5 ≤ 5; decide) fun h28 E20 U28 => bset1 E20 (by show 1 < 5; decide) fun h29 F20 U29 => ?_⟩
  have z28 := U28.size
  have z29 := U29.size
  obtain ⟨qb, eqb⟩ : ∃ x : S_api_Query, x = ⟨q.f_Select, cut, q.f_To, q.f_Agg, q.f_Step⟩ := ⟨_, rfl⟩
  replace F20 : Blk h29 h16.size (qcs5 qb) 36 := by rw [eqb]; exact F20
  have hB16 := B16.lt
  have B29 : Blk h29 h.size (qcs5 q) 36 := U29.blk (U28.blk B26 (by omega)) (by omega)
  -- what stood since, but for that block
  have X2329 : Ext h16.size h26 h29 := (U28.ext (Nat.le_refl _) (by omega)).trans (U29.ext (Nat.le_refl _) (by omega))
  have X029 : Ext h.size h h29 := (X023.trans (X26.mono (by omega))).trans (X2329.mono (by omega))
  have U2629 : Upd h16.size h26 h29 := U28.trans U29
  refine ⟨qb, CellsAt.of_blk F20, Run_ok (L.ext X029) (by omega) (by rw [eqb]; exact qs) hp (by rw [eqb]; exact q6') fun zb s31 h32 imb X32 Rb frb => ?_⟩
  have hcb : chkQ qb = 0 := by rw [eqb]; exact hc
  have ezb : zb = za := (imb.resolve_right fun h => h.1 hcb).uniq im0' fun _ => Iff.rfl
  subst ezb
  have z32 := X32.size
  have tota := run_tot (q := qa) (hz := -9223372036854775808) (zs := zb) hca (by rw [eqa]; exact ag) (by omega) zv
  have totb := run_tot (q := qb) (hz := -9223372036854775808) (zs := zb) hcb (by rw [eqb]; exact ag) (by omega) zv
  have tot0 := run_tot (q := q) (hz := -9223372036854775808) (zs := zb) hc ag (by omega) zv
  have Ra29 : RowsV h29 s25 _ := ⟨⟨Ra.1.1, fun a ha j v hj => by
    have hb : s25.blk = some a.block := by unfold Slc.blk; rw [ha]
    have := Ra.1.2 a ha j v hj
    have lt := cellH_lt this
    have eb : (a.add j).block = a.block := by unfold Addr.add; split <;> rfl
    rw [cellH_of (U2629.block _ lt (by rw [eb]; have := fra _ hb; omega))]; exact this⟩, Ra.2⟩
  have R9' : ∀ {h'}, Ext h16.size h16 h' → RowsV h' s9 _ := fun {h'} X => R9.ext X
  have rb := fun (q : S_api_Query) => runP_bd (q := q) (hz := -9223372036854775808) (zs := zb)
  have rba := rb qa
  have rbb := rb qb
  have rb0 := rb q
  refine Total_ok (Ra29.ext X32) (by omega) tota.2.2.1 tota.2.2.2 fun h34 X34 => ?_
  have z34 := X34.size
  refine Total_ok (Rb.ext X34) (by omega) totb.2.2.1 totb.2.2.2 fun h36 X36 => ?_
  have z36 := X36.size
  have ta := tota.2.2.1 (runP qa (-9223372036854775808) zb).1.length
  have tb := totb.2.2.1 (runP qb (-9223372036854775808) zb).1.length
  rw [List.take_length] at ta tb
  refine RAdd_ok ta tb fun h38 X38 => ?_
  have z38 := X38.size
  have X2938 : Ext h29.size h29 h38 := X32.trans ((X34.mono z32).trans ((X36.mono (by omega)).trans (X38.mono (by omega))))
  refine bx rfl (Nat.le_refl _) fun h41 B39 X41 => ?_
  have z41 := X41.size
  have X2941 : Ext h29.size h29 h41 := X2938.trans (X41.mono (by omega))
  have X041 : Ext h.size h h41 := X029.trans (X2941.mono (by omega))
  have B41 := B29.ext X2941 B29.lt
  have X1641 : Ext h16.size h16 h41 := X1623.trans ((X26.mono (by omega)).trans ((X2329.mono (Nat.le_refl _)).trans (X2941.mono (by omega))))
  refine ⟨q, CellsAt.of_blk B41, Run_ok (L.ext X041) (by omega) qs hp q6' fun zc s43 h44 imc X44 Rc _ => ?_⟩
  have ezc : zc = zb := (imc.resolve_right fun h => h.1 hc).uniq im0' fun _ => Iff.rfl
  subst ezc
  have z44 := X44.size
  have erc : runP q cut zc = runP qb (-9223372036854775808) zc := by rw [eqb]; exact (run_hz (by omega) c00).symm
  rw [erc] at Rc ⊢
  rw [if_pos (by simpa using tota.1), if_pos (by simpa using totb.1), if_pos (by simpa using totb.1)]
  refine ⟨_, (CellsAt.of_blk B39).ext X44, Total_ok (R9' (X1641.trans (X44.mono (by omega)))) (by omega) tot0.2.2.1 tot0.2.2.2 fun h47 X47 => ⟨((CellsAt.of_blk B39).ext X44).ext X47, ?_⟩⟩
  have z47 := X47.size
  have esum : totR (runP q (-9223372036854775808) zc).1 = totR (runP qa (-9223372036854775808) zc).1 + totR (runP qb (-9223372036854775808) zc).1 := by
    rw [tot0.2.1, tota.2.1, totb.2.1, eqa, eqb]
    exact ask_parts (by omega) (by omega) ffr
  rw [esum]
  rw [if_pos (by simp)]
  refine SameRows_ok (((Rb.ext ((X34.trans (X36.mono z34)).trans ((X38.mono (by omega)).trans (X41.mono (by omega))))).ext X44).ext X47) (Rc.ext X47) (by omega) ?_
  rw [if_pos rfl]
  refine awake_ok fun h'' X => ?_
  unfold law19_QueryParts_j5
  exact H h'' (X041.trans (((X44.trans (X47.mono z44)).trans (X.mono (by omega))).mono X041.size))
end Go.Q.Yg
