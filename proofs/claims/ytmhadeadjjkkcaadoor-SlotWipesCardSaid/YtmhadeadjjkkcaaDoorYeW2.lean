/- A part of the proof of statements of this seat: lemmas, no statement of their own. -/
import Derived.Test.YtmhadeadjjkkcaaDoorYeW1
set_option linter.unusedVariables false
set_option linter.unusedSimpArgs false
set_option maxRecDepth 100000
/- Slot: a slot that was laid is whole; a slot that was left is as it was. -/
namespace Go.Q.Ye
theorem catW_cong {X Z : DK} {p : Int} {n : Nat} (h : ∀ i : Nat, i < n → readD Z (p + i) = readD X (p + i)) : catW Z p n = catW X p n := by
  unfold catW
  congr 1
  refine List.map_congr_left fun i hi => ?_
  rw [h i (List.mem_range.1 hi)]
theorem wh_cong {X Z : DK} {p kk : Int} (w : WholeC X p kk) (h : ∀ i : Nat, i < (fst1 X p).f_parts.toNat → readD Z (p + i) = readD X (p + i)) : WholeC Z p kk ∧ outW Z p = outW X p ∧ fst1 Z p = fst1 X p ∧ (readD Z p).2 = (readD X p).2 := by
  have g1 := w.1.1
  have h0 := h 0 (by omega)
  rw [show p + ((0 : Nat) : Int) = p from by omega] at h0
  have e1 : fst1 Z p = fst1 X p := by unfold fst1; rw [h0]
  have e2 : outW Z p = outW X p := by unfold outW; rw [e1, catW_cong h]
  refine ⟨⟨by rw [e1]; exact w.1, fun i hi => ?_, by rw [e2, e1]; exact w.2.2⟩, e2, e1, by rw [h0]⟩
  rw [e1] at hi
  have := w.2.1 i hi
  unfold OkI at this ⊢
  rw [h i hi, e1]
  exact this
theorem prt_pos (n : Int) : 1 ≤ prtD n := by unfold prtD; split <;> omega
theorem prt_bd {n : Int} (n0 : 0 ≤ n) : n ≤ prtD n * 104 := by unfold prtD; split <;> omega
theorem cat_take {Z : DK} {p : Int} {f : S_slot_head} {bs : List Int} {N : Nat} (h : ∀ j : Nat, j < N → readD Z (p + j) = (padB (laySec f bs j), 0)) : ∀ n, n ≤ N → ∀ L, L ≤ bs.length → L ≤ 104 * n → (catW Z p n).take L = bs.take L
  | 0, _, L, _, hl => by rw [show L = 0 from by omega]; rfl
  | n + 1, hn, L, hb, hl => by
    have lc := catW_len (X := Z) (p := p) n fun i hi => by rw [h i (by omega)]
    rw [catW_succ, h n (by omega)]
    by_cases q : L ≤ 104 * n
    · rw [List.take_append_of_le_length (by omega)]
      exact cat_take h n (by omega) L hb q
    · have ih := cat_take h n (by omega) (104 * n) (by omega) (Nat.le_refl _)
      rw [List.take_of_length_le (by omega)] at ih
      rw [List.take_append, lc, List.take_of_length_le (by omega), ih]
      dsimp only
      rw [drop_sec, List.take_append_of_le_length (by rw [List.length_take, List.length_drop]; omega), List.take_take, Nat.min_eq_left (by omega), Nat.mul_comm n 104, ← List.take_add]
      rw [show 104 * n + (L - 104 * n) = L from by omega]
theorem lay_whole {Z : DK} {p kk gr : Int} {bs : List Int} (bl : bs.length ≤ 60000) (pk : prtD bs.length ≤ kk) (g0 : 0 ≤ gr ∧ gr < 4611686018427387904) (h : ∀ j : Nat, (j : Int) < prtD bs.length → readD Z (p + j) = (padB (laySec (headD gr bs) bs j), 0)) :
    (readD Z p).2 = 0 ∧ WholeC Z p kk ∧ (fst1 Z p).f_n = gr + 1 ∧ outW Z p = bs := by
  have sb := sum_bd bs
  have p1 := prt_pos bs.length
  have p2 := prt_bd (n := (bs.length : Int)) (by omega)
  have pm : prtD bs.length < 65536 := by unfold prtD; split <;> omega
  have hh : ∀ j : Nat, (j : Int) < prtD bs.length → hdD (padB (laySec (headD gr bs) bs j)) = { headD gr bs with f_part := (j : Int) } := fun j hj =>
    hd_sec (f := headD gr bs) ⟨by show 0 ≤ gr + 1; omega, by show gr + 1 < _; omega⟩ (by omega) (by show 0 ≤ prtD _ ∧ prtD _ < 65536; omega) (by show (0 : Int) ≤ (bs.length : Int) ∧ (bs.length : Int) < 4294967296; omega) sb
  have h0 := h 0 (by omega)
  rw [show p + ((0 : Nat) : Int) = p from by omega] at h0
  have hf : fst1 Z p = headD gr bs := by
    unfold fst1
    rw [h0]
    exact hh 0 (by omega)
  have fp : (fst1 Z p).f_parts = prtD bs.length := by rw [hf]; rfl
  have fs : (fst1 Z p).f_size = bs.length := by rw [hf]; rfl
  have ho : outW Z p = bs := by
    unfold outW
    rw [fp, fs, Int.toNat_natCast]
    rw [cat_take (f := headD gr bs) (bs := bs) (N := (prtD bs.length).toNat) (fun j hj => h j (by omega)) _ (Nat.le_refl _) _ (Nat.le_refl _) (by omega)]
    exact List.take_length
  refine ⟨by rw [h0], ⟨⟨by rw [fp]; exact p1, by rw [fp]; exact pk, by rw [fp, fs]⟩, fun i hi => ?_, by rw [ho, hf]; rfl⟩, by rw [hf]; rfl, ho⟩
  rw [fp] at hi
  unfold OkI
  rw [h i (by omega), hf]
  exact ⟨rfl, hh i (by omega)⟩
/-- a slot's first sector is told by its number: what a cut leaves of a slot is the old one or the new one, or nothing -/
theorem cut_whole {X Z : DK} {p kk gr : Int} {bs : List Int} (bl : bs.length ≤ 60000) (pk : prtD bs.length ≤ kk) (g0 : 0 ≤ gr ∧ gr < 4611686018427387904)
    (hX : ∀ i : Nat, (i : Int) < kk → (readD X (p + i)).2 = 0 → (fst1 X (p + i)).f_n ≤ gr)
    (tri : ∀ i : Nat, (i : Int) < kk → readD Z (p + i) = readD X (p + i) ∨ ((i : Int) < prtD bs.length ∧ (readD Z (p + i) = (padB (laySec (headD gr bs) bs i), 0) ∨ readD Z (p + i) = ([], 9))))
    (e : (readD Z p).2 = 0) (w : WholeC Z p kk) : ((readD X p).2 = 0 ∧ WholeC X p kk ∧ outW Z p = outW X p ∧ fst1 Z p = fst1 X p) ∨ outW Z p = bs := by
  have sb := sum_bd bs
  have p1 := prt_pos bs.length
  have p2 := prt_bd (n := (bs.length : Int)) (by omega)
  have pm : prtD bs.length < 65536 := by unfold prtD; split <;> omega
  have hh : ∀ j : Nat, (j : Int) < prtD bs.length → hdD (padB (laySec (headD gr bs) bs j)) = { headD gr bs with f_part := (j : Int) } := fun j hj =>
    hd_sec (f := headD gr bs) ⟨by show 0 ≤ gr + 1; omega, by show gr + 1 < _; omega⟩ (by omega) (by show 0 ≤ prtD _ ∧ prtD _ < 65536; omega) (by show (0 : Int) ≤ (bs.length : Int) ∧ (bs.length : Int) < 4294967296; omega) sb
  have g1 := w.1.1
  have g2 := w.1.2.1
  have z0 : p + ((0 : Nat) : Int) = p := by omega
  have t0 := tri 0 (by omega)
  rw [z0] at t0
  rcases t0 with t0 | ⟨_, t0 | t0⟩
  · left
    have ef : fst1 X p = fst1 Z p := by unfold fst1; rw [t0]
    have nX : (fst1 Z p).f_n ≤ gr := by
      have := hX 0 (by omega)
      rw [z0, ← t0, ef] at this
      exact this e
    have all : ∀ i : Nat, i < (fst1 Z p).f_parts.toNat → readD X (p + i) = readD Z (p + i) := fun i hi => by
      have ok := w.2.1 i hi
      unfold OkI at ok
      rcases tri i (by omega) with t | ⟨ip, t | t⟩
      · exact t.symm
      · rw [t] at ok
        have := ok.2
        dsimp only at this
        rw [hh i ip] at this
        have := congrArg S_slot_head.f_n this
        have e9 : (headD gr bs).f_n = gr + 1 := rfl
        dsimp only at this
        omega
      · rw [t] at ok
        have := ok.1
        cases this
    obtain ⟨a, b, c, d⟩ := wh_cong w all
    exact ⟨by rw [d]; exact e, a, b.symm, c.symm⟩
  · right
    have hf : fst1 Z p = headD gr bs := by
      unfold fst1
      rw [t0]
      exact hh 0 (by omega)
    have fp : (fst1 Z p).f_parts = prtD bs.length := by rw [hf]; rfl
    refine (lay_whole (Z := Z) (p := p) (kk := kk) bl pk g0 fun j hj => ?_).2.2.2
    have ok := w.2.1 j (by rw [fp]; omega)
    unfold OkI at ok
    rcases tri j (by omega) with t | ⟨ip, t | t⟩
    · rw [t] at ok
      have h1 := hX j (by omega) ok.1
      have h2 := congrArg S_slot_head.f_n ok.2
      rw [hf] at h2
      have e9 : (headD gr bs).f_n = gr + 1 := rfl
      dsimp only at h2
      have e8 : (hdD (readD X (p + j)).1).f_n = (fst1 X (p + j)).f_n := rfl
      omega
    · exact t
    · rw [t] at ok
      have := ok.1
      cases this
  · rw [t0] at e
    cases e
theorem bp_uniq {X : DK} {fr kk a b : Int} (h1 : BP X fr kk a) (h2 : BP X fr kk b) : a = b := by
  rcases h1 with ⟨e1, n0, n1⟩ | ⟨e1, w0, q0⟩ | ⟨e1, w1, q1⟩ <;> rcases h2 with ⟨e2, m0, m1⟩ | ⟨e2, v0, r0⟩ | ⟨e2, v1, r1⟩
  · rw [e1, e2]
  · exact absurd v0 n0
  · exact absurd v1 n1
  · exact absurd w0 m0
  · rw [e1, e2]
  · have := q0 v1; have := r1 w0; omega
  · exact absurd w1 m1
  · have := q1 v0; have := r0 w1; omega
  · rw [e1, e2]
theorem bp_cong {X Z : DK} {fr kk a : Int} (h : ∀ p, readD Z p = readD X p) (b : BP X fr kk a) : BP Z fr kk a := by
  have e : readD Z = readD X := funext h
  have ef : fst1 Z = fst1 X := by funext p; unfold fst1; rw [e]
  have ec : catW Z = catW X := by funext p n; unfold catW; rw [e]
  have eo : outW Z = outW X := by funext p; unfold outW; rw [ef, ec]
  have ek : OkI Z = OkI X := by funext p i; unfold OkI; rw [e, ef]
  have ew : WholeC Z = WholeC X := by funext p k; unfold WholeC; rw [ef, ek, eo]
  have ei : IsW Z = IsW X := by funext a b c; unfold IsW; rw [e, ew]
  have en : numW Z = numW X := by funext a b c; unfold numW; rw [ef]
  unfold BP at b ⊢
  rw [ei, en]
  exact b
theorem gr_cong {X Z : DK} {fr : Int} (h : ∀ p, readD Z p = readD X p) : ∀ n, grD Z fr n = grD X fr n
  | 0 => rfl
  | n + 1 => by
    rw [grD, grD, h, gr_cong h n]
    have : fst1 Z (fr + n) = fst1 X (fr + n) := by unfold fst1; rw [h]
    rw [this]
/-! ### one round -/
structure RoundR (X : DK) (bs : List Int) (slot : Int) (Y Z : DK) : Prop where
  good : GoodX Z
  safe : Z.safe = []
  fuse : Z.fuse = 0
  dead : Z.dead = false
  gr : grD Z 0 12 ≤ grD X 0 12 + 1
  out : ∀ s, BP Z 0 6 s → (0 ≤ s ∧ outW Z (0 + s * 6) = bs) ∨ (Y.dead = true ∧ s = -1 ∧ slot = -1) ∨ (Y.dead = true ∧ 0 ≤ s ∧ s = slot ∧ outW Z (0 + s * 6) = outW X (0 + s * 6))
theorem round_ok {X : DK} {bs fs : List Int} {slot t : Int} {r : Int × Int} {Y : DK} (g : GoodX X) (hs : X.safe = []) (hd : X.dead = false) (hB : isB bs) (bl : bs.length ≤ 600) (gl : grD X 0 12 < 4611686018427387904)
    (b : BP X 0 6 slot) (ht : t = if slot = 0 then 1 else 0) (hr : (r, Y) = layD (0 + t * 6) (headD (grD X 0 12) bs) bs X (prtD bs.length).toNat) :
    ((r.2 = 0 ∧ Y.dead = false) ∨ (r.2 = 10 ∧ Y.dead = true)) ∧ RoundR X bs slot Y (bootD Y fs) := by
  have p1 := prt_pos bs.length
  have p2 := prt_bd (n := (bs.length : Int)) (by omega)
  have p6 : prtD bs.length ≤ 6 := by unfold prtD; split <;> omega
  have gn := gr_nn g 0 12
  have tt : t = 0 ∨ t = 1 := by rw [ht]; split <;> omega
  obtain ⟨gr, egr⟩ : ∃ gr, gr = grD X 0 12 := ⟨_, rfl⟩
  rw [← egr] at gl hr gn
  have er : r = (layD (0 + t * 6) (headD gr bs) bs X (prtD bs.length).toNat).1 := congrArg (·.1) hr
  have eY : Y = (layD (0 + t * 6) (headD gr bs) bs X (prtD bs.length).toNat).2 := congrArg (·.2) hr
  -- whatever happened, the places are told
  have key : ∃ m : Nat, m ≤ (prtD bs.length).toNat ∧ LU X Y (0 + t * 6) (headD gr bs) bs m ∧ ((r.2 = 0 ∧ Y.dead = false ∧ Y.safe = [] ∧ m = (prtD bs.length).toNat) ∨ (r.2 = 10 ∧ Y.dead = true)) := by
    rcases layD_end (f := headD gr bs) (bs := bs) (N := (prtD bs.length).toNat) (p := 0 + t * 6) hd hs (by omega) (by omega) with ⟨a, _, c, d, L⟩ | ⟨a, c, m, hm, L⟩
    · rw [← er] at a
      rw [← eY] at c d L
      exact ⟨_, Nat.le_refl _, L, .inl ⟨a, c, d, rfl⟩⟩
    · rw [← er] at a
      rw [← eY] at c L
      exact ⟨m, hm, L, .inr ⟨a, c⟩⟩
  obtain ⟨m, hm, L, st⟩ := key
  refine ⟨by rcases st with ⟨a, b, _⟩ | ⟨a, b⟩ <;> simp [a, b], ?_⟩
  have tv := boot_tri L fs
  have ns : ∀ j : Nat, j < m → newS (headD gr bs) bs j = laySec (headD gr bs) bs j := fun j hj => by
    unfold newS
    rw [if_pos (by show (j : Int) < prtD bs.length; omega)]
  -- the places, as they are read
  have tri : ∀ a, readD (bootD Y fs) a = readD X a ∨ ∃ j : Nat, j < m ∧ a = 0 + t * 6 + j ∧ (readD (bootD Y fs) a = (padB (laySec (headD gr bs) bs j), 0) ∨ readD (bootD Y fs) a = ([], 9)) := fun a => by
    rcases tv a with h | ⟨j, h1, h2, h | h⟩
    · exact .inl (rd_cong h)
    · exact .inr ⟨j, h1, h2, .inl (by rw [rd_new (by omega) h, ns j h1])⟩
    · exact .inr ⟨j, h1, h2, .inr (rd_torn (by omega) h)⟩
  have gZ : GoodX (bootD Y fs) := good_of rfl fun a => by
    rcases tv a with h | ⟨j, _, _, h | h⟩
    · rw [h]; exact g.1 a
    · rw [h]; exact newV_B hB
    · rw [h]; exact zero_B
  have hdn : ∀ j : Nat, j < m → (hdD (padB (laySec (headD gr bs) bs j))).f_n = gr + 1 := fun j hj => by
    have := hd_sec (f := headD gr bs) (bs := bs) (i := j) ⟨by show 0 ≤ gr + 1; omega, by show gr + 1 < _; omega⟩ (by omega) (by show 0 ≤ prtD _ ∧ prtD _ < 65536; omega) (by show (0 : Int) ≤ (bs.length : Int) ∧ (bs.length : Int) < 4294967296; omega) (sum_bd bs)
    rw [this]; rfl
  have nX : ∀ a : Int, 0 ≤ a → a < 12 → (readD X a).2 = 0 → (fst1 X a).f_n ≤ gr := fun a a0 a1 e => by
    have := gr_ge X 0 12 a.toNat (by omega)
    rw [show (0 : Int) + ((a.toNat : Nat) : Int) = a from by omega, ← egr] at this
    exact this e
  -- the other slot is as it was
  have oth : ∀ u : Int, (u = 0 ∨ u = 1) → u ≠ t → ∀ i : Nat, (i : Int) < 6 → readD (bootD Y fs) (0 + u * 6 + i) = readD X (0 + u * 6 + i) := fun u hu ne i hi => by
    rcases tri (0 + u * 6 + i) with h | ⟨j, h1, h2, _⟩
    · exact h
    · omega
  have othW : ∀ u : Int, (u = 0 ∨ u = 1) → u ≠ t → (IsW (bootD Y fs) 0 6 u ↔ IsW X 0 6 u) ∧ numW (bootD Y fs) 0 6 u = numW X 0 6 u ∧ (IsW X 0 6 u → outW (bootD Y fs) (0 + u * 6) = outW X (0 + u * 6)) := fun u hu ne => by
    have o := oth u hu ne
    have o0 := o 0 (by omega)
    rw [show 0 + u * 6 + ((0 : Nat) : Int) = 0 + u * 6 from by omega] at o0
    have to : IsW X 0 6 u → IsW (bootD Y fs) 0 6 u ∧ outW (bootD Y fs) (0 + u * 6) = outW X (0 + u * 6) := fun w => by
      have := w.2.1.2.1
      obtain ⟨a, b, c, d⟩ := wh_cong (Z := bootD Y fs) w.2 fun i hi => o i (by omega)
      exact ⟨⟨by rw [d]; exact w.1, a⟩, b⟩
    refine ⟨⟨fun w => ?_, fun w => (to w).1⟩, by unfold numW fst1; rw [o0], fun w => (to w).2⟩
    have := w.2.1.2.1
    obtain ⟨a, b, c, d⟩ := wh_cong (Z := X) w.2 fun i hi => (o i (by omega)).symm
    exact ⟨by rw [d]; exact w.1, a⟩
  have numX : ∀ u : Int, (u = 0 ∨ u = 1) → IsW X 0 6 u → numW X 0 6 u ≤ gr := fun u hu w => nX (0 + u * 6) (by omega) (by omega) w.1
  refine ⟨gZ, rfl, rfl, rfl, ?_, fun s bz => ?_⟩
  · rw [← egr]
    refine gr_le (by omega) 12 fun i hi e => ?_
    rcases tri (0 + i) with h | ⟨j, h1, h2, h | h⟩
    · have := nX (0 + i) (by omega) (by omega) (by rw [← h]; exact e)
      have e2 : fst1 (bootD Y fs) (0 + i) = fst1 X (0 + i) := by unfold fst1; rw [h]
      rw [e2]; omega
    · have : (fst1 (bootD Y fs) (0 + i)).f_n = gr + 1 := by unfold fst1; rw [h]; exact hdn j h1
      omega
    · rw [h] at e; cases e
  · rcases st with ⟨_, _, sf, em⟩ | ⟨_, dd⟩
    · -- the save is whole
      left
      have rd : ∀ j : Nat, (j : Int) < prtD bs.length → readD (bootD Y fs) (0 + t * 6 + j) = (padB (laySec (headD gr bs) bs j), 0) := fun j hj => by
        have hj' : j < m := by omega
        have : vD (bootD Y fs) (0 + t * 6 + j) = newV (headD gr bs) bs j := by rw [boot_nil sf]; exact L.all j hj'
        rw [rd_new (by omega) this, ns j hj']
      obtain ⟨a, b1, c, d⟩ := lay_whole (kk := 6) (by omega) p6 ⟨gn, gl⟩ rd
      have w : IsW (bootD Y fs) 0 6 t := ⟨a, b1⟩
      have nw : numW (bootD Y fs) 0 6 t = gr + 1 := c
      have cmp : ∀ u : Int, (u = 0 ∨ u = 1) → u ≠ t → IsW (bootD Y fs) 0 6 u → numW (bootD Y fs) 0 6 u ≤ gr := fun u hu ne wu => by
        obtain ⟨h1, h2, _⟩ := othW u hu ne
        rw [h2]; exact numX u hu (h1.1 wu)
      have es : s = t := by
        rcases bz with ⟨e1, n0, n1⟩ | ⟨e1, w0, q0⟩ | ⟨e1, w1, q1⟩
        · rcases tt with e | e
          · rw [e] at w; exact absurd w n0
          · rw [e] at w; exact absurd w n1
        · rcases tt with e | e
          · rw [e1, e]
          · rw [e] at w nw
            have := cmp 0 (.inl rfl) (by omega) w0
            have := q0 w
            omega
        · rcases tt with e | e
          · rw [e] at w nw
            have := cmp 1 (.inr rfl) (by omega) w1
            have := q1 w
            omega
          · rw [e1, e]
      rw [es]
      exact ⟨by omega, d⟩
    · -- the save was cut
      have cw : IsW (bootD Y fs) 0 6 t → (IsW X 0 6 t ∧ numW (bootD Y fs) 0 6 t = numW X 0 6 t) ∨ outW (bootD Y fs) (0 + t * 6) = bs := fun w => by
        have tr : ∀ i : Nat, (i : Int) < 6 → readD (bootD Y fs) (0 + t * 6 + i) = readD X (0 + t * 6 + i) ∨ ((i : Int) < prtD bs.length ∧ (readD (bootD Y fs) (0 + t * 6 + i) = (padB (laySec (headD gr bs) bs i), 0) ∨ readD (bootD Y fs) (0 + t * 6 + i) = ([], 9))) := fun i hi => by
          rcases tri (0 + t * 6 + i) with h | ⟨j, h1, h2, h⟩
          · exact .inl h
          · have ej : j = i := by omega
            rw [ej] at h
            exact .inr ⟨by omega, h⟩
        rcases cut_whole (X := X) (Z := bootD Y fs) (p := 0 + t * 6) (kk := 6) (gr := gr) (bs := bs) (by omega) p6 ⟨gn, gl⟩ (fun i hi => nX _ (by omega) (by omega)) tr w.1 w.2 with ⟨a, b1, c, d⟩ | h
        · exact .inl ⟨⟨a, b1⟩, by unfold numW; rw [d]⟩
        · exact .inr h
      have o0 := othW 0 (.inl rfl)
      have o1 := othW 1 (.inr rfl)
      by_cases sl : slot = 0
      · rw [if_pos sl] at ht
        subst ht
        obtain ⟨i0, n0, u0⟩ := o0 (by omega)
        have w0 : IsW X 0 6 0 := by
          rcases b with ⟨e, _⟩ | ⟨_, w, _⟩ | ⟨e, _⟩
          · omega
          · exact w
          · omega
        have q0 : IsW X 0 6 1 → numW X 0 6 1 ≤ numW X 0 6 0 := by
          rcases b with ⟨e, _⟩ | ⟨_, _, q⟩ | ⟨e, _⟩
          · omega
          · exact q
          · omega
        rcases bz with ⟨e1, m0, m1⟩ | ⟨e1, v0, q1⟩ | ⟨e1, v1, q1⟩
        · exact absurd (i0.2 w0) m0
        · exact .inr (.inr ⟨dd, by omega, by omega, by rw [e1]; exact u0 w0⟩)
        · rcases cw v1 with ⟨a, c⟩ | h
          · have := q1 (i0.2 w0)
            have := q0 a
            omega
          · exact .inl ⟨by omega, by rw [e1]; exact h⟩
      · rw [if_neg sl] at ht
        subst ht
        obtain ⟨i1, n1, u1⟩ := o1 (by omega)
        rcases bz with ⟨e1, m0, m1⟩ | ⟨e1, v0, q1⟩ | ⟨e1, v1, q1⟩
        · refine .inr (.inl ⟨dd, e1, ?_⟩)
          rcases b with ⟨e, _⟩ | ⟨e, _, _⟩ | ⟨e, w, _⟩
          · exact e
          · omega
          · exact absurd (i1.2 w) m1
        · rcases cw v0 with ⟨a, c⟩ | h
          · rcases b with ⟨e, w, _⟩ | ⟨e, _, _⟩ | ⟨e, w, q⟩
            · exact absurd a w
            · omega
            · have := q1 (i1.2 w)
              have := q a
              omega
          · exact .inl ⟨by omega, by rw [e1]; exact h⟩
        · have wx := i1.1 v1
          have es : slot = 1 := by
            rcases b with ⟨e, _, w⟩ | ⟨e, _, _⟩ | ⟨e, w, q⟩
            · exact absurd wx w
            · omega
            · exact e
          exact .inr (.inr ⟨dd, by omega, by omega, by rw [e1]; exact u1 wx⟩)
end Go.Q.Ye
