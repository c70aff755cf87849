/- A part of the proof of statements of this seat: lemmas, no statement of their own. -/
import Derived.Test.YtmhadeadjjkkcaaDoorYeFb
set_option linter.unusedVariables false
set_option linter.unusedSimpArgs false
set_option maxRecDepth 100000
/- Slot: is a slot whole: walked. -/
namespace Go.Q.Ye
variable {B c : Nat} {h h' : Heap} {d rn rs pr : Nat} {X : DK}
abbrev zHd : S_slot_head := ⟨0, 0, 0, 0, 0⟩
theorem Place_ok {fr kk slot i : Int} {k : Int → Heap → Prop} (P : PairAt h pr d fr kk) (f0 : 0 ≤ fr ∧ fr ≤ 2000) (k0 : 0 ≤ kk ∧ kk ≤ 2000) (s0 : 0 ≤ slot ∧ slot ≤ 1) (i0 : 0 ≤ i ∧ i ≤ 100000) (H : k (fr + slot * kk + i) h) : slot_Pair_place (some ⟨pr, 0, none⟩) slot i k h := by
  unfold slot_Pair_place
  refine ⟨_, rfl, fr, by rw [add_mk, P.cell]; rfl, kk, by rw [add_mk, P.cell]; rfl, ?_⟩
  have hs : slot * kk = 0 ∨ slot * kk = kk := by
    have : slot = 0 ∨ slot = 1 := by omega
    rcases this with rfl | rfl
    · left; simp
    · right; simp
  rw [wrapI64 (x := slot * kk) (by omega) (by omega), wrapI64 (x := fr + slot * kk) (by omega) (by omega), wrapI64 (by omega) (by omega)]
  exact H
/-- where the walk of a slot stands -/
structure WI (b1 : Nat) (h0 h : Heap) (X : DK) (p kk : Int) (s : Slc) (i : Int) (f0 : S_slot_head) : Prop where
  i0 : 0 ≤ i
  i1 : i ≤ 600
  E : Ext b1 h0 h
  z : b1 + 1 ≤ h.size
  P : Blk h b1 (S_slot_head.cs f0) 73
  R : Row (b1 + 1) h 5 1 s (b8 (catW X p i.toNat))
  f : (i = 0 ∧ f0 = zHd) ∨ (0 < i ∧ f0 = fst1 X p ∧ GoodF f0 kk ∧ i ≤ f0.f_parts)
  ok : ∀ j : Nat, j < i.toNat → OkI X p j
theorem WI.ext {b1 : Nat} {h0 h h' : Heap} {p kk i : Int} {s : Slc} {f0 : S_slot_head} (w : WI b1 h0 h X p kk s i f0) (E : Ext h.size h h') : WI b1 h0 h' X p kk s i f0 :=
  { w with E := w.E.trans (E.mono (by have := w.z; omega)), z := Nat.le_trans w.z E.size, P := w.P.ext E w.P.lt, R := w.R.ext E fun g hg => (w.R.bd hg).2 }

theorem Whole_ok {fr kk slot : Int} {k : Slc × Int × Bool → Heap → Prop} (D : DAt B c h d rn rs X) (P : PairAt h pr d fr kk) (r : R0 h) (g : GoodX X) (f0 : 0 ≤ fr ∧ fr ≤ 2000) (k0 : 1 ≤ kk ∧ kk ≤ 512) (s0 : 0 ≤ slot ∧ slot ≤ 1)
    (H0 : ¬ ((readD X (fr + slot * kk)).2 = 0 ∧ WholeC X (fr + slot * kk) kk) → ∀ h', Ext h.size h h' → k (⟨none, 0, 0⟩, 0, false) h')
    (H1 : WholeC X (fr + slot * kk) kk → (readD X (fr + slot * kk)).2 = 0 → ∀ s h', SlcAt h' s (b8 (outW X (fr + slot * kk))) → s.len = (outW X (fr + slot * kk)).length → s.len ≤ s.cap → (∀ a, s.a = some a → h.size ≤ a.block) → Ext h.size h h' → k (s, (fst1 X (fr + slot * kk)).f_n, true) h') :
    slot_Pair_whole (some ⟨pr, 0, none⟩) slot k h := by
  have r0 := r.pos
  generalize ep : fr + slot * kk = p at *
  unfold slot_Pair_whole
  refine ⟨_, _, rfl, rfl, ?_⟩
  have P1 := Blk.push h (S_slot_head.cs zHd) 73
  have W1 := Ext.push h (.cells (S_slot_head.cs zHd).toArray 73) (Nat.le_refl _)
  have pl := P1.lt
  generalize h.push (.cells (S_slot_head.cs zHd).toArray 73) = h2 at *
  obtain ⟨b1, eb1⟩ : ∃ y, y = h.size := ⟨_, rfl⟩
  rw [← eb1] at P1 W1 pl H0 H1 r0 ⊢
  have hdp := hd_bd g p
  unfold slot_Pair_whole_l1
  refine ⟨fun q h' => ∃ f0, WI b1 h h' X p kk q.1 q.2 f0, fun q _ => (1000 - q.2).toNat, ⟨zHd, by dsimp only; omega, by dsimp only; omega, W1, by omega, P1, Row.nil _ _ _ _, .inl ⟨rfl, rfl⟩, fun j hj => by simp at hj⟩, ?_⟩
  rintro s i h3 ⟨fh, w⟩
  dsimp only at w
  have bad : ∀ {h'}, (¬ ((readD X p).2 = 0 ∧ WholeC X p kk)) → Ext b1 h h' → k (⟨none, 0, 0⟩, 0, false) h' := fun {h'} no E => H0 no h' E
  have D3 : DAt B c h3 d rn rs X := D.ext (by rw [← eb1]; exact w.E)
  have Q3 : PairAt h3 pr d fr kk := Blk.ext P (by rw [← eb1]; exact w.E) P.lt
  have i0 := w.i0
  have i1 := w.i1
  -- one sector more
  have more : (i = 0 ∨ (0 < i ∧ i < (fst1 X p).f_parts)) → slot_Pair_whole_g2 (some ⟨pr, 0, none⟩) slot s ⟨b1, 0, none⟩ i true k (fun s' h' => (∃ f0, WI b1 h h' X p kk s'.1 s'.2 f0) ∧ (1000 - s'.2).toNat < (1000 - i).toNat) h3 := fun hi => by
    have hin : ∀ C : Prop, ((readD X p).2 = 0 ∧ WholeC X p kk → OkI X p i.toNat) := fun _ wc => wc.2.2.1 i.toNat (by
      have g1 := wc.2.1.1
      rcases hi with e | e <;> omega)
    unfold slot_Pair_whole_g2
    rw [if_pos rfl]
    refine ⟨_, rfl, some ⟨d, 0, none⟩, by rw [Q3.cell]; rfl, Place_ok Q3 f0 ⟨by omega, by omega⟩ s0 ⟨i0, by omega⟩ ⟨by rw [Q3.cell]; rfl, ?_⟩⟩
    rw [ep]
    refine DRead_ok D3 fun t h9 St lt ct ft X9 => ?_
    by_cases er : (readD X (p + i)).2 = 0
    · rw [if_neg (by rw [er]; simp)]
      have lb := read_len er
      refine headOf_ok St lt lb (by dsimp only; omega) (read_B g _) fun h11 X11 => ?_
      have X911 := X9.trans (X11.mono X9.size)
      have w11 := w.ext X911
      refine ⟨_, _, rfl, rfl, ?_⟩
      have V := Blk.push h11 (S_slot_head.cs zHd) 73
      have W13 := Ext.push h11 (.cells (S_slot_head.cs zHd).toArray 73) (Nat.le_refl _)
      generalize h11.push (.cells (S_slot_head.cs zHd).toArray 73) = h13 at *
      refine ⟨_, WrsAt.of_blk V (by show 5 ≤ 5; omega), rfl, ?_⟩
      have V14 := V.sets_all (vs := S_slot_head.cs (hdD (readD X (p + i)).1)) rfl
      have X14 : Ext h11.size h11 (setsH h13 ⟨h11.size, 0, none⟩ 0 (S_slot_head.cs (hdD (readD X (p + i)).1))) := W13.trans (Ext.sets _ _ _ (Nat.le_refl _))
      generalize setsH h13 ⟨h11.size, 0, none⟩ 0 (S_slot_head.cs (hdD (readD X (p + i)).1)) = h14 at *
      have w14 := w11.ext X14
      have X914 := X911.trans (X14.mono X911.size)
      have St14 : SlcAt h14 t (b8 (readD X (p + i)).1) := (St.ext X11).ext X14
      have bl : b1 < h11.size := by have := w11.z; omega
      -- the rest, the head of the first sector being laid
      have rest : ∀ h15, Blk h15 b1 (S_slot_head.cs (fst1 X p)) 73 → Blk h15 h11.size (S_slot_head.cs (hdD (readD X (p + i)).1)) 73 → (∀ j, j ≠ b1 → h15[j]? = h14[j]?) → h15.size = h14.size → slot_Pair_whole_j3 (some ⟨pr, 0, none⟩) slot s ⟨b1, 0, none⟩ i t ⟨h11.size, 0, none⟩ k (fun s' h' => (∃ f0, WI b1 h h' X p kk s'.1 s'.2 f0) ∧ (1000 - s'.2).toNat < (1000 - i).toNat) h15 := fun h15 Pb Vb o15 s15 => by
        have X015 : Ext b1 h h15 := by
          refine w14.E.trans ⟨by omega, fun j hj => o15 j (by omega)⟩
        have R15 : Row (b1 + 1) h15 5 1 s (b8 (catW X p i.toNat)) := w14.R.keep fun q hq => o15 q (by have := (w14.R.bd hq).1; omega)
        have S15 : SlcAt h15 t (b8 (readD X (p + i)).1) := ⟨St14.1, fun a ha j v hj => by
          have := St14.2 a ha j v hj
          have hb := ft a ha
          have z3 := w.z
          rw [cellH_of (o15 _ (by show (a.add j).block ≠ b1; have : (a.add j).block = a.block := by unfold Addr.add; split <;> rfl
                                  omega))]
          exact this⟩
        have D15 : PairAt h15 pr d fr kk := Blk.ext P (by rw [← eb1]; exact X015) P.lt
        have z15 : b1 + 1 ≤ h15.size := by have := w14.z; omega
        unfold slot_Pair_whole_j3
        refine ⟨fst1 X p, CellsAt.of_blk Pb, _, _, rfl, rfl, ?_⟩
        have U := Blk.push h15 (S_slot_head.cs zHd) 73
        have W17 := Ext.push h15 (.cells (S_slot_head.cs zHd).toArray 73) (Nat.le_refl _)
        generalize h15.push (.cells (S_slot_head.cs zHd).toArray 73) = h17 at *
        refine ⟨_, WrsAt.of_blk U (by show 5 ≤ 5; omega), rfl, ?_⟩
        have U18 := U.sets_all (vs := S_slot_head.cs (fst1 X p)) rfl
        have X18 : Ext h15.size h15 (setsH h17 ⟨h15.size, 0, none⟩ 0 (S_slot_head.cs (fst1 X p))) := W17.trans (Ext.sets _ _ _ (Nat.le_refl _))
        generalize setsH h17 ⟨h15.size, 0, none⟩ 0 (S_slot_head.cs (fst1 X p)) = h18 at *
        refine ⟨_, by rw [add_mk]; exact U18.wr (by show _ < 5; omega), rfl, ?_⟩
        rw [add_mk]
        have U19 : Blk (setH h18 ⟨h15.size, 0 + 1, none⟩ (.int .i64 i)) h15.size (S_slot_head.cs { fst1 X p with f_part := i }) 73 := U18.set
        have X19 : Ext h15.size h15 (setH h18 ⟨h15.size, 0 + 1, none⟩ (.int .i64 i)) := X18.trans (Ext.set _ _ (Nat.le_refl _))
        generalize setH h18 ⟨h15.size, 0 + 1, none⟩ (.int .i64 i) = h19 at *
        have z19 := X19.size
        have vl := Vb.lt
        have V19 := Vb.ext X19 vl
        have X019 : Ext b1 h h19 := X015.trans (X19.mono (by omega))
        have R19 := R15.ext X19 fun q hq => (R15.bd hq).2
        have P19 := Pb.ext X19 Pb.lt
        have S19 := S15.ext X19
        have D19 : PairAt h19 pr d fr kk := Blk.ext D15 X19 D15.lt
        have j4t : slot_Pair_whole_j4 (some ⟨pr, 0, none⟩) slot s ⟨b1, 0, none⟩ i t true k (fun s' h' => (∃ f0, WI b1 h h' X p kk s'.1 s'.2 f0) ∧ (1000 - s'.2).toNat < (1000 - i).toNat) = fun h' => k (⟨none, 0, 0⟩, 0, false) h' := by
          funext h'; unfold slot_Pair_whole_j4; rw [if_pos rfl]
        refine ⟨_, CellsAt.of_blk V19, _, CellsAt.of_blk U19, ?_⟩
        by_cases e : hdD (readD X (p + i)).1 = { fst1 X p with f_part := i }
        · have e2 := part_eq.2 e
          rw [if_neg (by rw [if_neg (by decide), e2]; decide)]
          have okn : OkI X p i.toNat := by
            unfold OkI
            rw [show ((i.toNat : Nat) : Int) = i from by omega]
            exact ⟨er, e⟩
          have ep2 : (hdD (readD X (p + i)).1).f_parts = (fst1 X p).f_parts := by rw [e]
          have es2 : (hdD (readD X (p + i)).1).f_size = (fst1 X p).f_size := by rw [e]
          refine ⟨_, by rw [add_mk, V19.cell]; rfl, ?_⟩
          rw [ep2]
          by_cases q1 : (fst1 X p).f_parts < 1
          · rw [if_pos (by rw [decide_eq_true_eq]; exact q1), if_pos rfl, j4t]
            exact bad (fun wc => by have := wc.2.1.1; omega) X019
          rw [if_neg (by rw [decide_eq_true_eq]; exact q1)]
          refine ⟨_, by rw [add_mk, V19.cell]; rfl, _, rfl, kk, by rw [add_mk, D19.cell]; rfl, ?_⟩
          rw [ep2]
          by_cases q2 : (fst1 X p).f_parts > kk
          · rw [if_pos (by rw [decide_eq_true_eq]; exact q2), j4t]
            exact bad (fun wc => by have := wc.2.1.2.1; omega) X019
          rw [if_neg (by rw [decide_eq_true_eq]; exact q2)]
          refine ⟨_, by rw [add_mk, V19.cell]; rfl, _, by rw [add_mk, V19.cell]; rfl, ?_⟩
          rw [ep2, es2]
          refine Parts_ok hdp.1 (by omega) ⟨by rw [add_mk, V19.cell, ← ep2]; rfl, ?_⟩
          by_cases q3 : (fst1 X p).f_parts = prtD (fst1 X p).f_size
          · rw [show ((fst1 X p).f_parts != prtD (fst1 X p).f_size) = false from by simpa using q3]
            unfold slot_Pair_whole_j4
            rw [if_neg (by simp)]
            have tl : t.len = 128 := by rw [← lb]; exact lt
            rw [tl, wrapI64 (x := ((128 : Nat) : Int) - 104) (by omega) (by omega)]
            refine ⟨_, by omega, by omega, by omega, by omega, rfl, b8 ((readD X (p + i)).1.drop 24), ?_, ?_⟩
            · have := SlcAt.sub (w := 1) (l := (((128 : Nat) : Int) - 104).toNat) (u := (((128 : Nat) : Int)).toNat) (m := ((t.cap : Nat) : Int).toNat) S19 (by omega) (by omega)
              rw [Nat.mul_one, Nat.mul_one, ← List.map_drop, ← List.map_take, List.take_of_length_le (by rw [List.length_drop, lb]; omega)] at this
              exact this
            · have ls : s.len = 104 * i.toNat := by
                have := R19.len
                rw [this, List.length_map, catW_len]
                intro j hj; exact (w.ok j hj).1
              refine App.row2 R19 (by omega) rfl (by rw [List.length_map, List.length_drop, lb]; rfl) (b8_one _) (by show (s.len + (128 - 24)) * 1 ≤ _; omega) (by show s.len + (128 - 24) ≤ _; simp only [maxLen]; omega) fun s' h22 R22 _ z22 kp _ _ => ?_
              have ne : ∀ j, j ≤ b1 → s.blk ≠ some j := fun j hj e => by have := (R19.bd e).1; omega
              refine ⟨_, rfl, ?_⟩
              rw [wrapI64 (by omega) (by omega)]
              have ip : i + 1 ≤ (fst1 X p).f_parts := by rcases hi with e | e <;> omega
              refine ⟨⟨fst1 X p, ⟨by dsimp only; omega, by dsimp only; omega, X019.trans ⟨z22, fun j hj => kp j (by omega) (ne j (by omega))⟩, by omega, P19.old (kp b1 P19.lt (ne b1 (Nat.le_refl _))), ?_, .inr ⟨by dsimp only; omega, rfl, ⟨by omega, by omega, q3⟩, ip⟩, fun j hj => ?_⟩⟩, by dsimp only; omega⟩
              · dsimp only
                rw [show (i + 1).toNat = i.toNat + 1 from by omega, catW_succ, show ((i.toNat : Nat) : Int) = i from by omega, b8, List.map_append]
                exact R22
              · dsimp only at hj
                by_cases ej : j < i.toNat
                · exact w.ok j ej
                · rw [show j = i.toNat from by omega]; exact okn
          · rw [show ((fst1 X p).f_parts != prtD (fst1 X p).f_size) = true from by simpa using q3, j4t]
            exact bad (fun wc => q3 wc.2.1.2.2) X019
        · have e2 : ((hdD (readD X (p + i)).1).f_n == ({ fst1 X p with f_part := i } : S_slot_head).f_n && (hdD (readD X (p + i)).1).f_part == ({ fst1 X p with f_part := i } : S_slot_head).f_part && (hdD (readD X (p + i)).1).f_parts == ({ fst1 X p with f_part := i } : S_slot_head).f_parts && (hdD (readD X (p + i)).1).f_size == ({ fst1 X p with f_part := i } : S_slot_head).f_size && (hdD (readD X (p + i)).1).f_sum == ({ fst1 X p with f_part := i } : S_slot_head).f_sum) = false := by
            cases hh : ((hdD (readD X (p + i)).1).f_n == ({ fst1 X p with f_part := i } : S_slot_head).f_n && (hdD (readD X (p + i)).1).f_part == ({ fst1 X p with f_part := i } : S_slot_head).f_part && (hdD (readD X (p + i)).1).f_parts == ({ fst1 X p with f_part := i } : S_slot_head).f_parts && (hdD (readD X (p + i)).1).f_size == ({ fst1 X p with f_part := i } : S_slot_head).f_size && (hdD (readD X (p + i)).1).f_sum == ({ fst1 X p with f_part := i } : S_slot_head).f_sum) with
            | false => rfl
            | true => exact absurd (part_eq.1 hh) e
          rw [if_pos (by rw [if_neg (by decide), e2]; rfl), if_pos rfl, if_pos rfl, j4t]
          refine bad (fun wc => e ?_) X019
          have := (hin True wc).2
          rw [show ((i.toNat : Nat) : Int) = i from by omega] at this
          exact this
      by_cases iz : i = 0
      · rw [if_pos (by simpa using iz)]
        refine ⟨_, CellsAt.of_blk V14, _, WrsAt.of_blk w14.P (by show 5 ≤ 5; omega), rfl, ?_⟩
        have ef : hdD (readD X (p + i)).1 = fst1 X p := by unfold fst1; rw [iz, Int.add_zero]
        rw [ef] at V14 ⊢
        have o15 : ∀ j, j ≠ b1 → (setsH h14 ⟨b1, 0, none⟩ 0 (S_slot_head.cs (fst1 X p)))[j]? = h14[j]? := fun j hj => setsH_other _ _ hj
        exact rest _ (w14.P.sets_all rfl) (by rw [ef]; exact V14.old (o15 _ (by omega))) o15 (setsH_size _ _)
      · rw [if_neg (by simpa using iz)]
        rcases w14.f with ⟨z, _⟩ | ⟨_, ef, _⟩
        · exact absurd z iz
        · have P14 := w14.P
          rw [ef] at P14
          exact rest h14 P14 V14 (fun _ _ => rfl) rfl
    · rw [if_pos (by simpa using er)]
      refine bad (fun wc => er ?_) (w.E.trans (X9.mono (by have := w.z; omega)))
      have := (hin True wc).1
      rw [show ((i.toNat : Nat) : Int) = i from by omega] at this
      exact this
  unfold slot_Pair_whole_l1b
  by_cases iz : i = 0
  · rw [if_pos (by simpa using iz)]
    exact more (.inl iz)
  rw [if_neg (by simpa using iz)]
  rcases w.f with ⟨z, _⟩ | ⟨ip, ef, gf, il⟩
  · exact absurd z iz
  subst ef
  refine ⟨_, by rw [add_mk, w.P.cell]; rfl, ?_⟩
  by_cases lt : i < (fst1 X p).f_parts
  · rw [decide_eq_true lt]
    exact more (.inr ⟨ip, lt⟩)
  rw [decide_eq_false lt]
  have ie : i = (fst1 X p).f_parts := by omega
  have R := w.R
  rw [ie] at R
  have er : (readD X p).2 = 0 := by
    have := (w.ok 0 (by omega)).1
    rw [show p + ((0 : Nat) : Int) = p from by omega] at this
    exact this
  have lsz := catW_len (X := X) (p := p) i.toNat fun j hj => (w.ok j hj).1
  rw [ie] at lsz
  have ls : s.len = 104 * (fst1 X p).f_parts.toNat := by have := R.len; rw [this, List.length_map, lsz]
  have lc := R.cap
  have q3 := gf.2.2
  have szb : (fst1 X p).f_size ≤ 104 * (fst1 X p).f_parts := by rw [q3]; unfold prtD; split <;> omega
  have q2 := gf.2.1
  unfold slot_Pair_whole_g2
  rw [if_neg (by simp)]
  have zz := w.z
  refine ⟨_, by rw [add_mk, w.P.cell]; rfl, _, by omega, by omega, by omega, by omega, rfl, _, by rw [add_mk, w.P.cell]; rfl, _, _, rfl, rfl, ?_⟩
  have So : SlcAt h3 (subS s 1 (0 : Int).toNat (fst1 X p).f_size.toNat ((s.cap : Nat) : Int).toNat) (b8 (outW X p)) := by
    have := SlcAt.sub (w := 1) (l := (0 : Int).toNat) (u := (fst1 X p).f_size.toNat) (m := ((s.cap : Nat) : Int).toNat) R.slc (by simp) (by omega)
    rw [Nat.mul_one, Nat.mul_one, ← List.map_drop, ← List.map_take] at this
    exact this
  have lo : (outW X p).length = (fst1 X p).f_size.toNat := by unfold outW; rw [List.length_take, lsz]; omega
  have fa : ∀ a, (subS s 1 (0 : Int).toNat (fst1 X p).f_size.toNat ((s.cap : Nat) : Int).toNat).a = some a → b1 ≤ a.block := fun a ha => by
    have : ∃ a', s.a = some a' ∧ a'.block = a.block := by
      unfold subS at ha
      simp only at ha
      split at ha
      · exact ⟨a, ha, rfl⟩
      · cases hs : s.a with
        | none => rw [hs] at ha; cases ha
        | some a' =>
          rw [hs] at ha
          refine ⟨a', rfl, ?_⟩
          have := Option.some.inj ha
          rw [← this]
          unfold Addr.add; split <;> rfl
    obtain ⟨a', h1, h2⟩ := this
    have := (R.bd (g := a'.block) (by simp [Slc.blk, h1])).1
    omega
  generalize es : subS s 1 (0 : Int).toNat (fst1 X p).f_size.toNat ((s.cap : Nat) : Int).toNat = s5 at *
  have l5 : s5.len = (outW X p).length := by rw [← es, lo]; show (fst1 X p).f_size.toNat - (0 : Int).toNat = _; simp
  have c5 : s5.len ≤ s5.cap := by rw [← es]; show (fst1 X p).f_size.toNat - (0 : Int).toNat ≤ ((s.cap : Nat) : Int).toNat - (0 : Int).toNat; simp only [Int.toNat_zero, Int.toNat_natCast]; omega
  have V := Blk.push h3 [Slc.v s5] 23
  have W4 := Ext.push h3 (.cells ([Slc.v s5] : List Value).toArray 23) (Nat.le_refl _)
  generalize h3.push (.cells ([Slc.v s5] : List Value).toArray 23) = h4 at *
  have w4 := w.ext W4
  have z4 := W4.size
  refine ⟨by rw [add_mk, w4.P.cell]; rfl, Of_ok ((r.ext w4.E r0)) (V.slc (o := 0) (n := 1) rfl) rfl (So.ext W4) l5 (by rw [lo]; omega) fun h5 X5 => ?_⟩
  have w5 := w4.ext X5
  refine ⟨by rw [add_mk, w5.P.cell]; rfl, Short_ok (shaD_len _) (shaD_B _) fun h6 X6 => ?_⟩
  have w6 := w5.ext X6
  refine ⟨by rw [add_mk, w6.P.cell]; rfl, ?_⟩
  have ok' : ∀ j : Nat, j < (fst1 X p).f_parts.toNat → OkI X p j := fun j hj => w.ok j (by omega)
  rcases Classical.em (numL ((shaD (outW X p)).take 8) = (fst1 X p).f_sum) with sm | sm
  · rw [if_neg (by rw [bne_iff_ne]; exact fun e => e sm)]
    refine ⟨_, by rw [w6.P.cell]; rfl, ?_⟩
    exact H1 ⟨gf, ok', sm⟩ er s5 h6 (((So.ext W4).ext X5).ext X6) l5 c5 fa w6.E
  · rw [if_pos (by rw [bne_iff_ne]; exact sm)]
    exact bad (fun wc => sm wc.2.2.2) w6.E
end Go.Q.Ye
