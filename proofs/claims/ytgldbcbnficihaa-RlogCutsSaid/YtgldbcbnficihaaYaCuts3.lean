/- A part of the proof of statements of this seat: lemmas, no statement of their own. -/
import Derived.Test.YtgldbcbnficihaaYaCuts2
set_option linter.unusedVariables false
set_option linter.unusedSimpArgs false
namespace Go.Q.Ya
theorem if_false' {A B : Prop} (h : B) : if false = true then A else B := by rw [if_neg (by simp)]; exact h
theorem if_true'' {A B : Prop} (h : A) : if true = true then A else B := by rw [if_pos rfl]; exact h
theorem g1_ok {ix tm ct : Int} {p2 p4 : Slc} {es fs : List Ent} {t : Bool} {k : Bool → Heap → Prop} {h : Heap} (x0 : 0 ≤ ix) (c0 : 0 ≤ ct) (A : ArgE h.size h p2 es) (C : ArgE h.size h p4 fs) (hs : t = false → small es ∧ small fs)
    (H : ∀ h', Ext h.size h h' → k true h') : law23_RlogCuts_g1 ix tm p2 ct p4 t k h := by
  unfold law23_RlogCuts_g1
  have Ae := A.ents
  have Ce := C.ents
  by_cases hc : (t = true ∨ es.length > 60) ∨ ix > 1152921504606846976 ∨ ct > 2305843009213693952
  · rw [if_pos (by
      simp only [Bool.or_eq_true, decide_eq_true_eq, Ae.l]
      rcases hc with (hc | hc) | hc | hc
      · exact .inl (.inl (.inl hc))
      · exact .inl (.inl (.inr (by omega)))
      · exact .inl (.inr hc)
      · exact .inr hc)]
    exact awake23_ok H
  · have ht : t = false := by cases t <;> simp_all
    obtain ⟨se, sf⟩ := hs ht
    have okA := A.ok se
    have okC := C.ok sf
    have sC := sf.1
    rw [if_neg (by
      simp only [Bool.or_eq_true, decide_eq_true_eq, Ae.l, ht]
      rintro (((h | h) | h) | h)
      · cases h
      · exact hc (.inl (.inr (by omega)))
      · exact hc (.inr (.inl h))
      · exact hc (.inr (.inr h)))]
    have l60 : es.length ≤ 60 := by omega
    refine New_ok Ae okA (by omega) fun a h1 sa va La X1 => ?_
    refine New_ok (A.at' h1 X1) okA (by omega) fun b h2 sb vb Lb X2 => ?_
    have z1 := X1.size
    have z2 := X2.size
    have La2 := La.ext X2
    have X02 : Ext h.size h h2 := X1.trans (X2.mono z1)
    refine Cut_ok La2 (by omega) x0 (by omega) c0 (by omega) (by omega) fun h3 sa' va' La3 F3 hb3 => ?_
    have z3 := F3.size
    have alt := La.k.lt
    have sal : ∀ g, sa.blk = some g → g < h1.size := fun g hg => (La.o.r.bd hg).2
    have X23 : Ext h.size h2 h3 := F3.below (by omega) La.hb fun g hg => (La.o.r.bd hg).1
    have X03 := X02.trans X23
    -- the other log is as it was
    have Lb3 : LogAt h1.size h3 b ix tm es sb vb := by
      have kb : ∀ g, h1.size ≤ g → g < h2.size → h3[g]? = h2[g]? := fun g h1' h2' => F3.old g h2' (by omega) fun e => by have := sal g e; omega
      exact ⟨Lb.k.old (kb b Lb.hb Lb.k.lt), ⟨Lb.o.r.keep fun g hg => kb g (Lb.o.r.bd hg).1 (Lb.o.r.bd hg).2, Lb.o.l, fun i v e hv he => ⟨(Lb.o.e i v e hv he).1, (Lb.o.e i v e hv he).2.keep fun g hg => kb g ((Lb.o.e i v e hv he).2.bd hg).1 ((Lb.o.e i v e hv he).2.bd hg).2⟩⟩, Lb.hb⟩
    by_cases he : (termOf ix tm es ct).2 = 0
    · have ec : cutRes ix tm es ct = (ct, (termOf ix tm es ct).1, es.drop (ct - ix).toNat, 0) := by unfold cutRes; rw [if_neg (by simp [he])]
      rw [ec] at La3 ⊢
      have hb := termOf_ok he
      dsimp only at La3 ⊢
      rw [if_neg (by simp)]
      have hl' : ((es.drop (ct - ix).toNat).length : Int) = es.length - (ct - ix) := by rw [List.length_drop]; omega
      have okd : esOk (es.drop (ct - ix).toNat) := fun e he' => okA e (List.mem_of_mem_drop he')
      have okm : ∀ n, esOk (fs.take n) := fun n e he' => okC e (List.mem_of_mem_take he')
      have capA := A.cap
      have capC := C.cap
      have lA := Ae.l
      have lC := Ce.l
      have w1 : IntKind.u64.wrap (ct - ix) = ct - ix := wrapU64 (by omega) (by omega)
      rw [w1]
      refine ⟨_, by omega, by omega, by omega, by omega, rfl, ?_⟩
      refine Entries_ok La3 okd (by omega) fun r h4 vr O4 X4 => ?_
      have z4 := X4.size
      have X04 := X03.trans (X4.mono (by omega))
      have sub : ∀ h', Ext h.size h h' → EntsAt h' (subS p2 2 (ct - ix).toNat (p2.len : Int).toNat (p2.cap : Int).toNat) (es.drop (ct - ix).toNat) := fun h' X => by
        have := (A.at' h' X).sub (l := (ct - ix).toNat) (u := es.length) (m := p2.cap) (by omega) (Nat.le_refl _) (by omega)
        rw [List.take_of_length_le (by rw [List.length_drop]; omega)] at this
        rw [Int.toNat_natCast, Int.toNat_natCast, lA]; exact this
      refine entSame_ok O4.ents (sub h4 X04) okd (by omega) ?_
      rw [show decide (es.drop (ct - ix).toNat = es.drop (ct - ix).toNat) = true from by simp]
      rw [if_neg (by simp)]
      have La4 := La3.ext X4
      have Lb4 := Lb3.ext X4
      refine ⟨fun i h' => ct ≤ i ∧ i ≤ ct + 70 ∧ h' = h4, fun i _ => (ct + 70 - i).toNat, ⟨by omega, by omega, rfl⟩, ?_⟩
      rintro i h' ⟨i0, i1, hh⟩
      subst hh
      unfold law23_RlogCuts_l3b
      rw [wrapU64 (x := ct + 70) (by omega) (by omega)]
      by_cases hi : i < ct + 70
      · rw [if_pos (by simpa using hi)]
        refine Term_ok La4 c0 (by omega) (by omega) (by omega) (by omega) (Term_ok Lb4 x0 (by omega) (by omega) (by omega) (by omega) ?_)
        rw [term_cut he i0]
        rw [if_neg (by simp), wrapU64 (by omega) (by omega)]
        exact ⟨_, rfl, ⟨by omega, by omega, rfl⟩, by dsimp only; omega⟩
      · rw [if_neg (by simpa using hi)]
        have w100 : IntKind.i64.wrap (if 100 < ct then 100 else ct) = if 100 < ct then 100 else ct := wrapI64 (by split <;> omega) (by split <;> omega)
        obtain ⟨n, hn⟩ : ∃ n : Nat, (n : Int) = if (if 100 < ct then 100 else ct) < (fs.length : Int) then (if 100 < ct then 100 else ct) else fs.length :=
          ⟨(if (if 100 < ct then 100 else ct) < (fs.length : Int) then (if 100 < ct then 100 else ct) else fs.length : Int).toNat, by split <;> (try split) <;> omega⟩
        have n1 : n ≤ fs.length := by split at hn <;> (try split at hn) <;> omega
        have n2 : (n : Int) ≤ ct := by split at hn <;> (try split at hn) <;> omega
        refine ⟨(n : Int), by rw [lC, w100]; exact hn, ?_⟩
        refine ⟨_, by omega, by omega, by omega, by omega, rfl, ?_⟩
        rw [wrapU64 (x := (n : Int)) (by omega) (by omega), wrapU64 (x := ct - n) (by omega) (by omega)]
        have X0g : ∀ {h'}, LFr a sa' h' h' := fun {h'} => LFr.refl _ _ _
        have hA : ∀ h5, LFr a sa' h' h5 → EntsAt h5 (subS p4 2 (0 : Int).toNat (n : Int).toNat (p4.cap : Int).toNat) (fs.take n) := fun h5 F5 => by
          have X5 := F5.below (B := h.size) (by omega) La4.hb fun g hg => (La4.o.r.bd hg).1
          have := (C.at' h5 (X04.trans X5)).sub (l := 0) (u := n) (m := p4.cap) (by omega) n1 (by omega)
          rw [List.drop_zero, Nat.sub_zero] at this
          rw [Int.toNat_natCast, Int.toNat_natCast]; exact this
        refine Append_ok La4 (by omega) hA okd (okm n) c0 (by omega) (by omega) (by omega) (by omega) (by rw [List.length_take]; omega) fun h5 s5 vs5 L5 F5 hb5 => ?_
        have X5 := F5.below (B := h.size) (by omega) La4.hb fun g hg => (La4.o.r.bd hg).1
        have X05 := X04.trans X5
        have z5 := X05.size
        by_cases n0 : n = 0
        · rw [if_pos (by simp [n0])]
          exact awake23_ok fun h6 X6 => H h6 (X05.trans (X6.mono z5))
        · have hlt : (fs.take n).length = n := by rw [List.length_take]; omega
          have happ : appRes ct (termOf ix tm es ct).1 (es.drop (ct - ix).toNat) (ct - n) 77 (fs.take n) = (es.drop (ct - ix).toNat, ct, 0) := by
            unfold appRes
            rw [if_neg (fun h => by have := h.1; omega), appN_below _ (by rw [hlt]; omega), if_neg (by omega), hlt]
            congr 2; omega
          rw [happ] at L5 ⊢
          dsimp only at L5 ⊢
          rw [if_neg (by simp [n0]), if_pos (by simp), if_pos (by simp)]
          rw [w1]
          refine ⟨_, by omega, by omega, by omega, by omega, rfl, ?_⟩
          refine Entries_ok L5 okd (by omega) fun r6 h6 vr6 O6 X6 => ?_
          have X06 := X05.trans (X6.mono z5)
          refine entSame_ok O6.ents (sub h6 X06) okd (by omega) ?_
          rw [show decide (es.drop (ct - ix).toNat = es.drop (ct - ix).toNat) = true from by simp]
          refine if_true'' (awake23_ok fun h7 X7 => ?_)
          unfold law23_RlogCuts_j4
          exact H h7 (X06.trans (X7.mono X06.size))
    · have ec : cutRes ix tm es ct = (ix, tm, es, (termOf ix tm es ct).2) := by unfold cutRes; rw [if_pos he]
      rw [ec] at La3 ⊢
      dsimp only at La3 ⊢
      rw [if_pos (by simpa using he)]
      refine Entries_ok La3 okA (by omega) fun r h4 vr O4 X4 => ?_
      refine Entries_ok (Lb3.ext X4) okA (by omega) fun q h5 vq O5 X5 => ?_
      refine entSame_ok (O4.ext X5).ents O5.ents okA (by omega) ?_
      rw [show decide (es = es) = true from by simp]
      refine if_true'' (awake23_ok fun h' X' => H h' (X03.trans ((X4.mono (by omega)).trans ((X5.mono (by have := X4.size; omega)).trans (X'.mono (by have := X4.size; have := X5.size; omega))))))
theorem RlogCuts_ok {ix tm ct : Int} {p2 p4 : Slc} {es fs : List Ent} {k : Bool → Heap → Prop} {h : Heap} (x0 : 0 ≤ ix) (c0 : 0 ≤ ct) (A : ArgE h.size h p2 es) (C : ArgE h.size h p4 fs)
    (H : ∀ h', Ext h.size h h' → k true h') : law23_RlogCuts ix tm p2 ct p4 k h := by
  unfold law23_RlogCuts
  refine Great_ok A.ents A.l fun r hr => ?_
  cases r with
  | true => rw [if_pos rfl]; exact g1_ok x0 c0 A C (fun e => by cases e) H
  | false =>
    rw [if_neg (by simp)]
    refine Great_ok C.ents C.l fun r2 hr2 => ?_
    exact g1_ok x0 c0 A C (fun e => ⟨hr rfl, hr2 e⟩) H
end Go.Q.Ya
