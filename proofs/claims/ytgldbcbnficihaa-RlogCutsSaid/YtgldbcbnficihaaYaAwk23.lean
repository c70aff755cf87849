/- A part of the proof of statements of this seat: lemmas, no statement of their own. -/
import Derived.Test.YtgldbcbnficihaaYaCut
set_option linter.unusedVariables false
set_option linter.unusedSimpArgs false
namespace Go.Q.Ya
/-- a body laid in a block of its own -/
theorem body_at {h : Heap} {g : Nat} {l : List Int} {n m : Nat} (K : Blk h g (b8 l) 5) : SlcAt h ⟨some ⟨g, 0, none⟩, n, m⟩ (b8 l) := SlcAt.of_blk (ys := []) (by simpa using K)
theorem ents1 {h : Heap} {g b1 : Nat} {t1 : Int} {l1 : List Int} (K : Blk h g (S_api_Entry.cs ⟨t1, ⟨some ⟨b1, 0, none⟩, l1.length, l1.length⟩⟩) 64) (K1 : Blk h b1 (b8 l1) 5) : EntsAt h ⟨some ⟨g, 0, none⟩, 1, 1⟩ [(t1, l1)] := by
  refine ⟨rfl, fun hn => (by cases hn), fun a ha i e he => ?_⟩
  simp only [Option.some.injEq] at ha; subst ha
  have hi : i = 0 := by have := (List.getElem?_eq_some_iff.1 he).1; simp at this; exact this
  subst hi
  simp at he; subst he
  exact ⟨_, CellsAt.of_blk K, rfl, body_at K1, rfl⟩
theorem ents2 {h : Heap} {g b1 b2 : Nat} {t1 t2 : Int} {l1 l2 : List Int} (K : Blk h g (S_api_Entry.cs ⟨t1, ⟨some ⟨b1, 0, none⟩, l1.length, l1.length⟩⟩ ++ S_api_Entry.cs ⟨t2, ⟨some ⟨b2, 0, none⟩, l2.length, l2.length⟩⟩) 64) (K1 : Blk h b1 (b8 l1) 5) (K2 : Blk h b2 (b8 l2) 5) : EntsAt h ⟨some ⟨g, 0, none⟩, 2, 2⟩ [(t1, l1), (t2, l2)] := by
  refine ⟨rfl, fun hn => (by cases hn), fun a ha i e he => ?_⟩
  simp only [Option.some.injEq] at ha; subst ha
  have hi : i = 0 ∨ i = 1 := by have := (List.getElem?_eq_some_iff.1 he).1; simp at this; omega
  rcases hi with rfl | rfl
  · simp at he; subst he
    exact ⟨_, (CellsAt.of_blk K).sub, rfl, body_at K1, rfl⟩
  · simp at he; subst he
    refine ⟨⟨t2, ⟨some ⟨b2, 0, none⟩, l2.length, l2.length⟩⟩, fun j w hj => ?_, rfl, body_at K2, rfl⟩
    rw [add_add', add_mk, K.cell, Nat.zero_add, List.getElem?_append_right (by simp [S_api_Entry.cs])]
    simpa [S_api_Entry.cs] using hj
theorem awake23_ok {k : Bool → Heap → Prop} {h : Heap} (H : ∀ h', Ext h.size h h' → k true h') : law23_awake k h := by
  unfold law23_awake
  refine ⟨_, _, rfl, rfl, ?_⟩
  have A1 := Blk.pushM h (b8 [97]) 5 (lo := 1) (hi := 2) (by simp)
  have X1 := Ext.push h (.cells (b8 [97]).toArray 5 (1, 2)) (Nat.le_refl _)
  obtain ⟨h3, e3⟩ : ∃ x, x = h.push (.cells (b8 [97]).toArray 5 (1, 2)) := ⟨_, rfl⟩
  rw [← e3] at A1 X1
  refine ⟨h3, e3, _, _, rfl, rfl, ?_⟩
  have A2 := Blk.pushM h3 (b8 [98]) 5 (lo := 1) (hi := 2) (by simp)
  have X2 := Ext.push h3 (.cells (b8 [98]).toArray 5 (1, 2)) (Nat.le_refl _)
  obtain ⟨h6, e6⟩ : ∃ x, x = h3.push (.cells (b8 [98]).toArray 5 (1, 2)) := ⟨_, rfl⟩
  rw [← e6] at A2 X2
  refine ⟨h6, e6, _, _, rfl, rfl, ?_⟩
  have A3 := Blk.push h6 (S_api_Entry.cs ⟨1, ⟨some ⟨h.size, 0, none⟩, 1, 1⟩⟩ ++ S_api_Entry.cs ⟨1, ⟨some ⟨h3.size, 0, none⟩, 1, 1⟩⟩) 64
  have X3 := Ext.push h6 (.cells (S_api_Entry.cs ⟨1, ⟨some ⟨h.size, 0, none⟩, 1, 1⟩⟩ ++ S_api_Entry.cs ⟨1, ⟨some ⟨h3.size, 0, none⟩, 1, 1⟩⟩).toArray 64) (Nat.le_refl _)
  generalize h6.push (.cells (S_api_Entry.cs ⟨1, ⟨some ⟨h.size, 0, none⟩, 1, 1⟩⟩ ++ S_api_Entry.cs ⟨1, ⟨some ⟨h3.size, 0, none⟩, 1, 1⟩⟩).toArray 64) = h8 at *
  have E : EntsAt h8 ⟨some ⟨h6.size, 0, none⟩, 2, 2⟩ [(1, [97]), (1, [98])] := ents2 A3 ((A1.ext X2 A1.lt).ext X3 (A1.ext X2 A1.lt).lt) (A2.ext X3 A2.lt)
  have ok2 : esOk [(1, [97]), (1, [98])] := by unfold esOk isB; decide
  have X08 : Ext h.size h h8 := X1.trans ((X2.mono X1.size).trans (X3.mono (Nat.le_trans X1.size X2.size)))
  refine New_ok E ok2 (by simp) fun b h10 s vs L X10 => ?_
  have z8 := X08.size
  have z10 := X10.size
  refine ⟨_, _, rfl, rfl, ?_⟩
  have B1 := Blk.pushM h10 (b8 [99]) 5 (lo := 1) (hi := 2) (by simp)
  have Y1 := Ext.push h10 (.cells (b8 [99]).toArray 5 (1, 2)) (Nat.le_refl _)
  obtain ⟨h13, e13⟩ : ∃ x, x = h10.push (.cells (b8 [99]).toArray 5 (1, 2)) := ⟨_, rfl⟩
  rw [← e13] at B1 Y1
  refine ⟨h13, e13, _, _, rfl, rfl, ?_⟩
  have B2 := Blk.push h13 (S_api_Entry.cs ⟨2, ⟨some ⟨h10.size, 0, none⟩, 1, 1⟩⟩) 64
  have Y2 := Ext.push h13 (.cells (S_api_Entry.cs ⟨2, ⟨some ⟨h10.size, 0, none⟩, 1, 1⟩⟩).toArray 64) (Nat.le_refl _)
  generalize h13.push (.cells (S_api_Entry.cs ⟨2, ⟨some ⟨h10.size, 0, none⟩, 1, 1⟩⟩).toArray 64) = h15 at *
  have z15 : h10.size ≤ h13.size ∧ h13.size ≤ h15.size := ⟨Y1.size, Y2.size⟩
  have L15 := (L.ext Y1).ext Y2
  have bl := L.k.lt
  have sl : ∀ g, s.blk = some g → g < h10.size := fun g hg => (L.o.r.bd hg).2
  have ok1 : esOk [(2, [99])] := by unfold esOk isB; decide
  have B1' := B1.ext Y2 B1.lt
  have b1 := B1.lt
  have b2 := B2.lt
  refine Append_ok (ix := 0) (tm := 0) (p := 1) (t := 1) (more := [(2, [99])]) L15 (by omega) (fun h' F => ents1 (l1 := [99]) (B2.old (F.old _ (by omega) (by omega) fun e => by have := sl _ e; omega)) (B1'.old (F.old _ (by omega) (by omega) fun e => by have := sl _ e; omega))) ok2 ok1 (by decide) (by decide) (by decide) (by decide) (by simp) (by simp) fun h17 s17 vs17 L17 F17 hb17 => ?_
  have er : appRes 0 0 [(1, [97]), (1, [98])] 1 1 [(2, [99])] = ([(1, [97]), (2, [99])], 2, 0) := by decide
  rw [er] at L17 ⊢
  rw [if_pos (by decide)]
  have z17 := F17.size
  have ok3 : esOk [(1, [97]), (2, [99])] := by unfold esOk isB; decide
  refine Entries_ok L17 ok3 (by simp) fun r h19 vr O19 X19 => ?_
  refine ⟨_, _, rfl, rfl, ?_⟩
  have C1 := Blk.pushM h19 (b8 [97]) 5 (lo := 1) (hi := 2) (by simp)
  have W1 := Ext.push h19 (.cells (b8 [97]).toArray 5 (1, 2)) (Nat.le_refl _)
  obtain ⟨h22, e22⟩ : ∃ x, x = h19.push (.cells (b8 [97]).toArray 5 (1, 2)) := ⟨_, rfl⟩
  rw [← e22] at C1 W1
  refine ⟨h22, e22, _, _, rfl, rfl, ?_⟩
  have C2 := Blk.pushM h22 (b8 [99]) 5 (lo := 1) (hi := 2) (by simp)
  have W2 := Ext.push h22 (.cells (b8 [99]).toArray 5 (1, 2)) (Nat.le_refl _)
  obtain ⟨h25, e25⟩ : ∃ x, x = h22.push (.cells (b8 [99]).toArray 5 (1, 2)) := ⟨_, rfl⟩
  rw [← e25] at C2 W2
  refine ⟨h25, e25, _, _, rfl, rfl, ?_⟩
  have C3 := Blk.push h25 (S_api_Entry.cs ⟨1, ⟨some ⟨h19.size, 0, none⟩, 1, 1⟩⟩ ++ S_api_Entry.cs ⟨2, ⟨some ⟨h22.size, 0, none⟩, 1, 1⟩⟩) 64
  have W3 := Ext.push h25 (.cells (S_api_Entry.cs ⟨1, ⟨some ⟨h19.size, 0, none⟩, 1, 1⟩⟩ ++ S_api_Entry.cs ⟨2, ⟨some ⟨h22.size, 0, none⟩, 1, 1⟩⟩).toArray 64) (Nat.le_refl _)
  generalize h25.push (.cells (S_api_Entry.cs ⟨1, ⟨some ⟨h19.size, 0, none⟩, 1, 1⟩⟩ ++ S_api_Entry.cs ⟨2, ⟨some ⟨h22.size, 0, none⟩, 1, 1⟩⟩).toArray 64) = h27 at *
  have E2 : EntsAt h27 ⟨some ⟨h25.size, 0, none⟩, 2, 2⟩ [(1, [97]), (2, [99])] := ents2 C3 ((C1.ext W2 C1.lt).ext W3 (C1.ext W2 C1.lt).lt) (C2.ext W3 C2.lt)
  refine entSame_ok (((O19.ext W1).ext W2).ext W3).ents E2 ok3 (by simp) ?_
  rw [show decide ([(1, [97]), (2, [99])] = ([(1, [97]), (2, [99])] : List Ent)) = true from by decide]
  have F : Ext h.size h h17 := (X08.trans (X10.mono z8)).trans (((Y1.mono (by omega)).trans (Y2.mono (by omega))).trans (F17.below (by omega) (by have := L.hb; omega) fun g hg => by have := (L.o.r.bd hg).1; omega))
  have z19 := X19.size
  exact H h27 (F.trans ((X19.mono F.size).trans ((W1.mono (by have := F.size; omega)).trans ((W2.mono (by have := F.size; have := W1.size; omega)).trans (W3.mono (by have := F.size; have := W1.size; have := W2.size; omega))))))
end Go.Q.Ya
