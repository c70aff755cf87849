/- A part of the proof of statements of this seat: lemmas, no statement of their own. -/
import Derived.Test.YtcmbgfmbmbgbiaaYbDkW
set_option linter.unusedVariables false
set_option linter.unusedSimpArgs false
namespace Go.Q.Yb
open Go.Q.Rw (fm_set fm_len ls_of_slc row_setc row_setS fm_take)
theorem tw_at {a : Int} : ∀ {L : List AP} {i : Nat}, (∀ j x, j < i → L[j]? = some x → x.at' < a) → (i = L.length ∨ ∃ x, L[i]? = some x ∧ ¬ x.at' < a) → i ≤ L.length → (L.takeWhile fun x => decide (x.at' < a)) = L.take i ∧ (L.dropWhile fun x => decide (x.at' < a)) = L.drop i
  | [], i, _, _, hi => by simp
  | y :: r, 0, _, h, _ => by
    rcases h with h | ⟨x, hx, hn⟩
    · simp at h
    · simp at hx; subst hx
      simp [hn]
  | y :: r, i + 1, hp, h, hi => by
    have hy : y.at' < a := hp 0 y (by omega) rfl
    have := tw_at (L := r) (i := i) (fun j x hj hx => hp (j + 1) x (by omega) (by simpa using hx)) (by
      rcases h with h | ⟨x, hx, hn⟩
      · left; simpa using h
      · right; exact ⟨x, by simpa using hx, hn⟩) (by simpa using hi)
    rw [List.takeWhile_cons, List.dropWhile_cons, if_pos (by simpa using hy), if_pos (by simpa using hy), this.1, this.2]
    exact ⟨rfl, rfl⟩
theorem modL_len (a : Int) (f : AP → AP) : ∀ L : List AP, (modL a f L).length = L.length
  | [] => rfl
  | x :: r => by
    unfold modL
    split
    · rfl
    · rw [List.length_cons, List.length_cons, modL_len a f r]
section
variable {B c : Nat} {h0 h : Heap} {r : Nat} {s : Slc} {X : RD}
theorem RWrite_ok {a : Int} {sb : Slc} {bs : List Int} {k : Int → Heap → Prop} (A : RAt B c h r s X) (hB : B ≤ h.size) (hc : c ≤ 900000) (hs : SlcAt h sb (b8 bs)) (sl : sb.len = bs.length) (hb : ∀ h', Ext B h h' → SlcAt h' sb (b8 bs))
    (H : ∀ s' X' h', RAt B (c + 1) h' r s' X' → absR X' = (writeA (absR X) a bs).2 → RF r s h h' → k (writeA (absR X) a bs).1 h') : ref09_Disk_Write (some ⟨r, 0, none⟩) a sb k h := by
  have hl1 := A.l
  have hcl := A.c
  have R0 : RF r s h h := RF.of_ext (Ext.refl _ _)
  have A' := A.more (Nat.le_succ c)
  unfold ref09_Disk_Write
  refine ⟨_, rfl, X.dead, by rw [A.cell]; rfl, ?_⟩
  unfold writeA at H
  by_cases hd : X.dead = true
  · rw [if_pos (show (absR X).dead = true from hd)] at H
    rw [if_pos hd]
    exact H s X h A' rfl R0
  rw [if_neg (show ¬ (absR X).dead = true from hd)] at H
  rw [if_neg hd]
  by_cases ha : a < 0 ∨ a ≥ 1024
  · rw [if_pos ha] at H
    rw [if_pos (by simpa using ha)]
    exact H s X h A' rfl R0
  rw [if_neg ha] at H
  rw [if_neg (by simpa using ha)]
  by_cases hl : bs.length > 128
  · rw [if_pos hl] at H
    rw [if_pos (by rw [decide_eq_true_eq]; omega)]
    exact H s X h A' rfl R0
  rw [if_neg hl] at H
  rw [if_neg (by rw [decide_eq_true_eq]; omega)]
  refine RFind_ok A (by omega) (fun i q hq he hp => ?_) fun hn => ?_
  · rw [if_neg (by rw [decide_eq_true_eq]; omega)]
    have hi : insA (absR X).L a = (absR X).L := by
      unfold insA
      rw [if_pos]
      rw [lookA_at (i := i) (x := absP q) (by show (X.L.map absP)[i]? = _; rw [List.getElem?_map, hq]; rfl) he fun j x' hj hx' => ?_]
      · rfl
      · have hx2 : (X.L.map absP)[j]? = some x' := hx'
        rw [List.getElem?_map] at hx2
        obtain ⟨q', h1, rfl⟩ := Option.map_eq_some_iff.1 hx2
        exact hp j q' hj h1
    rw [hi] at H
    exact RW_j1_ok A (by omega) ⟨q, List.mem_of_getElem? hq, he⟩ hs sl (by omega) fun X' h' A1 e1 F1 => H s X' h' (A1.more (Nat.le_succ c)) e1 F1
  · rw [if_pos (by decide)]
    have hnone : lookA (absR X).L a = none := lookA_none fun x hx => by
      obtain ⟨q, hq, rfl⟩ := List.mem_map.1 (show x ∈ X.L.map absP from hx)
      exact hn q hq
    have hi : insA (absR X).L a = ((absR X).L.takeWhile fun x => decide (x.at' < a)) ++ newA a :: ((absR X).L.dropWhile fun x => decide (x.at' < a)) := by
      unfold insA; rw [hnone, if_neg (by simp)]
    rw [hi] at H
    refine ⟨fun q h' => 0 ≤ q.2 ∧ q.2 ≤ X.L.length ∧ Row h.size h' 115 6 q.1 ((X.L.take q.2.toNat).flatMap plcs) ∧ q.1.len = q.2.toNat ∧ (∀ j x, j < q.2.toNat → X.L[j]? = some x → x.1.f_At < a) ∧ Ext h.size h h', fun q _ => (X.L.length - q.2).toNat, ⟨by dsimp only; omega, by dsimp only; omega, by simpa using Row.nil _ _ _ _, rfl, fun j x hj => by simp at hj, Ext.refl _ _⟩, ?_⟩
    rintro t i h1 ⟨i0, i1, R1, tl, hp, X1⟩
    dsimp only at i0 i1 R1 tl hp
    have z1 := X1.size
    have A1 := A.ext X1
    unfold ref09_Disk_Write_l4b
    refine ⟨_, rfl, s, A1.cell0, ?_⟩
    -- the place of the new one is found
    have stop : (i.toNat = X.L.length ∨ ∃ x, X.L[i.toNat]? = some x ∧ ¬ x.1.f_At < a) → ref09_Disk_Write_g5 (some ⟨r, 0, none⟩) a sb t i false k (fun q h' => (0 ≤ q.2 ∧ q.2 ≤ (X.L.length : Int) ∧ Row h.size h' 115 6 q.1 ((X.L.take q.2.toNat).flatMap plcs) ∧ q.1.len = q.2.toNat ∧ (∀ j x, j < q.2.toNat → X.L[j]? = some x → x.1.f_At < a) ∧ Ext h.size h h') ∧ ((X.L.length : Int) - q.2).toNat < ((X.L.length : Int) - i).toNat) h1 := fun hst => by
      have tw := tw_at (L := (absR X).L) (i := i.toNat) (a := a) (fun j x hj hx => by
        have hx2 : (X.L.map absP)[j]? = some x := hx
        rw [List.getElem?_map] at hx2
        obtain ⟨q', e1, rfl⟩ := Option.map_eq_some_iff.1 hx2
        exact hp j q' hj e1) (by
        rcases hst with e | ⟨x, hx, hx2⟩
        · left; show _ = (X.L.map absP).length; rw [List.length_map]; exact e
        · right; exact ⟨absP x, by show (X.L.map absP)[i.toNat]? = _; rw [List.getElem?_map, hx]; rfl, hx2⟩) (by show _ ≤ (X.L.map absP).length; rw [List.length_map]; omega)
      rw [tw.1, tw.2] at H
      unfold ref09_Disk_Write_g5
      rw [if_neg (by simp)]
      refine ⟨_, rfl, RZero_ok fun g2 h2 e2 eg2 => RZero_ok fun g3 h3 e3 eg3 => ?_⟩
      have Z2 : Blk h2 g2 (b8 zB) 5 := by rw [e2, eg2]; exact Blk.push _ _ _
      have W2 : Ext h1.size h1 h2 := by rw [e2]; exact Ext.push h1 _ (Nat.le_refl _)
      have Z3 : Blk h3 g3 (b8 zB) 5 := by rw [e3, eg3]; exact Blk.push _ _ _
      have W3 : Ext h2.size h2 h3 := by rw [e3]; exact Ext.push h2 _ (Nat.le_refl _)
      have z2 := W2.size
      have z3 := W3.size
      have Z2' := Z2.ext W3 Z2.lt
      have gl2 := Z2.lt
      clear e2 e3
      refine ⟨_, _, rfl, rfl, ?_⟩
      have W13 := W2.trans (W3.mono z2)
      have R3 := R1.ext W13 fun g hg => (R1.bd hg).2
      have A3 := A1.ext W13
      have hts : (X.L.take i.toNat).length = i.toNat := by rw [List.length_take]; omega
      generalize hnq : (((⟨a, ⟨some ⟨g2, 0, none⟩, 128, 128⟩, ⟨some ⟨g3, 0, none⟩, 128, 128⟩, false, false, false⟩ : Pl), zB, zB) : PL) = nq at *
      have hncs : S_quaestorref09_Place.cs ⟨a, ⟨some ⟨g2, 0, none⟩, 128, 128⟩, ⟨some ⟨g3, 0, none⟩, 128, 128⟩, false, false, false⟩ = plcs nq := by rw [← hnq]; rfl
      rw [hncs]
      refine App.row (R3.pushed _) (by simp; omega) rfl rfl (by rw [← hnq]; exact oneC (by kernel_rfl)) (by omega) (by simp only [maxLen]; omega) fun t5 h5 R5 l5 z5 F5 _ => ?_
      simp at z5
      have F : ∀ g, g < h3.size → t.blk ≠ some g → h5[g]? = h3[g]? := fun g hg hs => by rw [F5 g (by simp; omega) hs, Array.getElem?_push, if_neg (by omega)]
      have nt : ∀ g, g < h.size → t.blk ≠ some g := fun g hg e => by have := (R1.bd e).1; omega
      -- what was there ahead is as it was
      have X5 : Ext h.size h h5 := ⟨by omega, fun g hg => by rw [F g (by omega) (nt g hg), W13.block g (by omega), X1.block g hg]⟩
      have A5 := A.ext X5
      have y2 : Blk h5 g2 (b8 zB) 5 := Z2'.old (F g2 (by omega) fun e => Row.unlike R3 Z2' (by decide) e)
      have y3 : Blk h5 g3 (b8 zB) 5 := Z3.old (F g3 Z3.lt fun e => Row.unlike R3 Z3 (by decide) e)
      have sub : SlcAt h5 (subS s 6 i.toNat s.len s.cap) ((X.L.drop i.toNat).flatMap plcs) := by
        have := SlcAt.sub (w := 6) (l := i.toNat) (u := s.len) (m := s.cap) A5.R.slc (by omega) (Row.cap A5.R)
        have e : ((X.L.flatMap plcs).drop (i.toNat * 6)).take ((s.len - i.toNat) * 6) = (X.L.drop i.toNat).flatMap plcs := by
          have h1 := fm_take plcs_len X.L i.toNat
          have h2 := List.take_append_drop (i.toNat * 6) (X.L.flatMap plcs)
          have h3 : X.L.flatMap plcs = (X.L.take i.toNat).flatMap plcs ++ (X.L.drop i.toNat).flatMap plcs := by rw [← List.flatMap_append, List.take_append_drop]
          rw [h1] at h2
          have h4 : (X.L.flatMap plcs).drop (i.toNat * 6) = (X.L.drop i.toNat).flatMap plcs := List.append_cancel_left (h2.trans h3)
          rw [h4, List.take_of_length_le (by rw [fm_len plcs_len, List.length_drop]; rw [hl1]; exact Nat.le_refl _)]
        rw [e] at this; exact this
      refine ⟨_, rfl, s, A5.cell0, _, by omega, by omega, by have := Row.cap A5.R; omega, by omega, rfl, (X.L.drop i.toNat).flatMap plcs, ?_⟩
      rw [tl, show (((i.toNat : Nat) : Int)).toNat = i.toNat from rfl, show ((s.len : Int)).toNat = s.len from rfl, show ((s.cap : Int)).toNat = s.cap from rfl]
      refine ⟨sub, ?_⟩
      have sl2 : (subS s 6 i.toNat s.len s.cap).len = (X.L.drop i.toNat).length := by rw [List.length_drop, ← hl1]; rfl
      refine App.row R5 (by omega) rfl (by rw [sl2]; exact fm_len plcs_len _) (fun v hv => ?_) (by rw [sl2, l5, tl, List.length_drop]; omega) (by rw [sl2, l5, tl, List.length_drop]; simp only [maxLen]; omega) fun t6 h6 R6 l6 z6 F6 _ => ?_
      · obtain ⟨q, _, hq⟩ := List.mem_flatMap.1 hv
        exact oneC (l := plcs q) (by kernel_rfl) v hq
      have nt5 : ∀ g, g < h.size → t5.blk ≠ some g := fun g hg e => by have := (R5.bd e).1; omega
      have X6 : Ext h.size h h6 := ⟨by omega, fun g hg => by rw [F6 g (by omega) (nt5 g hg), X5.block g hg]⟩
      have A6 := A.ext X6
      refine ⟨_, A6.P.wr (show 0 < 4 by omega), rfl, ?_⟩
      have y2' : Blk h6 g2 (b8 zB) 5 := y2.old (F6 g2 y2.lt fun e => Row.unlike R5 y2 (by decide) e)
      have y3' : Blk h6 g3 (b8 zB) 5 := y3.old (F6 g3 y3.lt fun e => Row.unlike R5 y3 (by decide) e)
      have o : ∀ g, g ≠ r → (setH h6 ⟨r, 0, none⟩ (Slc.v t6))[g]? = h6[g]? := fun g hg => setH_other hg
      have P7 : Blk (setH h6 ⟨r, 0, none⟩ (Slc.v t6)) r (rcs t6 X) 105 := A6.P.set
      have z7 : (setH h6 ⟨r, 0, none⟩ (Slc.v t6)).size = h6.size := setH_size
      have F7 : RF r s h (setH h6 ⟨r, 0, none⟩ (Slc.v t6)) := ⟨by omega, fun g hg hr _ => (o g hr).trans (X6.block g hg)⟩
      generalize setH h6 ⟨r, 0, none⟩ (Slc.v t6) = h7 at *
      have R6' : Row B h6 115 6 t6 ((X.L.take i.toNat ++ nq :: X.L.drop i.toNat).flatMap plcs) := by
        rw [List.flatMap_append, List.flatMap_cons]
        rw [List.append_assoc] at R6
        exact R6.mono hB
      have A7 : RAt B (c + 1) h7 r t6 { X with L := X.L.take i.toNat ++ nq :: X.L.drop i.toNat } := by
        refine ⟨P7, R6'.keep fun g hg => o g fun e => ?_, fun q hq => ?_, ?_, A.bd, ?_⟩
        · exact Row.unlike R6' A6.P (by decide) (e ▸ hg)
        · have hq2 : q = nq ∨ q ∈ X.L := by
            rcases List.mem_append.1 hq with hq | hq
            · exact .inr (List.mem_of_mem_take hq)
            · rcases List.mem_cons.1 hq with hq | hq
              · exact .inl hq
              · exact .inr (List.mem_of_mem_drop hq)
          have y : ByAt h6 q.1.f_Now q.2.1 ∧ ByAt h6 q.1.f_Was q.2.2 := by
            rcases hq2 with rfl | hq2
            · rw [← hnq]; exact ⟨⟨g2, rfl, y2', by simp [zB]⟩, ⟨g3, rfl, y3', by simp [zB]⟩⟩
            · exact A6.Y q hq2
          exact ⟨y.1.old fun g b => o g (A6.yr b).1, y.2.old fun g b => o g (A6.yr b).1⟩
        · show t6.len = (X.L.take i.toNat ++ nq :: X.L.drop i.toNat).length
          rw [l6, l5, sl2, tl, List.length_append, List.length_cons, hts]; omega
        · show (X.L.take i.toNat ++ nq :: X.L.drop i.toNat).length ≤ c + 1
          rw [List.length_append, List.length_cons, hts, List.length_drop]; omega
      have ea : absR { X with L := X.L.take i.toNat ++ nq :: X.L.drop i.toNat } = { absR X with L := (absR X).L.take i.toNat ++ newA a :: (absR X).L.drop i.toNat } := by
        have : absP nq = newA a := by rw [← hnq]; rfl
        unfold absR
        simp only [List.map_append, List.map_cons, List.map_take, List.map_drop, this]
      have hs7 : SlcAt h7 sb (b8 bs) := hb h7 (F7.ext A hB)
      refine RW_j1_ok A7 (by omega) ⟨nq, by simp, by rw [← hnq]⟩ hs7 sl (by omega) fun X' h' A8 e8 F8 => ?_
      rw [ea] at e8 ⊢
      exact H t6 X' h' A8 e8 ⟨Nat.le_trans F7.size F8.size, fun g hg hr hsg => by
        rw [F8.block g (by have := F7.size; omega) hr (fun e => by have := (R6.bd e).1; omega), F7.block g hg hr hsg]⟩
    by_cases hil : i < X.L.length
    · rw [if_pos (by rw [decide_eq_true_eq]; omega)]
      have hx : X.L[i.toNat]? = some (X.L[i.toNat]'(by omega)) := by simp
      generalize X.L[i.toNat]'(by omega) = q at *
      obtain ⟨b, hb2, C⟩ := A1.place hx
      refine ⟨s, A1.cell0, b, hb2, i0, by omega, q.1.f_At, place_at C, ?_⟩
      by_cases hq : q.1.f_At < a
      · rw [show decide (q.1.f_At < a) = true from by simpa using hq]
        unfold ref09_Disk_Write_g5
        rw [if_pos rfl]
        refine ⟨_, rfl, s, A1.cell0, b, hb2, i0, by omega, q.1, C, _, _, rfl, rfl, ?_⟩
        refine App.row (R1.pushed _) (by simp; omega) rfl rfl (oneC (l := plcs q) (by kernel_rfl)) (by omega) (by simp only [maxLen]; omega) fun t5 h5 R5 l5 z5 F5 _ => ?_
        simp at z5
        have F : ∀ g, g < h1.size → t.blk ≠ some g → h5[g]? = h1[g]? := fun g hg hs => by rw [F5 g (by simp; omega) hs, Array.getElem?_push, if_neg (by omega)]
        refine ⟨_, rfl, ?_⟩
        rw [wrapI64 (by omega) (by omega)]
        refine ⟨⟨by dsimp only; omega, by dsimp only; omega, ?_, by dsimp only; rw [l5]; omega, fun j x hj hx' => ?_, ⟨by omega, fun g hg => by rw [F g (by omega) (fun e => by have := (R1.bd e).1; omega), X1.block g hg]⟩⟩, by dsimp only; omega⟩
        · dsimp only
          rw [show (i + 1).toNat = i.toNat + 1 from by omega, List.take_add_one, hx, List.flatMap_append]
          simp only [Option.toList_some, List.flatMap_cons, List.flatMap_nil, List.append_nil]
          exact R5
        · dsimp only at hj
          rcases Nat.lt_or_ge j i.toNat with h1 | h1
          · exact hp j x h1 hx'
          · have : j = i.toNat := by omega
            subst this
            rw [hx] at hx'; cases hx'; exact hq
      · rw [show decide (q.1.f_At < a) = false from by simpa using hq]
        exact stop (.inr ⟨q, hx, hq⟩)
    · rw [if_neg (by rw [decide_eq_true_eq]; omega)]
      exact stop (.inl (by omega))
end
end Go.Q.Yb
