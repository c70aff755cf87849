/- A part of the proof of statements of this seat: lemmas, no statement of their own. -/
import Derived.Test.YtcmbgfmbmbgbiaaYbDkR
set_option linter.unusedVariables false
set_option linter.unusedSimpArgs false
namespace Go.Q.Yb
open Go.Q.Rw (fm_set fm_len ls_of_slc row_setc row_setS fm_take)
def zB : List Int := List.replicate 128 0
def newA (a : Int) : AP := ⟨a, zB, zB, false, false, false⟩
def modL (a : Int) (f : AP → AP) : List AP → List AP
  | [] => []
  | x :: r => if x.at' = a then f x :: r else x :: modL a f r
def lookA : List AP → Int → Option AP
  | [], _ => none
  | x :: r, a => if x.at' = a then some x else lookA r a
def insA (L : List AP) (a : Int) : List AP := if (lookA L a).isSome = true then L else (L.takeWhile fun x => decide (x.at' < a)) ++ newA a :: (L.dropWhile fun x => decide (x.at' < a))
def updA (bs : List Int) (x : AP) : AP := ⟨x.at', padB bs, if x.opn = true then x.was else x.now, false, if x.opn = true then x.old else x.torn, true⟩
def writeA (X : AR) (a : Int) (bs : List Int) : Int × AR :=
  if X.dead = true then (10, X) else if a < 0 ∨ a ≥ 1024 then (1, X) else if bs.length > 128 then (3, X)
  else (endD (burnA { X with L := modL a (updA bs) (insA X.L a) }).1, (burnA { X with L := modL a (updA bs) (insA X.L a) }).2)
theorem modL_set {a : Int} {f : AP → AP} : ∀ {L : List AP} {i : Nat} {x : AP}, L[i]? = some x → x.at' = a → (∀ j x', j < i → L[j]? = some x' → x'.at' ≠ a) → modL a f L = L.set i (f x)
  | [], i, x, h, _, _ => by simp at h
  | y :: r, 0, x, h, hx, _ => by
    simp at h; subst h
    unfold modL; rw [if_pos hx]; rfl
  | y :: r, i + 1, x, h, hx, hp => by
    unfold modL
    rw [if_neg (hp 0 y (by omega) rfl), modL_set (by simpa using h) hx fun j x' hj hx' => hp (j + 1) x' (by omega) (by simpa using hx')]; rfl
theorem lookA_none {a : Int} : ∀ {L : List AP}, (∀ x ∈ L, x.at' ≠ a) → lookA L a = none
  | [], _ => rfl
  | y :: r, h => by
    unfold lookA
    rw [if_neg (h y (by simp)), lookA_none fun x hx => h x (List.mem_cons_of_mem _ hx)]
theorem lookA_at {a : Int} : ∀ {L : List AP} {i : Nat} {x : AP}, L[i]? = some x → x.at' = a → (∀ j x', j < i → L[j]? = some x' → x'.at' ≠ a) → lookA L a = some x
  | [], i, x, h, _, _ => by simp at h
  | y :: r, 0, x, h, hx, _ => by
    simp at h; subst h
    unfold lookA; rw [if_pos hx]
  | y :: r, i + 1, x, h, hx, hp => by
    unfold lookA
    rw [if_neg (hp 0 y (by omega) rfl), lookA_at (by simpa using h) hx fun j x' hj hx' => hp (j + 1) x' (by omega) (by simpa using hx')]
theorem pad_step {bs : List Int} {i : Nat} {v : Int} (hi : i < bs.length) (hl : bs.length ≤ 128) (hv : bs[i]? = some v) : (bs.take i ++ List.replicate (128 - i) 0).set i v = bs.take (i + 1) ++ List.replicate (128 - (i + 1)) 0 := by
  have ht : (bs.take i).length = i := by rw [List.length_take]; omega
  rw [List.set_append_right _ _ (by omega), ht, Nat.sub_self]
  rw [show 128 - i = (128 - (i + 1)) + 1 from by omega, List.replicate_succ, List.set_cons_zero, List.take_add_one, hv]
  simp
section
variable {B c : Nat} {h0 h : Heap} {r : Nat} {s : Slc} {X : RD}
theorem absR_set {i : Nat} {q' : PL} : absR { X with L := X.L.set i q' } = { absR X with L := (absR X).L.set i (absP q') } := by
  unfold absR; simp only [List.map_set]
theorem RW_j2_ok {b i : Nat} {p : Pl} {q : PL} {sb : Slc} {bs was : List Int} {k : Int → Heap → Prop} (A0 : RAt B c h0 r s X) (hq : X.L[i]? = some q) (hs : SlcAt h0 sb (b8 bs)) (sl : sb.len = bs.length) (hl : bs.length ≤ 128)
    (E : Ext h0.size h0 h) (T : Blk h b (S_quaestorref09_Place.cs p) 115) (hb : h0.size ≤ b) (hw : ByAt h0 p.f_Was was)
    (H : ∀ X' h', RAt B c h' r s X' → absR X' = (burnA { absR X with L := (absR X).L.set i ⟨p.f_At, padB bs, was, false, p.f_Old, p.f_Open⟩ }).2 → RF r s h0 h' →
      k (endD (burnA { absR X with L := (absR X).L.set i ⟨p.f_At, padB bs, was, false, p.f_Old, p.f_Open⟩ }).1) h') : ref09_Disk_Write_j2 (some ⟨r, 0, none⟩) sb (i : Int) ⟨b, 0, none⟩ k h := by
  have hi := (List.getElem?_eq_some_iff.1 hq).1
  have z0 := E.size
  have tl := T.lt
  unfold ref09_Disk_Write_j2
  refine RZero_ok fun g h2 e2 eg => ?_
  have Z : Blk h2 g (b8 zB) 5 := by rw [e2, eg]; exact Blk.push _ _ _
  have E2 : Ext h0.size h0 h2 := by rw [e2]; exact E.trans ((Ext.push h _ (Nat.le_refl _)).mono z0)
  have T2 : Blk h2 b (S_quaestorref09_Place.cs p) 115 := by rw [e2]; exact T.pushed _
  have gb : g ≠ b := by omega
  have g0 : h0.size ≤ g := by omega
  clear e2
  refine ⟨_, by rw [add0]; exact T2.wr (show 1 < 6 by omega), rfl, ?_⟩
  rw [add0]
  have T3 : Blk (setH h2 ⟨b, 1, none⟩ (Slc.v ⟨some ⟨g, 0, none⟩, 128, 128⟩)) b (S_quaestorref09_Place.cs { p with f_Now := ⟨some ⟨g, 0, none⟩, 128, 128⟩ }) 115 := T2.set
  have Z3 : Blk (setH h2 ⟨b, 1, none⟩ (Slc.v ⟨some ⟨g, 0, none⟩, 128, 128⟩)) g (b8 zB) 5 := Z.old (setH_other gb)
  have E3 : Ext h0.size h0 (setH h2 ⟨b, 1, none⟩ (Slc.v ⟨some ⟨g, 0, none⟩, 128, 128⟩)) := E2.trans (Ext.set _ _ hb)
  generalize setH h2 ⟨b, 1, none⟩ (Slc.v ⟨some ⟨g, 0, none⟩, 128, 128⟩) = h3 at *
  refine ⟨fun j h' => 0 ≤ j ∧ j ≤ bs.length ∧ Ext h0.size h0 h' ∧ Blk h' b (S_quaestorref09_Place.cs { p with f_Now := ⟨some ⟨g, 0, none⟩, 128, 128⟩ }) 115 ∧ Blk h' g (b8 (bs.take j.toNat ++ List.replicate (128 - j.toNat) 0)) 5, fun j _ => (bs.length - j).toNat, ⟨by omega, by omega, E3, T3, Z3⟩, ?_⟩
  rintro j h4 ⟨j0, j1, E4, T4, Z4⟩
  have z4 := E4.size
  have A4 := A0.ext E4
  unfold ref09_Disk_Write_l3b
  by_cases hj : j < bs.length
  · rw [if_pos (by rw [decide_eq_true_eq]; omega)]
    have hv : bs[j.toNat]? = some (bs[j.toNat]'(by omega)) := by simp
    generalize bs[j.toNat]'(by omega) = v at *
    obtain ⟨ab, hab, hcell⟩ := Go.Q.Rw.slc_get (hs.ext E4) (i := j.toNat) (v := .int .u8 v) (by rw [List.getElem?_map, hv]; rfl)
    have wr : WrH h4 ⟨g, j.toNat, none⟩ := Z4.wr (by rw [List.length_map, List.length_append, List.length_take, List.length_replicate]; omega)
    refine ⟨⟨some ⟨g, 0, none⟩, 128, 128⟩, by rw [add0, T4.cell]; rfl, ab, hab, j0, by omega, v, by rw [Nat.mul_one]; exact hcell, ⟨g, 0, none⟩, rfl, j0, by simp only; omega, _, by rw [Nat.mul_one, add0]; exact wr, rfl, _, rfl, ?_⟩
    rw [Nat.mul_one, add0, wrapI64 (by omega) (by omega)]
    refine ⟨⟨by omega, by omega, E4.trans (Ext.set _ _ g0), T4.old (setH_other fun e => gb e.symm), ?_⟩, by dsimp only; omega⟩
    have := Z4.set (i := j.toNat) (v := .int .u8 v)
    rw [show (j + 1).toNat = j.toNat + 1 from by omega, ← pad_step (by omega) hl hv, b8, List.map_set]
    exact this
  · rw [if_neg (by rw [decide_eq_true_eq]; omega)]
    have hn : j.toNat = bs.length := by omega
    rw [hn, List.take_length] at Z4
    have Z4' : Blk h4 g (b8 (padB bs)) 5 := Z4
    refine ⟨_, by rw [add0]; exact T4.wr (show 3 < 6 by omega), rfl, ?_⟩
    rw [add0]
    have T5 : Blk (setH h4 ⟨b, 3, none⟩ (.bool false)) b (S_quaestorref09_Place.cs { p with f_Now := ⟨some ⟨g, 0, none⟩, 128, 128⟩, f_Torn := false }) 115 := T4.set
    have Z5 : Blk (setH h4 ⟨b, 3, none⟩ (.bool false)) g (b8 (padB bs)) 5 := Z4'.old (setH_other gb)
    have E5 : Ext h0.size h0 (setH h4 ⟨b, 3, none⟩ (.bool false)) := E4.trans (Ext.set _ _ hb)
    generalize setH h4 ⟨b, 3, none⟩ (.bool false) = h5 at *
    have A5 := A0.ext E5
    obtain ⟨gr, ha, hbk⟩ := A5.addr hi
    have w5 : ByAt h5 p.f_Was was := hw.old fun g' bb => E5.block g' bb.lt
    generalize hq' : ((({ p with f_Now := ⟨some ⟨g, 0, none⟩, 128, 128⟩, f_Torn := false } : Pl), padB bs, was) : PL) = q' at *
    have hcs : S_quaestorref09_Place.cs { p with f_Now := ⟨some ⟨g, 0, none⟩, 128, 128⟩, f_Torn := false } = plcs q' := by rw [← hq']; rfl
    obtain ⟨w1, w2, _⟩ := row_setS plcs_len A5.R A5.l hi q' ha
    refine ⟨_, rfl, s, A5.cell0, { p with f_Now := ⟨some ⟨g, 0, none⟩, 128, 128⟩, f_Torn := false }, CellsAt.of_blk T5, _, ha, by omega, by rw [A5.l]; omega, _, w1, rfl, ?_⟩
    rw [hcs, show ((i : Int)).toNat = i from rfl]
    rw [add_mk, Nat.zero_add] at w2 ⊢
    have o : ∀ g', s.blk ≠ some g' → (setsH h5 ⟨gr, i * 6, none⟩ 0 (plcs q'))[g']? = h5[g']? := fun g' hg => setsH_other _ _ (fun e => hg (by rw [hbk]; exact congrArg some e.symm))
    have sz : h5.size ≤ (setsH h5 ⟨gr, i * 6, none⟩ 0 (plcs q')).size := (Ext.sets (B := 0) h5 (a := ⟨gr, i * 6, none⟩) 0 (plcs q') (Nat.zero_le _)).size
    have A6 : RAt B c (setsH h5 ⟨gr, i * 6, none⟩ 0 (plcs q')) r s { X with L := X.L.set i q' } := by
      refine ⟨A5.P.old (o _ A5.rr), w2, fun p' hp => ?_, by rw [List.length_set]; exact A5.l, A5.bd, by rw [List.length_set]; exact A5.c⟩
      have y : ByAt h5 p'.1.f_Now p'.2.1 ∧ ByAt h5 p'.1.f_Was p'.2.2 := by
        rcases List.mem_or_eq_of_mem_set hp with hp | rfl
        · exact A5.Y p' hp
        · rw [← hq']; exact ⟨⟨g, rfl, Z5, pad_len hl⟩, w5⟩
      exact ⟨y.1.old fun g' bb => o _ (A5.yr bb).2, y.2.old fun g' bb => o _ (A5.yr bb).2⟩
    have F6 : RF r s h0 (setsH h5 ⟨gr, i * 6, none⟩ 0 (plcs q')) := ⟨Nat.le_trans E5.size sz, fun g' h1 _ h3 => (o g' h3).trans (E5.block g' h1)⟩
    refine RBurn_ok A6 fun X' h7 A7 e7 F7 => ?_
    have ea : absR { X with L := X.L.set i q' } = { absR X with L := (absR X).L.set i ⟨p.f_At, padB bs, was, false, p.f_Old, p.f_Open⟩ } := by rw [absR_set, ← hq']; rfl
    rw [ea] at e7 ⊢
    have := H X' h7 A7 e7 (F6.trans F7)
    unfold endD at this
    cases hb2 : (burnA { absR X with L := (absR X).L.set i ⟨p.f_At, padB bs, was, false, p.f_Old, p.f_Open⟩ }).1 with
    | true => rw [hb2, if_pos rfl] at this; rw [if_pos rfl]; exact this
    | false => rw [hb2, if_neg (by simp)] at this; rw [if_neg (by simp)]; exact this
theorem RW_j1_ok {a : Int} {sb : Slc} {bs : List Int} {k : Int → Heap → Prop} (A : RAt B c h r s X) (hc : c ≤ 1000000) (ex : ∃ q ∈ X.L, q.1.f_At = a) (hs : SlcAt h sb (b8 bs)) (sl : sb.len = bs.length) (hl : bs.length ≤ 128)
    (H : ∀ X' h', RAt B c h' r s X' → absR X' = (burnA { absR X with L := modL a (updA bs) (absR X).L }).2 → RF r s h h' → k (endD (burnA { absR X with L := modL a (updA bs) (absR X).L }).1) h') : ref09_Disk_Write_j1 (some ⟨r, 0, none⟩) a sb k h := by
  unfold ref09_Disk_Write_j1
  refine RFind_ok A hc (fun i q hq ha hp => ?_) fun hn => (by obtain ⟨q, hq, he⟩ := ex; exact absurd he (hn q hq))
  have hi := (List.getElem?_eq_some_iff.1 hq).1
  have hl1 := A.l
  have hm : modL a (updA bs) (absR X).L = (absR X).L.set i (updA bs (absP q)) := modL_set (by show (X.L.map absP)[i]? = _; rw [List.getElem?_map, hq]; rfl) ha fun j x' hj hx' => by
    have hx2 : (X.L.map absP)[j]? = some x' := hx'
    rw [List.getElem?_map] at hx2
    obtain ⟨q', h1, rfl⟩ := Option.map_eq_some_iff.1 hx2
    exact hp j q' hj h1
  rw [hm] at H
  obtain ⟨ad, had, C⟩ := A.place hq
  refine ⟨_, rfl, s, A.cell0, ad, had, by omega, by omega, q.1, C, _, _, rfl, rfl, ?_⟩
  have T := Blk.push h (S_quaestorref09_Place.cs ⟨0, ⟨none, 0, 0⟩, ⟨none, 0, 0⟩, false, false, false⟩) 115
  have T2 := T.sets_all (vs := S_quaestorref09_Place.cs q.1) rfl
  have W := (Ext.push h (.cells (S_quaestorref09_Place.cs ⟨0, ⟨none, 0, 0⟩, ⟨none, 0, 0⟩, false, false, false⟩).toArray 115) (Nat.le_refl _)).trans (Ext.sets _ (a := ⟨h.size, 0, none⟩) 0 (S_quaestorref09_Place.cs q.1) (Nat.le_refl _))
  refine ⟨_, WrsAt.of_blk T (show 6 ≤ 6 by omega), rfl, ?_⟩
  generalize setsH (h.push (.cells (S_quaestorref09_Place.cs ⟨0, ⟨none, 0, 0⟩, ⟨none, 0, 0⟩, false, false, false⟩).toArray 115)) ⟨h.size, 0, none⟩ 0 (S_quaestorref09_Place.cs q.1) = h2 at *
  refine ⟨q.1.f_Open, by rw [add0, T2.cell]; rfl, ?_⟩
  have yq := A.Y q (List.mem_of_getElem? hq)
  unfold updA at H
  have e1 : (absP q).opn = q.1.f_Open := rfl
  rw [e1] at H
  cases ho : q.1.f_Open with
  | true =>
    rw [if_neg (by simp)]
    rw [ho] at H
    refine RW_j2_ok A hq hs sl hl W T2 (Nat.le_refl _) yq.2 fun X' h' A' e' F' => ?_
    rw [ho] at e' ⊢
    exact H X' h' A' e' F'
  | false =>
    rw [if_pos (by simp)]
    rw [ho] at H
    refine ⟨q.1.f_Now, by rw [add0, T2.cell]; rfl, _, by rw [add0]; exact T2.wr (show 2 < 6 by omega), rfl, ?_⟩
    rw [add0, add0, add0, add0]
    have T3 : Blk (setH h2 ⟨h.size, 2, none⟩ (Slc.v q.1.f_Now)) h.size (S_quaestorref09_Place.cs { q.1 with f_Was := q.1.f_Now }) 115 := T2.set
    have W3 : Ext h.size h (setH h2 ⟨h.size, 2, none⟩ (Slc.v q.1.f_Now)) := W.trans (Ext.set _ _ (Nat.le_refl _))
    generalize setH h2 ⟨h.size, 2, none⟩ (Slc.v q.1.f_Now) = h3 at *
    refine ⟨q.1.f_Torn, by rw [T3.cell]; rfl, _, T3.wr (show 4 < 6 by omega), rfl, ?_⟩
    have T4 : Blk (setH h3 ⟨h.size, 4, none⟩ (.bool q.1.f_Torn)) h.size (S_quaestorref09_Place.cs { q.1 with f_Was := q.1.f_Now, f_Old := q.1.f_Torn }) 115 := T3.set
    have W4 : Ext h.size h (setH h3 ⟨h.size, 4, none⟩ (.bool q.1.f_Torn)) := W3.trans (Ext.set _ _ (Nat.le_refl _))
    generalize setH h3 ⟨h.size, 4, none⟩ (.bool q.1.f_Torn) = h4 at *
    refine ⟨_, T4.wr (show 5 < 6 by omega), rfl, ?_⟩
    have T5 : Blk (setH h4 ⟨h.size, 5, none⟩ (.bool true)) h.size (S_quaestorref09_Place.cs { q.1 with f_Was := q.1.f_Now, f_Old := q.1.f_Torn, f_Open := true }) 115 := T4.set
    have W5 : Ext h.size h (setH h4 ⟨h.size, 5, none⟩ (.bool true)) := W4.trans (Ext.set _ _ (Nat.le_refl _))
    generalize setH h4 ⟨h.size, 5, none⟩ (.bool true) = h5 at *
    exact RW_j2_ok (p := { q.1 with f_Was := q.1.f_Now, f_Old := q.1.f_Torn, f_Open := true }) A hq hs sl hl W5 T5 (Nat.le_refl _) yq.1 fun X' h' A' e' F' => H X' h' A' e' F'
end
end Go.Q.Yb
