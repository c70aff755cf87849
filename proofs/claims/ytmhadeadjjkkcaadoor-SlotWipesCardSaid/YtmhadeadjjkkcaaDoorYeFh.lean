/- A part of the proof of statements of this seat: lemmas, no statement of their own. -/
import Derived.Test.YtmhadeadjjkkcaaDoorYeFg
set_option linter.unusedVariables false
set_option linter.unusedSimpArgs false
set_option maxRecDepth 100000
/- Slot: the document's example, plainly. -/
namespace Go.Q.Ye
theorem pad_B {bs : List Int} (h : isB bs) : isB (padB bs) := fun b hb => by
  unfold padB at hb
  rcases List.mem_append.1 hb with hb | hb
  · exact h b hb
  · have := (List.mem_replicate.1 hb).2; omega
theorem app_B {a b : List Int} (h1 : isB a) (h2 : isB b) : isB (a ++ b) := fun x hx => (List.mem_append.1 hx).elim (h1 x) (h2 x)
theorem hb_B (f : S_slot_head) : isB (hbD f) := app_B (app_B (app_B (app_B (formL_B _ _) (formL_B _ _)) (formL_B _ _)) (formL_B _ _)) (formL_B _ _)
theorem sec_B {f : S_slot_head} {bs : List Int} {i : Nat} (h : isB bs) : isB (laySec f bs i) := app_B (hb_B _) (isB_take (isB_drop h _) _)
theorem sec_le (f : S_slot_head) (bs : List Int) (i : Nat) : (laySec f bs i).length ≤ 128 := by
  unfold laySec
  rw [List.length_append, hbD_len]
  have : ((bs.drop (i * 104)).take 104).length ≤ 104 := List.length_take_le _ _
  omega
theorem secB_pad {bs : List Int} {t : Bool} (h : bs.length ≤ 128) : secB ⟨padB bs, t⟩ = padB bs := nrm_id (pad_len h)
theorem zero_B : isB (nrm 128 []) := fun b hb => by
  rw [nrm_nil] at hb
  have := (List.mem_replicate.1 hb).2; omega
theorem good_put {m : List (Int × Sec)} {k : Int} {v : Sec} (g : ∀ a, isB (secB ((mget m a).getD zSec))) (hv : isB (secB v)) : ∀ a, isB (secB ((mget (mput m k v) a).getD zSec)) := fun a => by
  rw [mget_put]
  split
  · exact hv
  · exact g a
/-- the head of a sector that was laid -/
theorem hd_sec {f : S_slot_head} {bs : List Int} {i : Nat} (n : 0 ≤ f.f_n ∧ f.f_n < 18446744073709551616) (hi : i < 65536) (q : 0 ≤ f.f_parts ∧ f.f_parts < 65536) (s : 0 ≤ f.f_size ∧ f.f_size < 4294967296) (t : 0 ≤ f.f_sum ∧ f.f_sum < 18446744073709551616) :
    hdD (padB (laySec f bs i)) = { f with f_part := (i : Int) } := by
  unfold padB laySec
  generalize (bs.drop (i * 104)).take 104 = r
  generalize List.replicate (128 - (hbD { f with f_part := (i : Int) } ++ r).length) (0 : Int) = z
  have e1 : fld (hbD { f with f_part := (i : Int) } ++ r ++ z) 0 8 = f.f_n := (show numL (formL f.f_n 8) = _ from numL_form8 n.1 n.2)
  have e2 : fld (hbD { f with f_part := (i : Int) } ++ r ++ z) 8 2 = (i : Int) := (show numL (formL (i : Int) 2) = _ from numL_form2 (by omega) (by omega))
  have e3 : fld (hbD { f with f_part := (i : Int) } ++ r ++ z) 10 2 = f.f_parts := (show numL (formL f.f_parts 2) = _ from numL_form2 q.1 q.2)
  have e4 : fld (hbD { f with f_part := (i : Int) } ++ r ++ z) 12 4 = f.f_size := (show numL (formL f.f_size 4) = _ from numL_form4 s.1 s.2)
  have e5 : fld (hbD { f with f_part := (i : Int) } ++ r ++ z) 16 8 = f.f_sum := (show numL (formL f.f_sum 8) = _ from numL_form8 t.1 t.2)
  unfold hdD
  rw [e1, e2, e3, e4, e5]
theorem drop_sec (f : S_slot_head) (bs : List Int) (i : Nat) : (padB (laySec f bs i)).drop 24 = (bs.drop (i * 104)).take 104 ++ List.replicate (128 - (laySec f bs i).length) 0 := by
  unfold padB
  have h : (hbD { f with f_part := (i : Int) }).length = 24 := hbD_len _
  conv => lhs; unfold laySec
  rw [List.append_assoc, List.drop_append_of_le_length (by omega), List.drop_of_length_le (by omega), List.nil_append]
  rfl
abbrev sA : List Int := padB (laySec (headD 0 [97]) [97] 0)
abbrev sB' : List Int := padB (laySec (headD 1 [98]) [98] 0)
theorem len_sec {f : S_slot_head} {b : Int} : (laySec f [b] 0).length = 25 := by
  unfold laySec; rw [List.length_append, hbD_len]; rfl
/-- a slot of one sector that holds one byte is whole -/
theorem one_whole {X : DK} {fr kk slot gr b : Int} (k1 : 1 ≤ kk) (g0 : 0 ≤ gr ∧ gr < 4611686018427387904) (hr : readD X (fr + slot * kk) = (padB (laySec (headD gr [b]) [b] 0), 0)) : IsW X fr kk slot ∧ numW X fr kk slot = gr + 1 ∧ outW X (fr + slot * kk) = [b] := by
  obtain ⟨p, ep⟩ : ∃ p, p = fr + slot * kk := ⟨_, rfl⟩
  unfold IsW numW
  rw [← ep] at hr ⊢
  have sb := sum_bd [b]
  have pp : prtD (([b] : List Int).length : Int) = 1 := by show prtD 1 = 1; decide
  have hf : fst1 X p = headD gr [b] := by
    unfold fst1
    rw [hr]
    have := hd_sec (f := headD gr [b]) (bs := [b]) (i := 0) ⟨by show 0 ≤ gr + 1; omega, by show gr + 1 < _; omega⟩ (by omega) (by show 0 ≤ prtD _ ∧ prtD _ < 65536; rw [pp]; omega) (by show (0 : Int) ≤ 1 ∧ (1 : Int) < 4294967296; omega) sb
    exact this
  have fp : (fst1 X p).f_parts = 1 := by rw [hf]; exact pp
  have fs : (fst1 X p).f_size = 1 := by rw [hf]; rfl
  have ho : outW X p = [b] := by
    unfold outW
    rw [fp, fs, show (1 : Int).toNat = 0 + 1 from rfl, catW_succ]
    rw [show p + ((0 : Nat) : Int) = p from by omega, hr]
    show (catW X p 0 ++ (padB (laySec (headD gr [b]) [b] 0)).drop 24).take (0 + 1) = [b]
    rw [drop_sec]; rfl
  refine ⟨⟨by rw [hr], ⟨⟨by rw [fp]; omega, by rw [fp]; omega, by rw [fp, fs]; decide⟩, fun i hi => ?_, ?_⟩⟩, by rw [hf]; rfl, ho⟩
  · rw [fp] at hi
    have : i = 0 := by omega
    subst this
    unfold OkI
    rw [show p + ((0 : Nat) : Int) = p from by omega, hr]
    refine ⟨rfl, ?_⟩
    have e : hdD (padB (laySec (headD gr [b]) [b] 0)) = fst1 X p := by unfold fst1; rw [hr]
    show hdD (padB (laySec (headD gr [b]) [b] 0)) = _
    rw [e, hf]; rfl
  · rw [ho, hf]; rfl
theorem not_whole {X : DK} {fr kk slot : Int} (h : (readD X (fr + slot * kk)).2 ≠ 0 ∨ (readD X (fr + slot * kk)).1 = nrm 128 []) : ¬ IsW X fr kk slot := fun w => by
  rcases h with h | h
  · exact h w.1
  · have := w.2.1.1
    unfold fst1 at this
    rw [h] at this
    revert this
    decide
end Go.Q.Ye
