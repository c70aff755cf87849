/- A part of the proof of statements of this seat: lemmas, no statement of their own. -/
import Derived.Test.YtmhadeadjjkkcaaDoorYeFd
set_option linter.unusedVariables false
set_option linter.unusedSimpArgs false
set_option maxRecDepth 100000
/- Slot: sectors are laid. -/
namespace Go.Q.Ye
variable {B c : Nat} {h h' : Heap} {d rn rs pr : Nat} {X : DK}
def hbD (f : S_slot_head) : List Int := formL f.f_n 8 ++ formL f.f_part 2 ++ formL f.f_parts 2 ++ formL f.f_size 4 ++ formL f.f_sum 8
theorem hbD_len (f : S_slot_head) : (hbD f).length = 24 := by
  unfold hbD
  simp only [List.length_append, formL_length]
structure HdOk (f : S_slot_head) : Prop where
  n : 0 ≤ f.f_n
  p : 0 ≤ f.f_part ∧ f.f_part < 65536
  q : 0 ≤ f.f_parts ∧ f.f_parts < 65536
  s : 0 ≤ f.f_size ∧ f.f_size < 4294967296
  t : 0 ≤ f.f_sum
theorem HeadB_ok {f : S_slot_head} {k : Slc → Heap → Prop} (o : HdOk f) (H : ∀ s' h', Row h.size h' 5 1 s' (b8 (hbD f)) → Ext h.size h h' → k s' h') : slot_head_bytes f k h := by
  unfold slot_head_bytes
  refine ⟨_, _, rfl, rfl, ?_⟩
  have P := Blk.push h (S_slot_head.cs f) 73
  have W := Ext.push h (.cells (S_slot_head.cs f).toArray 73) (Nat.le_refl _)
  have pl := P.lt
  generalize h.push (.cells (S_slot_head.cs f).toArray 73) = h2 at *
  have z2 := W.size
  obtain ⟨b1, eb1⟩ : ∃ y, y = h.size := ⟨_, rfl⟩
  rw [← eb1] at P W pl z2 H ⊢
  have o1 := o.n; have o2 := o.p; have o3 := o.q; have o4 := o.s; have o5 := o.t
  refine ⟨_, by rw [P.cell]; rfl, Put_ok (l := []) rfl ⟨fun _ => rfl, fun a ha => by cases ha⟩ (by simp) (by omega) (by omega) o1 fun s5 h5 R5 X5 => ?_⟩
  have z5 := X5.size
  have P5 := P.ext X5 (by omega)
  have l5 := (Row.pb R5)
  refine ⟨_, by rw [add_mk, P5.cell]; rfl, ?_⟩
  rw [wrapU64 (x := f.f_part) (by omega) (by omega)]
  refine Put_ok l5 R5.slc (by simp only [List.length_append, formL_length, List.length_nil]; omega) (by omega) (by omega) o2.1 fun s8 h8 R8 X8 => ?_
  have z8 := X8.size
  have P8 := P5.ext X8 (by omega)
  refine ⟨_, by rw [add_mk, P8.cell]; rfl, ?_⟩
  rw [wrapU64 (x := f.f_parts) (by omega) (by omega)]
  refine Put_ok (Row.pb R8) R8.slc (by simp only [List.length_append, formL_length, List.length_nil]; omega) (by omega) (by omega) o3.1 fun s11 h11 R11 X11 => ?_
  have z11 := X11.size
  have P11 := P8.ext X11 (by omega)
  refine ⟨_, by rw [add_mk, P11.cell]; rfl, ?_⟩
  rw [wrapU64 (x := f.f_size) (by omega) (by omega)]
  refine Put_ok (Row.pb R11) R11.slc (by simp only [List.length_append, formL_length, List.length_nil]; omega) (by omega) (by omega) o4.1 fun s14 h14 R14 X14 => ?_
  have z14 := X14.size
  have P14 := P11.ext X14 (by omega)
  refine ⟨_, by rw [add_mk, P14.cell]; rfl, ?_⟩
  refine Put_ok (Row.pb R14) R14.slc (by simp only [List.length_append, formL_length, List.length_nil]; omega) (by omega) (by omega) o5 fun s17 h17 R17 X17 => ?_
  refine H s17 h17 ?_ ((((W.trans (X5.mono (by omega))).trans (X8.mono (by omega))).trans (X11.mono (by omega))).trans ((X14.mono (by omega)).trans (X17.mono (by omega))))
  unfold hbD
  exact R17.mono (by omega)
def laySec (f : S_slot_head) (bs : List Int) (i : Nat) : List Int := hbD { f with f_part := (i : Int) } ++ (bs.drop (i * 104)).take 104
def layUp (p : Int) (f : S_slot_head) (bs : List Int) (X : DK) : Nat → Int × DK
  | 0 => (0, X)
  | n + 1 => if (layUp p f bs X n).1 ≠ 0 then layUp p f bs X n else writeD (layUp p f bs X n).2 (p + n) (if (n : Int) < f.f_parts then laySec f bs n else [])
/-- the sectors laid, and made safe -/
def layD (p : Int) (f : S_slot_head) (bs : List Int) (X : DK) (N : Nat) : (Int × Int) × DK :=
  if (layUp p f bs X N).1 ≠ 0 then ((0, (layUp p f bs X N).1), (layUp p f bs X N).2)
  else if (syncD (layUp p f bs X N).2).1 ≠ 0 then ((0, (syncD (layUp p f bs X N).2).1), (syncD (layUp p f bs X N).2).2) else ((f.f_n, 0), (syncD (layUp p f bs X N).2).2)
theorem PairAt.df {fr kk : Int} (P : PairAt h pr d fr kk) (D : DAt B c h d rn rs X) (F : DF d rn rs h h') : PairAt h' pr d fr kk :=
  Blk.old P (F.block pr P.lt (fun e => by subst e; have := (Blk.inj P D.P).2; omega) (blk_map P D.N) (blk_map P D.S))
theorem LayJ2_ok {fr kk : Int} {b17 : Nat} {f : S_slot_head} {bs : List Int} {p : Int} {N : Nat} {X0 : DK} {k : Int × Int → Heap → Prop} (D : DAt B c h d rn rs (layUp p f bs X0 N).2) (P : PairAt h pr d fr kk) (Q : Blk h b17 (S_slot_head.cs f) 73) (e0 : (layUp p f bs X0 N).1 = 0)
    (H : ∀ h', DAt B c h' d rn rs (layD p f bs X0 N).2 → DF d rn rs h h' → k (layD p f bs X0 N).1 h') : slot_Pair_lay_j2 (some ⟨pr, 0, none⟩) ⟨b17, 0, none⟩ k h := by
  unfold slot_Pair_lay_j2
  refine ⟨_, rfl, some ⟨d, 0, none⟩, by rw [P.cell]; rfl, DSync_ok D fun h2 D2 F2 => ?_⟩
  unfold layD at H
  rw [if_neg (by simpa using e0)] at H
  have q : b17 ≠ d := fun e => by subst e; have := (Blk.inj Q D.P).2; omega
  have Q2 := Q.old (F2.block b17 Q.lt q (blk_map Q D.N) (blk_map Q D.S))
  by_cases es : (syncD (layUp p f bs X0 N).2).1 = 0
  · rw [if_neg (by simpa using es)] at H
    rw [if_neg (by simpa using es)]
    exact ⟨_, by rw [Q2.cell]; rfl, H h2 D2 F2⟩
  · rw [if_pos es] at H
    rw [if_pos (by simpa using es)]
    exact H h2 D2 F2
end Go.Q.Ye
