/- A part of the proof of statements of this seat: lemmas, no statement of their own. -/
import Derived.Test.YtmhadeadjjkkcaaDoorYeFe
set_option linter.unusedVariables false
set_option linter.unusedSimpArgs false
set_option maxRecDepth 100000
/- Slot: sectors are laid, one by one. -/
namespace Go.Q.Ye
variable {B c : Nat} {h h' : Heap} {d rn rs pr : Nat} {X : DK}
theorem layUp_stick {p : Int} {f : S_slot_head} {bs : List Int} {X : DK} {n : Nat} (e : (layUp p f bs X n).1 ≠ 0) : ∀ m, n ≤ m → layUp p f bs X m = layUp p f bs X n
  | 0, hm => by rw [show n = 0 by omega]
  | m + 1, hm => by
    by_cases q : n = m + 1
    · rw [q]
    · have ih := layUp_stick e m (by omega)
      rw [layUp, if_pos (by rw [ih]; exact e), ih]
theorem prt_le {n i : Int} (n0 : 0 ≤ n) (i0 : 0 ≤ i) (hi : i < prtD n) : i * 104 ≤ n ∧ (0 < n → i * 104 < n) := by
  unfold prtD at hi; split at hi <;> omega
theorem LayL3_ok {hb : Heap} {fr kk slot : Int} {s : Slc} {bs : List Int} {f : S_slot_head} {wiped : Bool} {k : Int × Int → Heap → Prop} {N : Nat}
    (hs : ∀ h', DF d rn rs hb h' → SlcAt h' s (b8 bs)) (sl : s.len = bs.length) (sc : s.len ≤ s.cap) (bl : bs.length ≤ 60000) (fo : HdOk f) (fp : f.f_parts = prtD bs.length) (fk : f.f_parts ≤ kk)
    (f0 : 0 ≤ fr ∧ fr ≤ 2000) (k0 : 1 ≤ kk ∧ kk ≤ 512) (s0 : 0 ≤ slot ∧ slot ≤ 1) (eN : N = if wiped = true then kk.toNat else f.f_parts.toNat)
    (F : DF d rn rs hb h) (Q : Blk h hb.size (S_slot_head.cs f) 73) (D : DAt B c h d rn rs X) (P : PairAt h pr d fr kk)
    (H : ∀ c' h', c' ≤ c + 600 → DAt B c' h' d rn rs (layD (fr + slot * kk) f bs X N).2 → DF d rn rs hb h' → k (layD (fr + slot * kk) f bs X N).1 h') :
    slot_Pair_lay_l3 (some ⟨pr, 0, none⟩) s wiped f.f_parts slot ⟨hb.size, 0, none⟩ kk 0 k h := by
  generalize ep : fr + slot * kk = p at *
  have NK : (N : Int) ≤ kk := by rw [eN]; split <;> omega
  unfold slot_Pair_lay_l3
  refine ⟨fun i h' => 0 ≤ i ∧ i ≤ N ∧ DF d rn rs hb h' ∧ (∃ pt, Blk h' hb.size (S_slot_head.cs { f with f_part := pt }) 73) ∧ DAt B (c + i.toNat) h' d rn rs (layUp p f bs X i.toNat).2 ∧ PairAt h' pr d fr kk ∧ (layUp p f bs X i.toNat).1 = 0, fun i _ => (kk - i).toNat, ⟨by omega, by omega, F, ⟨f.f_part, Q⟩, D, P, rfl⟩, ?_⟩
  rintro i h1 ⟨i0, i1, F1, ⟨pt, Q1⟩, D1, P1, e1⟩
  -- a sector's bytes are there: they are written
  have j4 : ∀ (h2 : Heap) (t : Slc) (sec : List Int), i < N → Ext h1.size h1 h2 ∨ DF d rn rs hb h2 → DF d rn rs hb h2 → (∃ pt, Blk h2 hb.size (S_slot_head.cs { f with f_part := pt }) 73) → DAt B (c + i.toNat) h2 d rn rs (layUp p f bs X i.toNat).2 → PairAt h2 pr d fr kk → SlcAt h2 t (b8 sec) → t.len = sec.length → sec = (if i < f.f_parts then laySec f bs i.toNat else []) →
      slot_Pair_lay_j4 (some ⟨pr, 0, none⟩) s wiped f.f_parts slot ⟨hb.size, 0, none⟩ i kk i t k (fun s' h' => (0 ≤ s' ∧ s' ≤ N ∧ DF d rn rs hb h' ∧ (∃ pt, Blk h' hb.size (S_slot_head.cs { f with f_part := pt }) 73) ∧ DAt B (c + s'.toNat) h' d rn rs (layUp p f bs X s'.toNat).2 ∧ PairAt h' pr d fr kk ∧ (layUp p f bs X s'.toNat).1 = 0) ∧ (kk - s').toNat < (kk - i).toNat) h2 := fun h2 t sec iN _ F2 ⟨pt2, Q2⟩ D2 P2 St tl es => by
    unfold slot_Pair_lay_j4
    refine ⟨_, rfl, some ⟨d, 0, none⟩, by rw [P2.cell]; rfl, Place_ok P2 f0 ⟨by omega, by omega⟩ s0 ⟨i0, by omega⟩ ⟨by rw [P2.cell]; rfl, ?_⟩⟩
    rw [ep]
    refine DWrite_ok D2 St tl fun h3 D3 F3 => ?_
    have q : hb.size ≠ d := fun e => by
      have Q' := Q2
      rw [e] at Q'
      have := (Blk.inj Q' D2.P).2; omega
    have Q3 := Q2.old (F3.block _ Q2.lt q (blk_map Q2 D2.N) (blk_map Q2 D2.S))
    have P3 := P2.df D2 F3
    have F03 := F2.trans F3
    have eu : layUp p f bs X (i.toNat + 1) = writeD (layUp p f bs X i.toNat).2 (p + i) sec := by
      rw [layUp, if_neg (by rw [e1]; simp), es, show ((i.toNat : Nat) : Int) = i from by omega]
    rw [← eu] at D3 ⊢
    by_cases er : (layUp p f bs X (i.toNat + 1)).1 = 0
    · rw [if_neg (by simpa using er), wrapI64 (by omega) (by omega)]
      refine ⟨⟨by omega, by omega, F03, ⟨pt2, Q3⟩, ?_, P3, ?_⟩, by omega⟩
      · rw [show (i + 1).toNat = i.toNat + 1 from by omega]; exact D3
      · rw [show (i + 1).toNat = i.toNat + 1 from by omega]; exact er
    · rw [if_pos (by simpa using er)]
      have st := layUp_stick er N (by omega)
      have := H (c + i.toNat + 1) h3 (by omega) ?_ F03
      · unfold layD at this
        rw [if_pos (by rw [st]; exact er), st] at this
        exact this
      · unfold layD
        rw [if_pos (by rw [st]; exact er), st]
        exact D3
  have j2 : i = N → slot_Pair_lay_j2 (some ⟨pr, 0, none⟩) ⟨hb.size, 0, none⟩ k h1 := fun iN => by
    have eI : i.toNat = N := by omega
    rw [eI] at D1 e1
    have eL : layD p f bs X N = layD p { f with f_part := pt } bs X N ∧ ∀ n, layUp p { f with f_part := pt } bs X n = layUp p f bs X n := by
      have u : ∀ n, layUp p { f with f_part := pt } bs X n = layUp p f bs X n := fun n => by
        induction n with
        | zero => rfl
        | succ n ih => rw [layUp, layUp, ih]; rfl
      exact ⟨by unfold layD; rw [u], u⟩
    refine LayJ2_ok (f := { f with f_part := pt }) (bs := bs) (p := p) (N := N) (X0 := X) (by rw [eL.2]; exact D1) P1 Q1 (by rw [eL.2]; exact e1) fun h2 D2 F2 => ?_
    rw [← eL.1] at D2 ⊢
    exact H _ h2 (by omega) D2 (F1.trans F2)
  have fo1 := fo.q
  unfold slot_Pair_lay_l3b
  by_cases ck : i < kk
  · rw [if_pos (by rw [decide_eq_true_eq]; exact ck)]
    by_cases cc : i < f.f_parts
    · rw [if_pos (by rw [decide_eq_true_eq]; exact cc)]
      have iN : i < N := by rw [eN]; split <;> omega
      obtain ⟨p1, p2⟩ := prt_le (n := (bs.length : Int)) (by omega) i0 (by rw [← fp]; exact cc)
      refine ⟨_, by rw [add_mk]; exact Q1.wr (by show _ < 5; omega), rfl, ?_⟩
      rw [add_mk]
      have Q2 : Blk (setH h1 ⟨hb.size, 0 + 1, none⟩ (.int .i64 i)) hb.size (S_slot_head.cs { f with f_part := i }) 73 := Q1.set
      have o2 : ∀ j, j ≠ hb.size → (setH h1 ⟨hb.size, 0 + 1, none⟩ (.int .i64 i))[j]? = h1[j]? := fun j hj => setH_other hj
      have z2 : (setH h1 ⟨hb.size, 0 + 1, none⟩ (.int .i64 i)).size = h1.size := setH_size
      generalize setH h1 ⟨hb.size, 0 + 1, none⟩ (.int .i64 i) = h2 at *
      have F2 : DF d rn rs hb h2 := ⟨by have := F1.size; omega, fun g hg a b' c' => (o2 g (by omega)).trans (F1.block g hg a b' c')⟩
      have nd : hb.size ≠ d := fun e => by
        have Q' := Q1
        rw [e] at Q'
        have := (Blk.inj Q' D1.P).2; omega
      have D2 : DAt B (c + i.toNat) h2 d rn rs (layUp p f bs X i.toNat).2 := D1.keep (o2 _ (fun e => nd e.symm)) (o2 _ (fun e => blk_map Q1 D1.N e.symm)) (o2 _ (fun e => blk_map Q1 D1.S e.symm))
      have np : pr ≠ hb.size := fun e => by
        have P' := P1
        rw [e] at P'
        have := (Blk.inj P' Q1).2; omega
      have P2 : PairAt h2 pr d fr kk := Blk.old P1 (o2 _ np)
      refine ⟨_, CellsAt.of_blk Q2, ?_⟩
      rw [sl, wrapI64 (x := i * 104) (by omega) (by omega), wrapI64 (x := i * 104 + 104) (by omega) (by omega)]
      obtain ⟨hi, ehi⟩ : ∃ hi : Nat, (if i * 104 + 104 < ((bs.length : Nat) : Int) then i * 104 + 104 else ((bs.length : Nat) : Int)) = (hi : Int) := ⟨(if i * 104 + 104 < ((bs.length : Nat) : Int) then i * 104 + 104 else ((bs.length : Nat) : Int)).toNat, by split <;> omega⟩
      rw [ehi]
      have hb1 : i * 104 ≤ hi ∧ hi ≤ bs.length ∧ (bs.drop (i * 104).toNat).take (hi - (i * 104).toNat) = (bs.drop (i.toNat * 104)).take 104 := by
        rw [show (i * 104).toNat = i.toNat * 104 from by omega]
        by_cases q : i * 104 + 104 < ((bs.length : Nat) : Int)
        · rw [if_pos q] at ehi
          refine ⟨by omega, by omega, ?_⟩
          rw [show hi - i.toNat * 104 = 104 from by omega]
        · rw [if_neg q] at ehi
          refine ⟨by omega, by omega, ?_⟩
          rw [List.take_of_length_le (by rw [List.length_drop]; omega), List.take_of_length_le (by rw [List.length_drop]; omega)]
      refine ⟨_, by omega, hb1.1, by omega, by omega, rfl, ?_⟩
      have S2 := hs h2 F2
      have Sc := SlcAt.sub (w := 1) (l := (i * 104).toNat) (u := (hi : Int).toNat) (m := ((s.cap : Nat) : Int).toNat) S2 (by omega) (by omega)
      rw [Nat.mul_one, Nat.mul_one, ← List.map_drop, ← List.map_take, Int.toNat_natCast hi, hb1.2.2] at Sc
      have lch : (subS s 1 (i * 104).toNat ((hi : Nat) : Int).toNat ((s.cap : Nat) : Int).toNat).len = ((bs.drop (i.toNat * 104)).take 104).length := by
        rw [← hb1.2.2, List.length_take, List.length_drop]
        show ((hi : Nat) : Int).toNat - (i * 104).toNat = _
        rw [Int.toNat_natCast]; omega
      rw [Int.toNat_natCast hi] at lch ⊢
      generalize subS s 1 (i * 104).toNat hi ((s.cap : Nat) : Int).toNat = s36 at *
      have lc104 : ((bs.drop (i.toNat * 104)).take 104).length ≤ 104 := List.length_take_le _ _
      refine HeadB_ok ⟨fo.n, ⟨i0, by show i < 65536; omega⟩, fo.q, fo.s, fo.t⟩ fun s37 h38 R37 X38 => ?_
      have z38 := X38.size
      refine BClone_ok lch (Sc.ext X38) (by omega) fun s39 h40 R39 X40 => ?_
      have z40 := X40.size
      refine ⟨_, _, rfl, rfl, ?_⟩
      have V := Blk.push h40 [Slc.v s37, Slc.v s39] 23
      have W := Ext.push h40 (.cells ([Slc.v s37, Slc.v s39] : List Value).toArray 23) (Nat.le_refl _)
      generalize h40.push (.cells ([Slc.v s37, Slc.v s39] : List Value).toArray 23) = h42 at *
      have z42 := W.size
      have lhb := hbD_len { f with f_part := i }
      refine Concat_ok (L := [(s37, hbD { f with f_part := i }), (s39, (bs.drop (i.toNat * 104)).take 104)]) (V.slc (o := 0) (n := 2) rfl) rfl (fun q hq => ?_) (by simp) (by
        have : flatS [(s37, hbD { f with f_part := i }), (s39, (bs.drop (i.toNat * 104)).take 104)] = hbD { f with f_part := i } ++ (bs.drop (i.toNat * 104)).take 104 := by simp [flatS]
        rw [this, List.length_append, lhb]; omega) fun s43 h44 R44 X44 => ?_
      · rcases List.mem_cons.1 hq with rfl | hq
        · exact ⟨((R37.slc).ext X40).ext W, Row.pb R37⟩
        · rw [List.mem_singleton] at hq; subst hq
          exact ⟨(R39.slc).ext W, Row.pb R39⟩
      · have ef : flatS [(s37, hbD { f with f_part := i }), (s39, (bs.drop (i.toNat * 104)).take 104)] = laySec f bs i.toNat := by
          unfold laySec
          rw [show ((i.toNat : Nat) : Int) = i from by omega]
          simp [flatS]
        rw [ef] at R44
        have E := ((X38.trans (X40.mono z38)).trans (W.mono (by omega))).trans (X44.mono (by omega))
        refine j4 h44 s43 (laySec f bs i.toNat) iN (.inr (F2.trans (DF.of_ext E))) (F2.trans (DF.of_ext E)) ⟨i, Q2.ext E Q2.lt⟩ (D2.ext E) (Blk.ext P2 E P2.lt) R44.slc (Row.pb R44) (by rw [if_pos cc])
    · rw [if_neg (by rw [decide_eq_true_eq]; exact cc)]
      cases wiped with
      | false =>
        rw [if_pos (by simp)]
        refine j2 ?_
        rw [if_neg (by simp)] at eN; omega
      | true =>
        rw [if_neg (by simp)]
        rw [if_pos rfl] at eN
        refine j4 h1 ⟨none, 0, 0⟩ [] (by omega) (.inr F1) F1 ⟨pt, Q1⟩ D1 P1 ⟨fun _ => rfl, fun a ha => by cases ha⟩ rfl (by rw [if_neg cc])
  · rw [if_neg (by rw [decide_eq_true_eq]; exact ck)]
    exact j2 (by omega)
end Go.Q.Ye
