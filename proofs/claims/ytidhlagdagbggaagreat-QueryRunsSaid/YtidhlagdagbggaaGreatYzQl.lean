/- A part of the proof of statements of this seat: lemmas, no statement of their own. -/
import Derived.Test.YtidhlagdagbggaaGreatYzQla
set_option linter.unusedVariables false
set_option linter.unusedSimpArgs false
set_option maxRecDepth 100000
set_option maxHeartbeats 1000000
namespace Go.Q.Yz
theorem ref13_Merge_ref (p0 : Slc) (k : (Slc) → Heap → Prop) (h : Heap) (H : ref13_Merge p0 k h) : CallsH Go.Proofs.Tryz.prog 26 #[Slc.v p0] h (fun v h' => ∃ r : Slc, v = Slc.v r ∧ k r h') := by
 refine f_enter (N := 128) Go.Proofs.Tryz.func26 rfl rfl rfl (fun w0 => ?_)
 unfold ref13_Merge at H
 refine cW [(0, Slc.v p0)] ?_
 refine c_seq (c_region ?_)
 refine wP tok ?_
 refine w_end (x_seq ?_)
 refine c_seq (c_region ?_)
 refine wP tok ?_
 refine w_end (x_seq ?_)
 refine c_seq (c_seq (c_region ?_))
 refine wP tok ?_
 refine w_end (x_seq (c_block ?_))
 obtain ⟨I1, μ1, H0, HI⟩ := H
 refine c_loop (σ := Slc × Int) (fun (s : Slc × Int) => [(3, Slc.v s.1), (4, .int .i64 s.2), (0, Slc.v p0)]) I1 μ1 ((⟨none, 0, 0⟩ : Slc), 0) H0 ⟨rfl, rfl, rfl, trivial⟩ ?_
 rintro ⟨t3_1, t4_1⟩ h_1 H
 replace H := HI t3_1 t4_1 h_1 H
 unfold ref13_Merge_l1b at H
 refine cW [(3, Slc.v t3_1), (4, .int .i64 t4_1), (0, Slc.v p0)] ?_
 refine c_seq (c_seq (c_region ?_))
 iterate 4 refine wP tok ?_
 refine w_end (x_seq ?_)
 refine c_if H rfl (fun H => ?_) (fun H => ?_)
 ·
  refine c_skip (x_seq ?_)
  refine c_seqJ (α := Slc) (fun (s : Slc) => [(3, Slc.v s), (0, Slc.v p0), (4, .int .i64 t4_1)]) (fun (s : Slc) h => ref13_Merge_j2 p0 t4_1 s k (fun s h' => I1 s h' ∧ μ1 s h' < μ1 (t3_1, t4_1) h_1) h) ?_ ?_
  ·
   rintro t3_2 h_2 H
   unfold ref13_Merge_j2 at H
   refine cW [(3, Slc.v t3_2), (0, Slc.v p0), (4, .int .i64 t4_1)] ?_
   refine c_region ?_
   iterate 2 refine wP tok ?_
   obtain ⟨x1, ex1, H⟩ := H
   refine w_pe tok rfl (congrArg (fun z => (.int .i64 z : Value)) ex1) rfl rfl ?_
   refine w_end ?_
   exact xJ (t3_2, x1) H
  ·
   refine c_block (c_seq (c_region ?_))
   iterate 2 refine wP tok ?_
   obtain ⟨a2, ha2, la2, ua2, H⟩ := H
   refine w_y (y_ixa' tok rfl rfl ha2 rfl rfl rfl la2 ua2) rfl rfl ?_
   obtain ⟨v3, hv3, H⟩ := H
   refine w_y (y_lda tok rfl rfl rfl rfl rfl hv3) rfl rfl ?_
   obtain ⟨b4, h5, eb4, eh5, H⟩ := H
   refine w_h (h_alloc tok rfl rfl eb4 eh5) rfl rfl ?_
   obtain ⟨h6, wh6, eh6, H⟩ := H
   refine w_h (h_sts tok rfl rfl rfl rfl rfl (oneC (by kernel_rfl)) wh6 eh6) rfl rfl ?_
   refine w_end (x_seq ?_)
   refine cW [(3, Slc.v t3_1), (4, .int .i64 t4_1), (0, Slc.v p0), (5, pt b4)] ?_
   refine c_seq (c_seq (c_region ?_))
   obtain ⟨v7, hv7, H⟩ := H
   refine w_y (y_lda tok rfl rfl rfl rfl rfl hv7) rfl rfl ?_
   refine w_call ref13_Check_ok (ref13_Check_ref _ _ _ H) rfl rfl rfl rfl ?_
   rintro _ h9 ⟨r8, rfl, H⟩
   refine wP tok ?_
   refine w_end (x_seq ?_)
   refine c_if H rfl (fun H => ?_) (fun H => ?_)
   ·
    refine c_exit ?_
    refine x_te ?_
    refine x_bh ?_
    exact xJ t3_1 H
   ·
    refine c_skip (x_seq ?_)
    refine c_seq (c_region ?_)
    refine wP tok ?_
    refine w_end (x_seq ?_)
    refine c_seq (c_block ?_)
    obtain ⟨I3, μ3, H0, HI⟩ := H
    refine c_loop (σ := Int) (fun (s : Int) => [(6, .int .i64 s), (0, Slc.v p0), (3, Slc.v t3_1), (4, .int .i64 t4_1), (5, pt b4)]) I3 μ3 0 H0 ⟨rfl, rfl, rfl, rfl, rfl, trivial⟩ ?_
    rintro t6_3 h_3 H
    replace H := HI t6_3 h_3 H
    unfold ref13_Merge_l3b at H
    refine cW [(6, .int .i64 t6_3), (0, Slc.v p0), (3, Slc.v t3_1), (4, .int .i64 t4_1), (5, pt b4)] ?_
    refine c_seq (c_seq ?_)
    refine c_draw (by kernel_rfl) (by kernel_rfl) ?_
    iterate 5 refine q_p tok rfl rfl rfl ?_
    refine q_cut 29 (α := Bool) (fun (s : Bool) => [(54, .bool s), (0, Slc.v p0), (3, Slc.v t3_1), (4, .int .i64 t4_1), (5, pt b4), (6, .int .i64 t6_3)]) (fun (s : Bool) => ref13_Merge_g4 p0 t3_1 t4_1 (ad b4) t6_3 s k (fun s h' => I1 s h' ∧ μ1 s h' < μ1 (t3_1, t4_1) h_1) (fun s h' => I3 s h' ∧ μ3 s h' < μ3 t6_3 h_3) h_3) ?_ ?_
    ·
     rintro t54_4 H
     unfold ref13_Merge_g4 at H
     refine q_weak [(54, .bool t54_4), (0, Slc.v p0), (3, Slc.v t3_1), (4, .int .i64 t4_1), (5, pt b4), (6, .int .i64 t6_3)] ⟨rfl, rfl, rfl, rfl, rfl, rfl, trivial⟩ ?_
     refine q_end ?_
     refine x_seq ?_
     refine c_if H rfl (fun H => ?_) (fun H => ?_)
     ·
      refine c_skip (x_seq ?_)
      refine c_block (c_region ?_)
      iterate 2 refine wP tok ?_
      obtain ⟨x10, ex10, H⟩ := H
      refine w_pe tok rfl (congrArg (fun z => (.int .i64 z : Value)) ex10) rfl rfl ?_
      refine w_end ?_
      refine x_blk ?_
      exact xJ x10 H
     ·
      refine c_exit ?_
      refine x_te (x_te ?_)
      refine x_bh ?_
      refine x_seq (c_seq (c_seq ?_))
      refine c_draw (by kernel_rfl) (by kernel_rfl) ?_
      iterate 5 refine q_p tok rfl rfl rfl ?_
      refine q_cut 9 (α := Bool) (fun (s : Bool) => [(70, .bool s), (0, Slc.v p0), (3, Slc.v t3_1), (4, .int .i64 t4_1), (5, pt b4), (6, .int .i64 t6_3)]) (fun (s : Bool) => ref13_Merge_g5 p0 t3_1 t4_1 (ad b4) t6_3 s k (fun s h' => I1 s h' ∧ μ1 s h' < μ1 (t3_1, t4_1) h_1) (fun s h' => I3 s h' ∧ μ3 s h' < μ3 t6_3 h_3) h_3) ?_ ?_
      ·
       rintro t70_5 H
       unfold ref13_Merge_g5 at H
       refine q_weak [(70, .bool t70_5), (0, Slc.v p0), (3, Slc.v t3_1), (4, .int .i64 t4_1), (5, pt b4), (6, .int .i64 t6_3)] ⟨rfl, rfl, rfl, rfl, rfl, rfl, trivial⟩ ?_
       refine q_p tok rfl rfl rfl ?_
       refine q_cut 9 (α := Bool) (fun (s : Bool) => [(80, .bool s), (0, Slc.v p0), (3, Slc.v t3_1), (4, .int .i64 t4_1), (5, pt b4), (6, .int .i64 t6_3)]) (fun (s : Bool) => ref13_Merge_g6 p0 t3_1 t4_1 (ad b4) t6_3 s k (fun s h' => I1 s h' ∧ μ1 s h' < μ1 (t3_1, t4_1) h_1) (fun s h' => I3 s h' ∧ μ3 s h' < μ3 t6_3 h_3) h_3) ?_ ?_
       ·
        rintro t80_6 H
        unfold ref13_Merge_g6 at H
        refine q_weak [(80, .bool t80_6), (0, Slc.v p0), (3, Slc.v t3_1), (4, .int .i64 t4_1), (5, pt b4), (6, .int .i64 t6_3)] ⟨rfl, rfl, rfl, rfl, rfl, rfl, trivial⟩ ?_
        refine q_end ?_
        refine x_seq ?_
        refine c_if H rfl (fun H => ?_) (fun H => ?_)
        ·
         refine c_seqJ (α := Unit) (fun (s : Unit) => [(0, Slc.v p0), (3, Slc.v t3_1), (4, .int .i64 t4_1)]) (fun (s : Unit) h => ref13_Merge_j7 p0 t3_1 t4_1 k (fun s h' => I1 s h' ∧ μ1 s h' < μ1 (t3_1, t4_1) h_1) (fun s h' => I3 s h' ∧ μ3 s h' < μ3 t6_3 h_3) h) ?_ ?_
         ·
          rintro _ h_7 H
          unfold ref13_Merge_j7 at H
          refine cW [(0, Slc.v p0), (3, Slc.v t3_1), (4, .int .i64 t4_1)] ?_
          refine c_exit ?_
          refine x_te ?_
          refine x_bh ?_
          exact xJ t3_1 H
         ·
          refine c_seqJ (α := Bool) (fun (s : Bool) => [(108, .bool s), (0, Slc.v p0), (3, Slc.v t3_1), (4, .int .i64 t4_1), (5, pt b4), (6, .int .i64 t6_3)]) (fun (s : Bool) h => ref13_Merge_j8 p0 t3_1 t4_1 (ad b4) t6_3 s k (fun s h' => I1 s h' ∧ μ1 s h' < μ1 (t3_1, t4_1) h_1) (fun s h' => I3 s h' ∧ μ3 s h' < μ3 t6_3 h_3) h) ?_ ?_
          ·
           rintro t108_8 h_8 H
           unfold ref13_Merge_j8 at H
           refine cW [(108, .bool t108_8), (0, Slc.v p0), (3, Slc.v t3_1), (4, .int .i64 t4_1), (5, pt b4), (6, .int .i64 t6_3)] ?_
           refine c_if H rfl (fun H => ?_) (fun H => ?_)
           ·
            refine c_region ?_
            iterate 2 refine wP tok ?_
            obtain ⟨v11, hv11, H⟩ := H
            refine w_y (y_lda tok rfl rfl rfl rfl rfl hv11) rfl rfl ?_
            obtain ⟨a12, ha12, la12, ua12, H⟩ := H
            refine w_y (y_ixa' tok rfl rfl ha12 rfl rfl rfl la12 ua12) rfl rfl ?_
            obtain ⟨h13, wh13, eh13, H⟩ := H
            refine w_h (h_sts tok rfl rfl rfl rfl rfl (oneC (by kernel_rfl)) wh13 eh13) rfl rfl ?_
            refine w_end ?_
            exact xJ () H
           ·
            refine c_skip ?_
            exact xJ () H
          ·
           refine c_sim [(0, Slc.v p0), (3, Slc.v t3_1), (4, .int .i64 t4_1), (5, pt b4), (6, .int .i64 t6_3)] (by kernel_rfl) (by kernel_rfl) ⟨rfl, rfl, rfl, rfl, rfl, trivial⟩ (fun wf => ?_)
           refine sT 0 [(5, pt b4)] (some 81) tok wf (fun P_0 => ?_)
           obtain ⟨v14, hv14, H⟩ := H
           refine sV 1 [(81, .pointer (some ((ad b4).add 3)))] (some 82) wf (pf_y rfl rfl rfl (y_lda tok rfl rfl rfl rfl rfl hv14)) (fun P_1 => ?_)
           refine sT 2 [(3, Slc.v t3_1)] (some 83) tok wf (fun P_2 => ?_)
           refine sT 3 [(6, .int .i64 t6_3)] (some 84) tok wf (fun P_3 => ?_)
           obtain ⟨a15, ha15, la15, ua15, H⟩ := H
           refine sU 4 [(83, Slc.v t3_1), (84, .int .i64 t6_3)] (some 85) wf (fun _ => pf_y rfl rfl rfl (y_ixa' tok rfl rfl ha15 rfl rfl rfl la15 ua15)) (fun P_4 => ?_)
           refine sT 5 [(85, .pointer (some (a15.add (t6_3.toNat * 5))))] (some 86) tok wf (fun P_5 => ?_)
           obtain ⟨v16, hv16, H⟩ := H
           refine sV 6 [(86, .pointer (some ((a15.add (t6_3.toNat * 5)).add 3)))] (some 87) wf (pf_y rfl rfl rfl (y_lda tok rfl rfl rfl rfl rfl hv16)) (fun P_6 => ?_)
           refine sim_c 7 [0, 1, 2, 3, 4, 5, 6] [0, 1, 2, 3, 4, 5, 6] (ei := [(82, .agg (S_api_Id.cs v14).toArray), (87, .agg (S_api_Id.cs v16).toArray)]) ref13_Above_ok (ref13_Above_ref _ _ _ _ H) wf ⟨P_6, P_5 _, P_4 _, P_3 _, P_2 _, P_1, P_0 _, trivial⟩ (by kernel_rfl) ⟨rfl, rfl, trivial⟩ (by kernel_rfl) rfl rfl rfl rfl rfl ?_
           rintro _ h18 ⟨r17, rfl, H⟩
           refine sT 8 [(88, .bool r17)] (some 89) tok wf (fun P_8 => ?_)
           refine sim_gif 89 H rfl (fun hb H => ?_) (fun hb H => ?_)
           ·
            refine sS 9 [(5, pt b4), (89, .bool true)] (some 90) wf (fun P_9 => ?_)
            refine sS 10 [(89, .bool true), (90, undef)] (some 91) wf (fun P_10 => ?_)
            refine sS 11 [(3, Slc.v t3_1), (89, .bool true)] (some 92) wf (fun P_11 => ?_)
            refine sS 12 [(6, .int .i64 t6_3), (89, .bool true)] (some 93) wf (fun P_12 => ?_)
            refine sS 13 [(89, .bool true), (92, undef), (93, undef)] (some 94) wf (fun P_13 => ?_)
            refine sS 14 [(89, .bool true), (94, undef)] (some 95) wf (fun P_14 => ?_)
            refine sS 15 [(89, .bool true), (95, undef)] (some 96) wf (fun P_15 => ?_)
            refine sS 16 [(89, .bool true), (91, undef), (96, undef)] (some 97) wf (fun P_16 => ?_)
            refine sS 17 [(89, .bool true), (97, undef)] (some 98) wf (fun P_17 => ?_)
            refine sS 18 [(5, pt b4), (98, undef)] (some 99) wf (fun P_18 => ?_)
            refine sS 19 [(98, undef), (99, undef)] (some 100) wf (fun P_19 => ?_)
            refine sS 20 [(3, Slc.v t3_1), (98, undef)] (some 101) wf (fun P_20 => ?_)
            refine sS 21 [(6, .int .i64 t6_3), (98, undef)] (some 102) wf (fun P_21 => ?_)
            refine sS 22 [(98, undef), (101, undef), (102, undef)] (some 103) wf (fun P_22 => ?_)
            refine sS 23 [(98, undef), (103, undef)] (some 104) wf (fun P_23 => ?_)
            refine sS 24 [(98, undef), (104, undef)] (some 105) wf (fun P_24 => ?_)
            refine sS 25 [(98, undef), (100, undef), (105, undef)] (some 106) wf (fun P_25 => ?_)
            refine sS 26 [(89, .bool true), (98, undef), (106, undef)] (some 107) wf (fun P_26 => ?_)
            refine sT 27 [(89, .bool true), (107, undef)] (some 108) tok wf (fun P_27 => ?_)
            refine sim_end wf ⟨P_27 _, P_26 _, P_25 _, P_24 _, P_23 _, P_22 _, P_21 _, P_20 _, P_19 _, P_18 _, P_17 _, P_16 _, P_15 _, P_14 _, P_13 _, P_12 _, P_11 _, P_10 _, P_9 _, P_8 _, trivial, trivial, trivial, trivial, trivial, trivial, trivial, trivial⟩ (by kernel_rfl) ?_
            clear wf P_0 P_1 P_10 P_11 P_12 P_13 P_14 P_15 P_16 P_17 P_18 P_19 P_2 P_20 P_21 P_22 P_23 P_24 P_25 P_26 P_27 P_3 P_4 P_5 P_6 P_8 P_9
            exact xJ true H
           ·
            refine sT 9 [(5, pt b4), (89, .bool false)] (some 90) tok wf (fun P_9 => ?_)
            obtain ⟨v19, hv19, H⟩ := H
            refine sV 10 [(89, .bool false), (90, .pointer (some ((ad b4).add 3)))] (some 91) wf (pf_y rfl rfl rfl (y_lda tok rfl rfl rfl rfl rfl hv19)) (fun P_10 => ?_)
            refine sT 11 [(3, Slc.v t3_1), (89, .bool false)] (some 92) tok wf (fun P_11 => ?_)
            refine sT 12 [(6, .int .i64 t6_3), (89, .bool false)] (some 93) tok wf (fun P_12 => ?_)
            obtain ⟨a20, ha20, la20, ua20, H⟩ := H
            refine sU 13 [(89, .bool false), (92, Slc.v t3_1), (93, .int .i64 t6_3)] (some 94) wf (fun _ => pf_y rfl rfl rfl (y_ixa' tok rfl rfl ha20 rfl rfl rfl la20 ua20)) (fun P_13 => ?_)
            refine sT 14 [(89, .bool false), (94, .pointer (some (a20.add (t6_3.toNat * 5))))] (some 95) tok wf (fun P_14 => ?_)
            obtain ⟨v21, hv21, H⟩ := H
            refine sV 15 [(89, .bool false), (95, .pointer (some ((a20.add (t6_3.toNat * 5)).add 3)))] (some 96) wf (pf_y rfl rfl rfl (y_lda tok rfl rfl rfl rfl rfl hv21)) (fun P_15 => ?_)
            refine sU 16 [(89, .bool false), (91, .agg (S_api_Id.cs v19).toArray), (96, .agg (S_api_Id.cs v21).toArray)] (some 97) wf (fun _ => pf_y rfl rfl rfl (y_eqs (op := .eql) (xs := S_api_Id.cs v19) (ys := S_api_Id.cs v21) (.inl rfl) rfl rfl rfl (eqv44_S_api_Id v19 v21) (by kernel_rfl))) (fun P_16 => ?_)
            refine sT 17 [(89, .bool false), (97, .bool (if BinOp.eql = .eql then ((v19.f_N == v21.f_N) && (v19.f_Node == v21.f_Node)) else !((v19.f_N == v21.f_N) && (v19.f_Node == v21.f_Node))))] (some 98) tok wf (fun P_17 => ?_)
            refine sim_gif 98 H rfl (fun hb H => ?_) (fun hb H => ?_)
            ·
             refine sT 18 [(5, pt b4), (98, .bool true)] (some 99) tok wf (fun P_18 => ?_)
             obtain ⟨v22, hv22, H⟩ := H
             refine sV 19 [(98, .bool true), (99, .pointer (some ((ad b4).add 2)))] (some 100) wf (pf_y rfl rfl rfl (y_ld tok rfl rfl rfl rfl hv22)) (fun P_19 => ?_)
             refine sT 20 [(3, Slc.v t3_1), (98, .bool true)] (some 101) tok wf (fun P_20 => ?_)
             refine sT 21 [(6, .int .i64 t6_3), (98, .bool true)] (some 102) tok wf (fun P_21 => ?_)
             obtain ⟨a23, ha23, la23, ua23, H⟩ := H
             refine sU 22 [(98, .bool true), (101, Slc.v t3_1), (102, .int .i64 t6_3)] (some 103) wf (fun _ => pf_y rfl rfl rfl (y_ixa' tok rfl rfl ha23 rfl rfl rfl la23 ua23)) (fun P_22 => ?_)
             refine sT 23 [(98, .bool true), (103, .pointer (some (a23.add (t6_3.toNat * 5))))] (some 104) tok wf (fun P_23 => ?_)
             obtain ⟨v24, hv24, H⟩ := H
             refine sV 24 [(98, .bool true), (104, .pointer (some ((a23.add (t6_3.toNat * 5)).add 2)))] (some 105) wf (pf_y rfl rfl rfl (y_ld tok rfl rfl rfl rfl hv24)) (fun P_24 => ?_)
             refine sT 25 [(98, .bool true), (100, .int .i64 v22), (105, .int .i64 v24)] (some 106) tok wf (fun P_25 => ?_)
             refine sT 26 [(89, .bool false), (98, .bool true), (106, .bool (decide (v22 > v24)))] (some 107) tok wf (fun P_26 => ?_)
             refine sT 27 [(89, .bool false), (107, .bool (decide (v22 > v24)))] (some 108) tok wf (fun P_27 => ?_)
             refine sim_end wf ⟨P_27 _, P_26 _, P_25 _, P_24, P_23 _, P_22 _, P_21 _, P_20 _, P_19, P_18 _, P_17 _, P_16 _, P_15, P_14 _, P_13 _, P_12 _, P_11 _, P_10, P_9 _, P_8 _, trivial, trivial, trivial, trivial, trivial, trivial, trivial, trivial⟩ (by kernel_rfl) ?_
             clear wf P_0 P_1 P_10 P_11 P_12 P_13 P_14 P_15 P_16 P_17 P_18 P_19 P_2 P_20 P_21 P_22 P_23 P_24 P_25 P_26 P_27 P_3 P_4 P_5 P_6 P_8 P_9
             exact xJ (decide (v22 > v24)) H
            ·
             refine sS 18 [(5, pt b4), (98, .bool false)] (some 99) wf (fun P_18 => ?_)
             refine sS 19 [(98, .bool false), (99, undef)] (some 100) wf (fun P_19 => ?_)
             refine sS 20 [(3, Slc.v t3_1), (98, .bool false)] (some 101) wf (fun P_20 => ?_)
             refine sS 21 [(6, .int .i64 t6_3), (98, .bool false)] (some 102) wf (fun P_21 => ?_)
             refine sS 22 [(98, .bool false), (101, undef), (102, undef)] (some 103) wf (fun P_22 => ?_)
             refine sS 23 [(98, .bool false), (103, undef)] (some 104) wf (fun P_23 => ?_)
             refine sS 24 [(98, .bool false), (104, undef)] (some 105) wf (fun P_24 => ?_)
             refine sS 25 [(98, .bool false), (100, undef), (105, undef)] (some 106) wf (fun P_25 => ?_)
             refine sT 26 [(89, .bool false), (98, .bool false), (106, undef)] (some 107) tok wf (fun P_26 => ?_)
             refine sT 27 [(89, .bool false), (107, .bool false)] (some 108) tok wf (fun P_27 => ?_)
             refine sim_end wf ⟨P_27 _, P_26 _, P_25 _, P_24 _, P_23 _, P_22 _, P_21 _, P_20 _, P_19 _, P_18 _, P_17 _, P_16 _, P_15, P_14 _, P_13 _, P_12 _, P_11 _, P_10, P_9 _, P_8 _, trivial, trivial, trivial, trivial, trivial, trivial, trivial, trivial⟩ (by kernel_rfl) ?_
             clear wf P_0 P_1 P_10 P_11 P_12 P_13 P_14 P_15 P_16 P_17 P_18 P_19 P_2 P_20 P_21 P_22 P_23 P_24 P_25 P_26 P_27 P_3 P_4 P_5 P_6 P_8 P_9
             exact xJ false H
        ·
         refine c_skip (x_seq ?_)
         refine c_seq (c_region ?_)
         refine wP tok ?_
         refine w_end (x_seq ?_)
         refine c_seq (c_region ?_)
         iterate 3 refine wP tok ?_
         obtain ⟨s25, ps25, qs25, rs25, ts25, es25, H⟩ := H
         refine w_ye (y_sl (s := t3_1) (L := 0) (H := t6_3) (M := (t3_1.cap : Int)) tok rfl rfl rfl rfl rfl rfl rfl (by simp) ps25 qs25 rs25 ts25) (congrArg Slc.v es25) rfl rfl ?_
         obtain ⟨l28, hl28, H⟩ := H
         refine w_a (a_app (s := (⟨none, 0, 0⟩ : Slc)) (r := s25) tok rfl rfl rfl rfl rfl hl28 H) rfl rfl ?_
         rintro _ h27 ⟨s26, rfl, H⟩
         refine wP tok ?_
         refine w_end (x_seq ?_)
         refine c_seq (c_region ?_)
         refine wP tok ?_
         obtain ⟨v29, hv29, H⟩ := H
         refine w_y (y_lda tok rfl rfl rfl rfl rfl hv29) rfl rfl ?_
         obtain ⟨b30, h31, eb30, eh31, H⟩ := H
         refine w_h (h_bs tok rfl rfl rfl rfl rfl rfl rfl eb30 eh31) rfl rfl ?_
         refine w_a (a_app (s := s26) (r := (⟨some ⟨b30, 0, none⟩, 1, 1⟩ : Slc)) tok rfl rfl rfl rfl rfl (slcAt_push eb30 eh31) H) rfl rfl ?_
         rintro _ h33 ⟨s32, rfl, H⟩
         refine wP tok ?_
         refine w_end (x_seq ?_)
         refine cW [(0, Slc.v p0), (3, Slc.v t3_1), (4, .int .i64 t4_1), (6, .int .i64 t6_3), (7, Slc.v s32)] ?_
         refine c_region ?_
         iterate 3 refine wP tok ?_
         obtain ⟨s34, ps34, qs34, rs34, ts34, es34, H⟩ := H
         refine w_ye (y_sl (s := t3_1) (L := t6_3) (H := (t3_1.len : Int)) (M := (t3_1.cap : Int)) tok rfl rfl rfl rfl rfl rfl rfl (by simp) ps34 qs34 rs34 ts34) (congrArg Slc.v es34) rfl rfl ?_
         obtain ⟨l37, hl37, H⟩ := H
         refine w_a (a_app (s := s32) (r := s34) tok rfl rfl rfl rfl rfl hl37 H) rfl rfl ?_
         rintro _ h36 ⟨s35, rfl, H⟩
         refine wP tok ?_
         refine w_end ?_
         refine x_blk ?_
         exact xJ s35 H
       ·
        refine q_gif (d := 71) H rfl (fun H => ?_) (fun H => ?_)
        ·
         iterate 2 refine q_p tok rfl rfl rfl ?_
         obtain ⟨a38, ha38, la38, ua38, H⟩ := H
         refine q_y (y_ixa' tok rfl rfl ha38 rfl rfl rfl la38 ua38) rfl rfl ?_
         refine q_p tok rfl rfl rfl ?_
         obtain ⟨v39, hv39, H⟩ := H
         refine q_y (y_ld tok rfl rfl rfl rfl hv39) rfl rfl ?_
         refine q_p tok rfl rfl rfl ?_
         obtain ⟨v40, hv40, H⟩ := H
         refine q_y (y_ld tok rfl rfl rfl rfl hv40) rfl rfl ?_
         iterate 2 refine q_p tok rfl rfl rfl ?_
         exact q_jn (v39 == v40) H ⟨rfl, rfl, rfl, rfl, rfl, rfl, trivial⟩
        ·
         iterate 8 refine q_skip rfl rfl ?_
         refine q_p tok rfl rfl rfl ?_
         exact q_jn false H ⟨rfl, rfl, rfl, rfl, rfl, rfl, trivial⟩
      ·
       refine q_gif (d := 61) H rfl (fun H => ?_) (fun H => ?_)
       ·
        iterate 2 refine q_p tok rfl rfl rfl ?_
        obtain ⟨a41, ha41, la41, ua41, H⟩ := H
        refine q_y (y_ixa' tok rfl rfl ha41 rfl rfl rfl la41 ua41) rfl rfl ?_
        refine q_p tok rfl rfl rfl ?_
        obtain ⟨v42, hv42, H⟩ := H
        refine q_y (y_ld tok rfl rfl rfl rfl hv42) rfl rfl ?_
        refine q_p tok rfl rfl rfl ?_
        obtain ⟨v43, hv43, H⟩ := H
        refine q_y (y_ld tok rfl rfl rfl rfl hv43) rfl rfl ?_
        iterate 2 refine q_p tok rfl rfl rfl ?_
        exact q_jn (v42.toList == v43.toList) H ⟨rfl, rfl, rfl, rfl, rfl, rfl, trivial⟩
       ·
        iterate 8 refine q_skip rfl rfl ?_
        refine q_p tok rfl rfl rfl ?_
        exact q_jn false H ⟨rfl, rfl, rfl, rfl, rfl, rfl, trivial⟩
    ·
     refine q_gif (d := 25) H rfl (fun H => ?_) (fun H => ?_)
     ·
      iterate 2 refine q_p tok rfl rfl rfl ?_
      obtain ⟨a44, ha44, la44, ua44, H⟩ := H
      refine q_y (y_ixa' tok rfl rfl ha44 rfl rfl rfl la44 ua44) rfl rfl ?_
      refine q_p tok rfl rfl rfl ?_
      obtain ⟨v45, hv45, H⟩ := H
      refine q_y (y_ld tok rfl rfl rfl rfl hv45) rfl rfl ?_
      refine q_p tok rfl rfl rfl ?_
      obtain ⟨v46, hv46, H⟩ := H
      refine q_y (y_ld tok rfl rfl rfl rfl hv46) rfl rfl ?_
      iterate 2 refine q_p tok rfl rfl rfl ?_
      refine q_cut 19 (α := Bool) (fun (s : Bool) => [(53, .bool s), (0, Slc.v p0), (3, Slc.v t3_1), (4, .int .i64 t4_1), (5, pt b4), (6, .int .i64 t6_3), (25, .bool true)]) (fun (s : Bool) => ref13_Merge_g9 p0 t3_1 t4_1 (ad b4) t6_3 true s k (fun s h' => I1 s h' ∧ μ1 s h' < μ1 (t3_1, t4_1) h_1) (fun s h' => I3 s h' ∧ μ3 s h' < μ3 t6_3 h_3) h_3) ?_ ?_
      ·
       rintro t53_9 H
       unfold ref13_Merge_g9 at H
       refine q_weak [(53, .bool t53_9), (0, Slc.v p0), (3, Slc.v t3_1), (4, .int .i64 t4_1), (5, pt b4), (6, .int .i64 t6_3), (25, .bool true)] ⟨rfl, rfl, rfl, rfl, rfl, rfl, rfl, trivial⟩ ?_
       refine q_p tok rfl rfl rfl ?_
       exact q_jn t53_9 H ⟨rfl, rfl, rfl, rfl, rfl, rfl, trivial⟩
      ·
       refine q_gif (d := 34) H rfl (fun H => ?_) (fun H => ?_)
       ·
        iterate 18 refine q_skip rfl rfl ?_
        refine q_p tok rfl rfl rfl ?_
        exact q_jn true H ⟨rfl, rfl, rfl, rfl, rfl, rfl, rfl, trivial⟩
       ·
        iterate 2 refine q_p tok rfl rfl rfl ?_
        obtain ⟨a47, ha47, la47, ua47, H⟩ := H
        refine q_y (y_ixa' tok rfl rfl ha47 rfl rfl rfl la47 ua47) rfl rfl ?_
        refine q_p tok rfl rfl rfl ?_
        obtain ⟨v48, hv48, H⟩ := H
        refine q_y (y_ld tok rfl rfl rfl rfl hv48) rfl rfl ?_
        refine q_p tok rfl rfl rfl ?_
        obtain ⟨v49, hv49, H⟩ := H
        refine q_y (y_ld tok rfl rfl rfl rfl hv49) rfl rfl ?_
        iterate 2 refine q_p tok rfl rfl rfl ?_
        refine q_cut 9 (α := Bool) (fun (s : Bool) => [(52, .bool s), (0, Slc.v p0), (3, Slc.v t3_1), (4, .int .i64 t4_1), (5, pt b4), (6, .int .i64 t6_3), (25, .bool true), (34, .bool false)]) (fun (s : Bool) => ref13_Merge_g10 p0 t3_1 t4_1 (ad b4) t6_3 true false s k (fun s h' => I1 s h' ∧ μ1 s h' < μ1 (t3_1, t4_1) h_1) (fun s h' => I3 s h' ∧ μ3 s h' < μ3 t6_3 h_3) h_3) ?_ ?_
        ·
         rintro t52_10 H
         unfold ref13_Merge_g10 at H
         refine q_weak [(52, .bool t52_10), (0, Slc.v p0), (3, Slc.v t3_1), (4, .int .i64 t4_1), (5, pt b4), (6, .int .i64 t6_3), (25, .bool true), (34, .bool false)] ⟨rfl, rfl, rfl, rfl, rfl, rfl, rfl, rfl, trivial⟩ ?_
         refine q_p tok rfl rfl rfl ?_
         exact q_jn t52_10 H ⟨rfl, rfl, rfl, rfl, rfl, rfl, rfl, trivial⟩
        ·
         refine q_gif (d := 43) H rfl (fun H => ?_) (fun H => ?_)
         ·
          iterate 2 refine q_p tok rfl rfl rfl ?_
          obtain ⟨a50, ha50, la50, ua50, H⟩ := H
          refine q_y (y_ixa' tok rfl rfl ha50 rfl rfl rfl la50 ua50) rfl rfl ?_
          refine q_p tok rfl rfl rfl ?_
          obtain ⟨v51, hv51, H⟩ := H
          refine q_y (y_ld tok rfl rfl rfl rfl hv51) rfl rfl ?_
          refine q_p tok rfl rfl rfl ?_
          obtain ⟨v52, hv52, H⟩ := H
          refine q_y (y_ld tok rfl rfl rfl rfl hv52) rfl rfl ?_
          iterate 2 refine q_p tok rfl rfl rfl ?_
          exact q_jn (decide (v51 < v52)) H ⟨rfl, rfl, rfl, rfl, rfl, rfl, rfl, rfl, trivial⟩
         ·
          iterate 8 refine q_skip rfl rfl ?_
          refine q_p tok rfl rfl rfl ?_
          exact q_jn false H ⟨rfl, rfl, rfl, rfl, rfl, rfl, rfl, rfl, trivial⟩
     ·
      iterate 28 refine q_skip rfl rfl ?_
      refine q_p tok rfl rfl rfl ?_
      exact q_jn false H ⟨rfl, rfl, rfl, rfl, rfl, rfl, trivial⟩
 ·
  refine c_exit ?_
  refine x_te (x_te ?_)
  refine x_bh ?_
  refine x_seq (c_seq (c_region ?_))
  iterate 2 refine wP tok ?_
  refine w_end (x_seq ?_)
  refine cW [(2, Slc.v t3_1)] ?_
  refine c_ret ?_
  exact x_ret _ rfl _ rfl ⟨t3_1, rfl, H⟩

theorem ref19_Check_ok : CallOk Go.Proofs.Tryz.prog 10 := ⟨_, Go.Proofs.Tryz.func10, by kernel_rfl, by kernel_rfl⟩
theorem ref19_Check_ref (p0 : S_api_Query) (k : (Int) → Heap → Prop) (h : Heap) (H : ref19_Check p0 k h) : CallsH Go.Proofs.Tryz.prog 10 #[.agg (S_api_Query.cs p0).toArray] h (fun v h' => ∃ r : Int, v = .int .i64 r ∧ k r h') := by
 refine f_enter (N := 31) Go.Proofs.Tryz.func10 rfl rfl rfl (fun w0 => ?_)
 unfold ref19_Check at H
 refine cW [(0, .agg (S_api_Query.cs p0).toArray)] ?_
 refine c_seq (c_region ?_)
 obtain ⟨b1, h2, eb1, eh2, H⟩ := H
 refine w_h (h_box rfl rfl eb1 eh2) rfl rfl ?_
 refine wP tok ?_
 refine w_end (x_seq ?_)
 refine c_seq (c_seq (c_region ?_))
 refine wP tok ?_
 obtain ⟨v3, hv3, H⟩ := H
 refine w_y (y_ld tok rfl rfl rfl rfl hv3) rfl rfl ?_
 refine w_call ref15_Selector_ok (ref15_Selector_ref _ _ _ H) rfl rfl rfl rfl ?_
 rintro _ h5 ⟨r4, rfl, H⟩
 iterate 3 refine wP tok ?_
 obtain ⟨b6, h7, eb6, eh7, H⟩ := H
 refine w_h (h_alloc tok rfl rfl eb6 eh7) rfl rfl ?_
 obtain ⟨h8, wh8, eh8, H⟩ := H
 refine w_h (h_sts tok rfl rfl rfl rfl rfl (oneC (by kernel_rfl)) wh8 eh8) rfl rfl ?_
 refine wP tok ?_
 refine w_end (x_seq ?_)
 refine cW [(1, pt b1), (4, .bool r4.2)] ?_
 refine c_seq (c_region ?_)
 iterate 2 refine wP tok ?_
 refine w_end (x_seq ?_)
 refine c_if H rfl (fun H => ?_) (fun H => ?_)
 ·
  refine c_seq (c_region ?_)
  refine wP tok ?_
  refine w_end (x_seq ?_)
  refine c_ret (x_tr ?_)
  exact x_ret _ rfl _ rfl ⟨4, rfl, H⟩
 ·
  refine c_skip (x_seq ?_)
  refine c_seq (c_seq (c_region ?_))
  refine wP tok ?_
  obtain ⟨v9, hv9, H⟩ := H
  refine w_y (y_ld tok rfl rfl rfl rfl hv9) rfl rfl ?_
  iterate 2 refine wP tok ?_
  refine w_cut 4 (α := Bool) (fun (s : Bool) => [(20, .bool s), (1, pt b1)]) (fun (s : Bool) h => ref19_Check_g1 (ad b1) s k h) ?_ ?_
  ·
   rintro t20_1 h_1 H
   unfold ref19_Check_g1 at H
   refine wW [(20, .bool t20_1), (1, pt b1)] ?_
   refine wP tok ?_
   refine w_cut 9 (α := Bool) (fun (s : Bool) => [(30, .bool s)]) (fun (s : Bool) h => ref19_Check_g2 s k h) ?_ ?_
   ·
    rintro t30_2 h_2 H
    unfold ref19_Check_g2 at H
    refine wW [(30, .bool t30_2)] ?_
    refine w_end (x_seq ?_)
    refine c_if H rfl (fun H => ?_) (fun H => ?_)
    ·
     refine c_seq (c_region ?_)
     refine wP tok ?_
     refine w_end (x_seq ?_)
     refine c_ret (x_tr ?_)
     exact x_ret _ rfl _ rfl ⟨1, rfl, H⟩
    ·
     refine c_skip (x_seq ?_)
     refine c_seq (c_region ?_)
     refine wP tok ?_
     refine w_end (x_seq (c_ret ?_))
     exact x_ret _ rfl _ rfl ⟨0, rfl, H⟩
   ·
    refine w_gif (d := 21) H rfl (fun H => ?_) (fun H => ?_)
    ·
     iterate 8 refine w_skip rfl rfl ?_
     refine wP tok ?_
     exact wJ true H
    ·
     refine wP tok ?_
     obtain ⟨v10, hv10, H⟩ := H
     refine w_y (y_ld tok rfl rfl rfl rfl hv10) rfl rfl ?_
     iterate 2 refine wP tok ?_
     refine w_cut 4 (α := Bool) (fun (s : Bool) => [(29, .bool s), (21, .bool false)]) (fun (s : Bool) h => ref19_Check_g3 false s k h) ?_ ?_
     ·
      rintro t29_3 h_3 H
      unfold ref19_Check_g3 at H
      refine wW [(29, .bool t29_3), (21, .bool false)] ?_
      refine wP tok ?_
      exact wJ t29_3 H
     ·
      refine w_gif (d := 25) H rfl (fun H => ?_) (fun H => ?_)
      ·
       refine wP tok ?_
       obtain ⟨v11, hv11, H⟩ := H
       refine w_y (y_ld tok rfl rfl rfl rfl hv11) rfl rfl ?_
       iterate 2 refine wP tok ?_
       exact wJ (decide (v11 < 1)) H
      ·
       iterate 3 refine w_skip rfl rfl ?_
       refine wP tok ?_
       exact wJ false H
  ·
   refine w_gif (d := 16) H rfl (fun H => ?_) (fun H => ?_)
   ·
    iterate 3 refine w_skip rfl rfl ?_
    refine wP tok ?_
    exact wJ true H
   ·
    refine wP tok ?_
    obtain ⟨v12, hv12, H⟩ := H
    refine w_y (y_ld tok rfl rfl rfl rfl hv12) rfl rfl ?_
    iterate 2 refine wP tok ?_
    exact wJ (decide (v12 > 6)) H

theorem ref19_Ask_ok : CallOk Go.Proofs.Tryz.prog 13 := ⟨_, Go.Proofs.Tryz.func13, by kernel_rfl, by kernel_rfl⟩
theorem ref19_Ask_ref (p0 : S_api_Query) (p1 : Slc) (p2 : Int) (k : (Slc) → Heap → Prop) (h : Heap) (H : ref19_Ask p0 p1 p2 k h) : CallsH Go.Proofs.Tryz.prog 13 #[.agg (S_api_Query.cs p0).toArray, Slc.v p1, .int .i64 p2] h (fun v h' => ∃ r : Slc, v = Slc.v r ∧ k r h') := by
 refine f_enter (N := 80) Go.Proofs.Tryz.func13 rfl rfl rfl (fun w0 => ?_)
 unfold ref19_Ask at H
 refine cW [(0, .agg (S_api_Query.cs p0).toArray), (1, Slc.v p1), (2, .int .i64 p2)] ?_
 refine c_seq (c_region ?_)
 obtain ⟨b1, h2, eb1, eh2, H⟩ := H
 refine w_h (h_box rfl rfl eb1 eh2) rfl rfl ?_
 refine wP tok ?_
 refine w_end (x_seq ?_)
 refine c_seq (c_region ?_)
 refine wP tok ?_
 obtain ⟨v3, hv3, H⟩ := H
 refine w_y (y_ld tok rfl rfl rfl rfl hv3) rfl rfl ?_
 refine w_call ref15_Selector_ok (ref15_Selector_ref _ _ _ H) rfl rfl rfl rfl ?_
 rintro _ h5 ⟨r4, rfl, H⟩
 iterate 3 refine wP tok ?_
 obtain ⟨b6, h7, eb6, eh7, H⟩ := H
 refine w_h (h_alloc tok rfl rfl eb6 eh7) rfl rfl ?_
 obtain ⟨h8, wh8, eh8, H⟩ := H
 refine w_h (h_sts tok rfl rfl rfl rfl rfl (oneC (by kernel_rfl)) wh8 eh8) rfl rfl ?_
 refine wP tok ?_
 refine w_end (x_seq ?_)
 refine cW [(1, Slc.v p1), (2, .int .i64 p2), (3, pt b1), (7, pt b6)] ?_
 refine c_seq (c_region ?_)
 refine wP tok ?_
 refine w_call ref13_Merge_ok (ref13_Merge_ref _ _ _ H) rfl rfl rfl rfl ?_
 rintro _ h10 ⟨r9, rfl, H⟩
 refine wP tok ?_
 refine w_end (x_seq ?_)
 refine c_seq (c_region ?_)
 refine wP tok ?_
 refine w_end (x_seq ?_)
 refine c_seq (c_seq (c_region ?_))
 refine wP tok ?_
 refine w_end (x_seq (c_block ?_))
 obtain ⟨I1, μ1, H0, HI⟩ := H
 refine c_loop (σ := Slc × Int) (fun (s : Slc × Int) => [(10, Slc.v s.1), (11, .int .i64 s.2), (2, .int .i64 p2), (3, pt b1), (7, pt b6), (9, Slc.v r9)]) I1 μ1 ((⟨none, 0, 0⟩ : Slc), 0) H0 ⟨rfl, rfl, rfl, rfl, rfl, rfl, trivial⟩ ?_
 rintro ⟨t10_1, t11_1⟩ h_1 H
 replace H := HI t10_1 t11_1 h_1 H
 unfold ref19_Ask_l1b at H
 refine cW [(10, Slc.v t10_1), (11, .int .i64 t11_1), (2, .int .i64 p2), (3, pt b1), (7, pt b6), (9, Slc.v r9)] ?_
 refine c_seq (c_seq (c_region ?_))
 iterate 4 refine wP tok ?_
 refine w_end (x_seq ?_)
 refine c_if H rfl (fun H => ?_) (fun H => ?_)
 ·
  refine c_skip (x_seq ?_)
  refine c_seqJ (α := Slc) (fun (s : Slc) => [(10, Slc.v s), (2, .int .i64 p2), (3, pt b1), (7, pt b6), (9, Slc.v r9), (11, .int .i64 t11_1)]) (fun (s : Slc) h => ref19_Ask_j2 p2 (ad b1) (ad b6) r9 t11_1 s k (fun s h' => I1 s h' ∧ μ1 s h' < μ1 (t10_1, t11_1) h_1) h) ?_ ?_
  ·
   rintro t10_2 h_2 H
   unfold ref19_Ask_j2 at H
   refine cW [(10, Slc.v t10_2), (2, .int .i64 p2), (3, pt b1), (7, pt b6), (9, Slc.v r9), (11, .int .i64 t11_1)] ?_
   refine c_region ?_
   iterate 2 refine wP tok ?_
   obtain ⟨x11, ex11, H⟩ := H
   refine w_pe tok rfl (congrArg (fun z => (.int .i64 z : Value)) ex11) rfl rfl ?_
   refine w_end ?_
   exact xJ (t10_2, x11) H
  ·
   refine c_block (c_seq (c_region ?_))
   iterate 2 refine wP tok ?_
   obtain ⟨a12, ha12, la12, ua12, H⟩ := H
   refine w_y (y_ixa' tok rfl rfl ha12 rfl rfl rfl la12 ua12) rfl rfl ?_
   refine wP tok ?_
   obtain ⟨v13, hv13, H⟩ := H
   refine w_y (y_ld tok rfl rfl rfl rfl hv13) rfl rfl ?_
   refine w_call ref15_Parse_ok (ref15_Parse_ref _ _ _ H) rfl rfl rfl rfl ?_
   rintro _ h15 ⟨r14, rfl, H⟩
   iterate 3 refine wP tok ?_
   obtain ⟨b16, h17, eb16, eh17, H⟩ := H
   refine w_h (h_alloc tok rfl rfl eb16 eh17) rfl rfl ?_
   obtain ⟨h18, wh18, eh18, H⟩ := H
   refine w_h (h_sts tok rfl rfl rfl rfl rfl (oneC (by kernel_rfl)) wh18 eh18) rfl rfl ?_
   refine wP tok ?_
   refine w_end (x_seq ?_)
   refine cW [(10, Slc.v t10_1), (11, .int .i64 t11_1), (2, .int .i64 p2), (3, pt b1), (7, pt b6), (9, Slc.v r9), (12, pt b16), (13, .bool r14.2)] ?_
   refine c_seqJ (α := Bool) (fun (s : Bool) => [(71, .bool s), (2, .int .i64 p2), (3, pt b1), (7, pt b6), (9, Slc.v r9), (10, Slc.v t10_1), (11, .int .i64 t11_1)]) (fun (s : Bool) h => ref19_Ask_j3 p2 (ad b1) (ad b6) r9 t10_1 t11_1 s k (fun s h' => I1 s h' ∧ μ1 s h' < μ1 (t10_1, t11_1) h_1) h) ?_ ?_
   ·
    rintro t71_3 h_3 H
    unfold ref19_Ask_j3 at H
    refine cW [(71, .bool t71_3), (2, .int .i64 p2), (3, pt b1), (7, pt b6), (9, Slc.v r9), (10, Slc.v t10_1), (11, .int .i64 t11_1)] ?_
    refine c_if H rfl (fun H => ?_) (fun H => ?_)
    ·
     refine c_region ?_
     iterate 3 refine wP tok ?_
     obtain ⟨a19, ha19, la19, ua19, H⟩ := H
     refine w_y (y_ixa' tok rfl rfl ha19 rfl rfl rfl la19 ua19) rfl rfl ?_
     obtain ⟨v20, hv20, H⟩ := H
     refine w_y (y_lda tok rfl rfl rfl rfl rfl hv20) rfl rfl ?_
     obtain ⟨b21, h22, eb21, eh22, H⟩ := H
     refine w_h (h_bs tok rfl rfl rfl rfl rfl rfl rfl eb21 eh22) rfl rfl ?_
     refine w_a (a_app (s := t10_1) (r := (⟨some ⟨b21, 0, none⟩, 1, 1⟩ : Slc)) tok rfl rfl rfl rfl rfl (slcAt_push eb21 eh22) H) rfl rfl ?_
     rintro _ h24 ⟨s23, rfl, H⟩
     refine wP tok ?_
     refine w_end ?_
     refine x_blk ?_
     exact xJ s23 H
    ·
     refine c_skip ?_
     refine x_blk ?_
     exact xJ t10_1 H
   ·
    refine c_sim [(2, .int .i64 p2), (3, pt b1), (7, pt b6), (9, Slc.v r9), (10, Slc.v t10_1), (11, .int .i64 t11_1), (12, pt b16), (13, .bool r14.2)] (by kernel_rfl) (by kernel_rfl) ⟨rfl, rfl, rfl, rfl, rfl, rfl, rfl, rfl, trivial⟩ (fun wf => ?_)
    refine sT 0 [(13, .bool r14.2)] (some 37) tok wf (fun P_0 => ?_)
    refine sT 1 [(37, .bool r14.2)] (some 38) tok wf (fun P_1 => ?_)
    refine sim_gif 38 H rfl (fun hb H => ?_) (fun hb H => ?_)
    ·
     obtain ⟨v25, hv25, H⟩ := H
     refine sV 2 [(7, pt b6), (38, .bool true)] (some 39) wf (pf_y rfl rfl rfl (y_lda tok rfl rfl rfl rfl rfl hv25)) (fun P_2 => ?_)
     obtain ⟨v26, hv26, H⟩ := H
     refine sV 3 [(12, pt b16), (38, .bool true)] (some 40) wf (pf_y rfl rfl rfl (y_lda tok rfl rfl rfl rfl rfl hv26)) (fun P_3 => ?_)
     refine sim_c 4 [0, 1, 2, 3] [0, 1, 2, 3] (ei := [(38, .bool true), (39, .agg (S_api_Selector.cs v25).toArray), (40, .agg (S_api_Series.cs v26).toArray)]) ref15_Chooses_ok (ref15_Chooses_ref _ _ _ _ H) wf ⟨P_3, P_2, P_1 _, P_0 _, trivial⟩ (by kernel_rfl) ⟨rfl, rfl, rfl, trivial⟩ (by kernel_rfl) rfl rfl rfl rfl rfl ?_
     rintro _ h28 ⟨r27, rfl, H⟩
     refine sT 5 [(38, .bool true), (41, .bool r27)] (some 42) tok wf (fun P_5 => ?_)
     refine sT 6 [(42, .bool r27)] (some 43) tok wf (fun P_6 => ?_)
     refine sim_gif 43 H rfl (fun hb H => ?_) (fun hb H => ?_)
     ·
      refine sT 7 [(9, Slc.v r9), (43, .bool true)] (some 44) tok wf (fun P_7 => ?_)
      refine sT 8 [(11, .int .i64 t11_1), (43, .bool true)] (some 45) tok wf (fun P_8 => ?_)
      obtain ⟨a29, ha29, la29, ua29, H⟩ := H
      refine sU 9 [(43, .bool true), (44, Slc.v r9), (45, .int .i64 t11_1)] (some 46) wf (fun _ => pf_y rfl rfl rfl (y_ixa' tok rfl rfl ha29 rfl rfl rfl la29 ua29)) (fun P_9 => ?_)
      refine sT 10 [(43, .bool true), (46, .pointer (some (a29.add (t11_1.toNat * 5))))] (some 47) tok wf (fun P_10 => ?_)
      obtain ⟨v30, hv30, H⟩ := H
      refine sV 11 [(43, .bool true), (47, .pointer (some ((a29.add (t11_1.toNat * 5)).add 1)))] (some 48) wf (pf_y rfl rfl rfl (y_ld tok rfl rfl rfl rfl hv30)) (fun P_11 => ?_)
      refine sT 12 [(3, pt b1), (43, .bool true)] (some 49) tok wf (fun P_12 => ?_)
      obtain ⟨v31, hv31, H⟩ := H
      refine sV 13 [(43, .bool true), (49, .pointer (some ((ad b1).add 1)))] (some 50) wf (pf_y rfl rfl rfl (y_ld tok rfl rfl rfl rfl hv31)) (fun P_13 => ?_)
      refine sT 14 [(43, .bool true), (48, .int .i64 v30), (50, .int .i64 v31)] (some 51) tok wf (fun P_14 => ?_)
      refine sT 15 [(43, .bool true), (51, .bool (decide (v30 ≥ v31)))] (some 52) tok wf (fun P_15 => ?_)
      refine sT 16 [(52, .bool (decide (v30 ≥ v31)))] (some 53) tok wf (fun P_16 => ?_)
      refine sim_gif 53 H rfl (fun hb H => ?_) (fun hb H => ?_)
      ·
       refine sT 17 [(9, Slc.v r9), (53, .bool true)] (some 54) tok wf (fun P_17 => ?_)
       refine sT 18 [(11, .int .i64 t11_1), (53, .bool true)] (some 55) tok wf (fun P_18 => ?_)
       obtain ⟨a32, ha32, la32, ua32, H⟩ := H
       refine sU 19 [(53, .bool true), (54, Slc.v r9), (55, .int .i64 t11_1)] (some 56) wf (fun _ => pf_y rfl rfl rfl (y_ixa' tok rfl rfl ha32 rfl rfl rfl la32 ua32)) (fun P_19 => ?_)
       refine sT 20 [(53, .bool true), (56, .pointer (some (a32.add (t11_1.toNat * 5))))] (some 57) tok wf (fun P_20 => ?_)
       obtain ⟨v33, hv33, H⟩ := H
       refine sV 21 [(53, .bool true), (57, .pointer (some ((a32.add (t11_1.toNat * 5)).add 1)))] (some 58) wf (pf_y rfl rfl rfl (y_ld tok rfl rfl rfl rfl hv33)) (fun P_21 => ?_)
       refine sT 22 [(2, .int .i64 p2), (53, .bool true)] (some 59) tok wf (fun P_22 => ?_)
       refine sT 23 [(53, .bool true), (58, .int .i64 v33), (59, .int .i64 p2)] (some 60) tok wf (fun P_23 => ?_)
       refine sT 24 [(53, .bool true), (60, .bool (decide (v33 ≥ p2)))] (some 61) tok wf (fun P_24 => ?_)
       refine sT 25 [(61, .bool (decide (v33 ≥ p2)))] (some 62) tok wf (fun P_25 => ?_)
       refine sim_gif 62 H rfl (fun hb H => ?_) (fun hb H => ?_)
       ·
        refine sT 26 [(9, Slc.v r9), (62, .bool true)] (some 63) tok wf (fun P_26 => ?_)
        refine sT 27 [(11, .int .i64 t11_1), (62, .bool true)] (some 64) tok wf (fun P_27 => ?_)
        obtain ⟨a34, ha34, la34, ua34, H⟩ := H
        refine sU 28 [(62, .bool true), (63, Slc.v r9), (64, .int .i64 t11_1)] (some 65) wf (fun _ => pf_y rfl rfl rfl (y_ixa' tok rfl rfl ha34 rfl rfl rfl la34 ua34)) (fun P_28 => ?_)
        refine sT 29 [(62, .bool true), (65, .pointer (some (a34.add (t11_1.toNat * 5))))] (some 66) tok wf (fun P_29 => ?_)
        obtain ⟨v35, hv35, H⟩ := H
        refine sV 30 [(62, .bool true), (66, .pointer (some ((a34.add (t11_1.toNat * 5)).add 1)))] (some 67) wf (pf_y rfl rfl rfl (y_ld tok rfl rfl rfl rfl hv35)) (fun P_30 => ?_)
        refine sT 31 [(3, pt b1), (62, .bool true)] (some 68) tok wf (fun P_31 => ?_)
        obtain ⟨v36, hv36, H⟩ := H
        refine sV 32 [(62, .bool true), (68, .pointer (some ((ad b1).add 2)))] (some 69) wf (pf_y rfl rfl rfl (y_ld tok rfl rfl rfl rfl hv36)) (fun P_32 => ?_)
        refine sT 33 [(62, .bool true), (67, .int .i64 v35), (69, .int .i64 v36)] (some 70) tok wf (fun P_33 => ?_)
        refine sT 34 [(62, .bool true), (70, .bool (decide (v35 ≤ v36)))] (some 71) tok wf (fun P_34 => ?_)
        refine sim_end wf ⟨P_34 _, P_33 _, P_32, P_31 _, P_30, P_29 _, P_28 _, P_27 _, P_26 _, P_25 _, P_24 _, P_23 _, P_22 _, P_21, P_20 _, P_19 _, P_18 _, P_17 _, P_16 _, P_15 _, P_14 _, P_13, P_12 _, P_11, P_10 _, P_9 _, P_8 _, P_7 _, P_6 _, P_5 _, trivial, trivial, trivial, trivial, trivial⟩ (by kernel_rfl) ?_
        clear wf P_0 P_1 P_10 P_11 P_12 P_13 P_14 P_15 P_16 P_17 P_18 P_19 P_2 P_20 P_21 P_22 P_23 P_24 P_25 P_26 P_27 P_28 P_29 P_3 P_30 P_31 P_32 P_33 P_34 P_5 P_6 P_7 P_8 P_9
        exact xJ (decide (v35 ≤ v36)) H
       ·
        refine sS 26 [(9, Slc.v r9), (62, .bool false)] (some 63) wf (fun P_26 => ?_)
        refine sS 27 [(11, .int .i64 t11_1), (62, .bool false)] (some 64) wf (fun P_27 => ?_)
        refine sS 28 [(62, .bool false), (63, undef), (64, undef)] (some 65) wf (fun P_28 => ?_)
        refine sS 29 [(62, .bool false), (65, undef)] (some 66) wf (fun P_29 => ?_)
        refine sS 30 [(62, .bool false), (66, undef)] (some 67) wf (fun P_30 => ?_)
        refine sS 31 [(3, pt b1), (62, .bool false)] (some 68) wf (fun P_31 => ?_)
        refine sS 32 [(62, .bool false), (68, undef)] (some 69) wf (fun P_32 => ?_)
        refine sS 33 [(62, .bool false), (67, undef), (69, undef)] (some 70) wf (fun P_33 => ?_)
        refine sT 34 [(62, .bool false), (70, undef)] (some 71) tok wf (fun P_34 => ?_)
        refine sim_end wf ⟨P_34 _, P_33 _, P_32 _, P_31 _, P_30 _, P_29 _, P_28 _, P_27 _, P_26 _, P_25 _, P_24 _, P_23 _, P_22 _, P_21, P_20 _, P_19 _, P_18 _, P_17 _, P_16 _, P_15 _, P_14 _, P_13, P_12 _, P_11, P_10 _, P_9 _, P_8 _, P_7 _, P_6 _, P_5 _, trivial, trivial, trivial, trivial, trivial⟩ (by kernel_rfl) ?_
        clear wf P_0 P_1 P_10 P_11 P_12 P_13 P_14 P_15 P_16 P_17 P_18 P_19 P_2 P_20 P_21 P_22 P_23 P_24 P_25 P_26 P_27 P_28 P_29 P_3 P_30 P_31 P_32 P_33 P_34 P_5 P_6 P_7 P_8 P_9
        exact xJ false H
      ·
       refine sS 17 [(9, Slc.v r9), (53, .bool false)] (some 54) wf (fun P_17 => ?_)
       refine sS 18 [(11, .int .i64 t11_1), (53, .bool false)] (some 55) wf (fun P_18 => ?_)
       refine sS 19 [(53, .bool false), (54, undef), (55, undef)] (some 56) wf (fun P_19 => ?_)
       refine sS 20 [(53, .bool false), (56, undef)] (some 57) wf (fun P_20 => ?_)
       refine sS 21 [(53, .bool false), (57, undef)] (some 58) wf (fun P_21 => ?_)
       refine sS 22 [(2, .int .i64 p2), (53, .bool false)] (some 59) wf (fun P_22 => ?_)
       refine sS 23 [(53, .bool false), (58, undef), (59, undef)] (some 60) wf (fun P_23 => ?_)
       refine sT 24 [(53, .bool false), (60, undef)] (some 61) tok wf (fun P_24 => ?_)
       refine sT 25 [(61, .bool false)] (some 62) tok wf (fun P_25 => ?_)
       refine sim_gif 62 H rfl (fun hb H => ?_) (fun hb H => ?_)
       ·
        refine sT 26 [(9, Slc.v r9), (62, .bool true)] (some 63) tok wf (fun P_26 => ?_)
        refine sT 27 [(11, .int .i64 t11_1), (62, .bool true)] (some 64) tok wf (fun P_27 => ?_)
        obtain ⟨a37, ha37, la37, ua37, H⟩ := H
        refine sU 28 [(62, .bool true), (63, Slc.v r9), (64, .int .i64 t11_1)] (some 65) wf (fun _ => pf_y rfl rfl rfl (y_ixa' tok rfl rfl ha37 rfl rfl rfl la37 ua37)) (fun P_28 => ?_)
        refine sT 29 [(62, .bool true), (65, .pointer (some (a37.add (t11_1.toNat * 5))))] (some 66) tok wf (fun P_29 => ?_)
        obtain ⟨v38, hv38, H⟩ := H
        refine sV 30 [(62, .bool true), (66, .pointer (some ((a37.add (t11_1.toNat * 5)).add 1)))] (some 67) wf (pf_y rfl rfl rfl (y_ld tok rfl rfl rfl rfl hv38)) (fun P_30 => ?_)
        refine sT 31 [(3, pt b1), (62, .bool true)] (some 68) tok wf (fun P_31 => ?_)
        obtain ⟨v39, hv39, H⟩ := H
        refine sV 32 [(62, .bool true), (68, .pointer (some ((ad b1).add 2)))] (some 69) wf (pf_y rfl rfl rfl (y_ld tok rfl rfl rfl rfl hv39)) (fun P_32 => ?_)
        refine sT 33 [(62, .bool true), (67, .int .i64 v38), (69, .int .i64 v39)] (some 70) tok wf (fun P_33 => ?_)
        refine sT 34 [(62, .bool true), (70, .bool (decide (v38 ≤ v39)))] (some 71) tok wf (fun P_34 => ?_)
        refine sim_end wf ⟨P_34 _, P_33 _, P_32, P_31 _, P_30, P_29 _, P_28 _, P_27 _, P_26 _, P_25 _, P_24 _, P_23 _, P_22 _, P_21 _, P_20 _, P_19 _, P_18 _, P_17 _, P_16 _, P_15 _, P_14 _, P_13, P_12 _, P_11, P_10 _, P_9 _, P_8 _, P_7 _, P_6 _, P_5 _, trivial, trivial, trivial, trivial, trivial⟩ (by kernel_rfl) ?_
        clear wf P_0 P_1 P_10 P_11 P_12 P_13 P_14 P_15 P_16 P_17 P_18 P_19 P_2 P_20 P_21 P_22 P_23 P_24 P_25 P_26 P_27 P_28 P_29 P_3 P_30 P_31 P_32 P_33 P_34 P_5 P_6 P_7 P_8 P_9
        exact xJ (decide (v38 ≤ v39)) H
       ·
        refine sS 26 [(9, Slc.v r9), (62, .bool false)] (some 63) wf (fun P_26 => ?_)
        refine sS 27 [(11, .int .i64 t11_1), (62, .bool false)] (some 64) wf (fun P_27 => ?_)
        refine sS 28 [(62, .bool false), (63, undef), (64, undef)] (some 65) wf (fun P_28 => ?_)
        refine sS 29 [(62, .bool false), (65, undef)] (some 66) wf (fun P_29 => ?_)
        refine sS 30 [(62, .bool false), (66, undef)] (some 67) wf (fun P_30 => ?_)
        refine sS 31 [(3, pt b1), (62, .bool false)] (some 68) wf (fun P_31 => ?_)
        refine sS 32 [(62, .bool false), (68, undef)] (some 69) wf (fun P_32 => ?_)
        refine sS 33 [(62, .bool false), (67, undef), (69, undef)] (some 70) wf (fun P_33 => ?_)
        refine sT 34 [(62, .bool false), (70, undef)] (some 71) tok wf (fun P_34 => ?_)
        refine sim_end wf ⟨P_34 _, P_33 _, P_32 _, P_31 _, P_30 _, P_29 _, P_28 _, P_27 _, P_26 _, P_25 _, P_24 _, P_23 _, P_22 _, P_21 _, P_20 _, P_19 _, P_18 _, P_17 _, P_16 _, P_15 _, P_14 _, P_13, P_12 _, P_11, P_10 _, P_9 _, P_8 _, P_7 _, P_6 _, P_5 _, trivial, trivial, trivial, trivial, trivial⟩ (by kernel_rfl) ?_
        clear wf P_0 P_1 P_10 P_11 P_12 P_13 P_14 P_15 P_16 P_17 P_18 P_19 P_2 P_20 P_21 P_22 P_23 P_24 P_25 P_26 P_27 P_28 P_29 P_3 P_30 P_31 P_32 P_33 P_34 P_5 P_6 P_7 P_8 P_9
        exact xJ false H
     ·
      refine sS 7 [(9, Slc.v r9), (43, .bool false)] (some 44) wf (fun P_7 => ?_)
      refine sS 8 [(11, .int .i64 t11_1), (43, .bool false)] (some 45) wf (fun P_8 => ?_)
      refine sS 9 [(43, .bool false), (44, undef), (45, undef)] (some 46) wf (fun P_9 => ?_)
      refine sS 10 [(43, .bool false), (46, undef)] (some 47) wf (fun P_10 => ?_)
      refine sS 11 [(43, .bool false), (47, undef)] (some 48) wf (fun P_11 => ?_)
      refine sS 12 [(3, pt b1), (43, .bool false)] (some 49) wf (fun P_12 => ?_)
      refine sS 13 [(43, .bool false), (49, undef)] (some 50) wf (fun P_13 => ?_)
      refine sS 14 [(43, .bool false), (48, undef), (50, undef)] (some 51) wf (fun P_14 => ?_)
      refine sT 15 [(43, .bool false), (51, undef)] (some 52) tok wf (fun P_15 => ?_)
      refine sT 16 [(52, .bool false)] (some 53) tok wf (fun P_16 => ?_)
      refine sim_gif 53 H rfl (fun hb H => ?_) (fun hb H => ?_)
      ·
       refine sT 17 [(9, Slc.v r9), (53, .bool true)] (some 54) tok wf (fun P_17 => ?_)
       refine sT 18 [(11, .int .i64 t11_1), (53, .bool true)] (some 55) tok wf (fun P_18 => ?_)
       obtain ⟨a40, ha40, la40, ua40, H⟩ := H
       refine sU 19 [(53, .bool true), (54, Slc.v r9), (55, .int .i64 t11_1)] (some 56) wf (fun _ => pf_y rfl rfl rfl (y_ixa' tok rfl rfl ha40 rfl rfl rfl la40 ua40)) (fun P_19 => ?_)
       refine sT 20 [(53, .bool true), (56, .pointer (some (a40.add (t11_1.toNat * 5))))] (some 57) tok wf (fun P_20 => ?_)
       obtain ⟨v41, hv41, H⟩ := H
       refine sV 21 [(53, .bool true), (57, .pointer (some ((a40.add (t11_1.toNat * 5)).add 1)))] (some 58) wf (pf_y rfl rfl rfl (y_ld tok rfl rfl rfl rfl hv41)) (fun P_21 => ?_)
       refine sT 22 [(2, .int .i64 p2), (53, .bool true)] (some 59) tok wf (fun P_22 => ?_)
       refine sT 23 [(53, .bool true), (58, .int .i64 v41), (59, .int .i64 p2)] (some 60) tok wf (fun P_23 => ?_)
       refine sT 24 [(53, .bool true), (60, .bool (decide (v41 ≥ p2)))] (some 61) tok wf (fun P_24 => ?_)
       refine sT 25 [(61, .bool (decide (v41 ≥ p2)))] (some 62) tok wf (fun P_25 => ?_)
       refine sim_gif 62 H rfl (fun hb H => ?_) (fun hb H => ?_)
       ·
        refine sT 26 [(9, Slc.v r9), (62, .bool true)] (some 63) tok wf (fun P_26 => ?_)
        refine sT 27 [(11, .int .i64 t11_1), (62, .bool true)] (some 64) tok wf (fun P_27 => ?_)
        obtain ⟨a42, ha42, la42, ua42, H⟩ := H
        refine sU 28 [(62, .bool true), (63, Slc.v r9), (64, .int .i64 t11_1)] (some 65) wf (fun _ => pf_y rfl rfl rfl (y_ixa' tok rfl rfl ha42 rfl rfl rfl la42 ua42)) (fun P_28 => ?_)
        refine sT 29 [(62, .bool true), (65, .pointer (some (a42.add (t11_1.toNat * 5))))] (some 66) tok wf (fun P_29 => ?_)
        obtain ⟨v43, hv43, H⟩ := H
        refine sV 30 [(62, .bool true), (66, .pointer (some ((a42.add (t11_1.toNat * 5)).add 1)))] (some 67) wf (pf_y rfl rfl rfl (y_ld tok rfl rfl rfl rfl hv43)) (fun P_30 => ?_)
        refine sT 31 [(3, pt b1), (62, .bool true)] (some 68) tok wf (fun P_31 => ?_)
        obtain ⟨v44, hv44, H⟩ := H
        refine sV 32 [(62, .bool true), (68, .pointer (some ((ad b1).add 2)))] (some 69) wf (pf_y rfl rfl rfl (y_ld tok rfl rfl rfl rfl hv44)) (fun P_32 => ?_)
        refine sT 33 [(62, .bool true), (67, .int .i64 v43), (69, .int .i64 v44)] (some 70) tok wf (fun P_33 => ?_)
        refine sT 34 [(62, .bool true), (70, .bool (decide (v43 ≤ v44)))] (some 71) tok wf (fun P_34 => ?_)
        refine sim_end wf ⟨P_34 _, P_33 _, P_32, P_31 _, P_30, P_29 _, P_28 _, P_27 _, P_26 _, P_25 _, P_24 _, P_23 _, P_22 _, P_21, P_20 _, P_19 _, P_18 _, P_17 _, P_16 _, P_15 _, P_14 _, P_13 _, P_12 _, P_11 _, P_10 _, P_9 _, P_8 _, P_7 _, P_6 _, P_5 _, trivial, trivial, trivial, trivial, trivial⟩ (by kernel_rfl) ?_
        clear wf P_0 P_1 P_10 P_11 P_12 P_13 P_14 P_15 P_16 P_17 P_18 P_19 P_2 P_20 P_21 P_22 P_23 P_24 P_25 P_26 P_27 P_28 P_29 P_3 P_30 P_31 P_32 P_33 P_34 P_5 P_6 P_7 P_8 P_9
        exact xJ (decide (v43 ≤ v44)) H
       ·
        refine sS 26 [(9, Slc.v r9), (62, .bool false)] (some 63) wf (fun P_26 => ?_)
        refine sS 27 [(11, .int .i64 t11_1), (62, .bool false)] (some 64) wf (fun P_27 => ?_)
        refine sS 28 [(62, .bool false), (63, undef), (64, undef)] (some 65) wf (fun P_28 => ?_)
        refine sS 29 [(62, .bool false), (65, undef)] (some 66) wf (fun P_29 => ?_)
        refine sS 30 [(62, .bool false), (66, undef)] (some 67) wf (fun P_30 => ?_)
        refine sS 31 [(3, pt b1), (62, .bool false)] (some 68) wf (fun P_31 => ?_)
        refine sS 32 [(62, .bool false), (68, undef)] (some 69) wf (fun P_32 => ?_)
        refine sS 33 [(62, .bool false), (67, undef), (69, undef)] (some 70) wf (fun P_33 => ?_)
        refine sT 34 [(62, .bool false), (70, undef)] (some 71) tok wf (fun P_34 => ?_)
        refine sim_end wf ⟨P_34 _, P_33 _, P_32 _, P_31 _, P_30 _, P_29 _, P_28 _, P_27 _, P_26 _, P_25 _, P_24 _, P_23 _, P_22 _, P_21, P_20 _, P_19 _, P_18 _, P_17 _, P_16 _, P_15 _, P_14 _, P_13 _, P_12 _, P_11 _, P_10 _, P_9 _, P_8 _, P_7 _, P_6 _, P_5 _, trivial, trivial, trivial, trivial, trivial⟩ (by kernel_rfl) ?_
        clear wf P_0 P_1 P_10 P_11 P_12 P_13 P_14 P_15 P_16 P_17 P_18 P_19 P_2 P_20 P_21 P_22 P_23 P_24 P_25 P_26 P_27 P_28 P_29 P_3 P_30 P_31 P_32 P_33 P_34 P_5 P_6 P_7 P_8 P_9
        exact xJ false H
      ·
       refine sS 17 [(9, Slc.v r9), (53, .bool false)] (some 54) wf (fun P_17 => ?_)
       refine sS 18 [(11, .int .i64 t11_1), (53, .bool false)] (some 55) wf (fun P_18 => ?_)
       refine sS 19 [(53, .bool false), (54, undef), (55, undef)] (some 56) wf (fun P_19 => ?_)
       refine sS 20 [(53, .bool false), (56, undef)] (some 57) wf (fun P_20 => ?_)
       refine sS 21 [(53, .bool false), (57, undef)] (some 58) wf (fun P_21 => ?_)
       refine sS 22 [(2, .int .i64 p2), (53, .bool false)] (some 59) wf (fun P_22 => ?_)
       refine sS 23 [(53, .bool false), (58, undef), (59, undef)] (some 60) wf (fun P_23 => ?_)
       refine sT 24 [(53, .bool false), (60, undef)] (some 61) tok wf (fun P_24 => ?_)
       refine sT 25 [(61, .bool false)] (some 62) tok wf (fun P_25 => ?_)
       refine sim_gif 62 H rfl (fun hb H => ?_) (fun hb H => ?_)
       ·
        refine sT 26 [(9, Slc.v r9), (62, .bool true)] (some 63) tok wf (fun P_26 => ?_)
        refine sT 27 [(11, .int .i64 t11_1), (62, .bool true)] (some 64) tok wf (fun P_27 => ?_)
        obtain ⟨a45, ha45, la45, ua45, H⟩ := H
        refine sU 28 [(62, .bool true), (63, Slc.v r9), (64, .int .i64 t11_1)] (some 65) wf (fun _ => pf_y rfl rfl rfl (y_ixa' tok rfl rfl ha45 rfl rfl rfl la45 ua45)) (fun P_28 => ?_)
        refine sT 29 [(62, .bool true), (65, .pointer (some (a45.add (t11_1.toNat * 5))))] (some 66) tok wf (fun P_29 => ?_)
        obtain ⟨v46, hv46, H⟩ := H
        refine sV 30 [(62, .bool true), (66, .pointer (some ((a45.add (t11_1.toNat * 5)).add 1)))] (some 67) wf (pf_y rfl rfl rfl (y_ld tok rfl rfl rfl rfl hv46)) (fun P_30 => ?_)
        refine sT 31 [(3, pt b1), (62, .bool true)] (some 68) tok wf (fun P_31 => ?_)
        obtain ⟨v47, hv47, H⟩ := H
        refine sV 32 [(62, .bool true), (68, .pointer (some ((ad b1).add 2)))] (some 69) wf (pf_y rfl rfl rfl (y_ld tok rfl rfl rfl rfl hv47)) (fun P_32 => ?_)
        refine sT 33 [(62, .bool true), (67, .int .i64 v46), (69, .int .i64 v47)] (some 70) tok wf (fun P_33 => ?_)
        refine sT 34 [(62, .bool true), (70, .bool (decide (v46 ≤ v47)))] (some 71) tok wf (fun P_34 => ?_)
        refine sim_end wf ⟨P_34 _, P_33 _, P_32, P_31 _, P_30, P_29 _, P_28 _, P_27 _, P_26 _, P_25 _, P_24 _, P_23 _, P_22 _, P_21 _, P_20 _, P_19 _, P_18 _, P_17 _, P_16 _, P_15 _, P_14 _, P_13 _, P_12 _, P_11 _, P_10 _, P_9 _, P_8 _, P_7 _, P_6 _, P_5 _, trivial, trivial, trivial, trivial, trivial⟩ (by kernel_rfl) ?_
        clear wf P_0 P_1 P_10 P_11 P_12 P_13 P_14 P_15 P_16 P_17 P_18 P_19 P_2 P_20 P_21 P_22 P_23 P_24 P_25 P_26 P_27 P_28 P_29 P_3 P_30 P_31 P_32 P_33 P_34 P_5 P_6 P_7 P_8 P_9
        exact xJ (decide (v46 ≤ v47)) H
       ·
        refine sS 26 [(9, Slc.v r9), (62, .bool false)] (some 63) wf (fun P_26 => ?_)
        refine sS 27 [(11, .int .i64 t11_1), (62, .bool false)] (some 64) wf (fun P_27 => ?_)
        refine sS 28 [(62, .bool false), (63, undef), (64, undef)] (some 65) wf (fun P_28 => ?_)
        refine sS 29 [(62, .bool false), (65, undef)] (some 66) wf (fun P_29 => ?_)
        refine sS 30 [(62, .bool false), (66, undef)] (some 67) wf (fun P_30 => ?_)
        refine sS 31 [(3, pt b1), (62, .bool false)] (some 68) wf (fun P_31 => ?_)
        refine sS 32 [(62, .bool false), (68, undef)] (some 69) wf (fun P_32 => ?_)
        refine sS 33 [(62, .bool false), (67, undef), (69, undef)] (some 70) wf (fun P_33 => ?_)
        refine sT 34 [(62, .bool false), (70, undef)] (some 71) tok wf (fun P_34 => ?_)
        refine sim_end wf ⟨P_34 _, P_33 _, P_32 _, P_31 _, P_30 _, P_29 _, P_28 _, P_27 _, P_26 _, P_25 _, P_24 _, P_23 _, P_22 _, P_21 _, P_20 _, P_19 _, P_18 _, P_17 _, P_16 _, P_15 _, P_14 _, P_13 _, P_12 _, P_11 _, P_10 _, P_9 _, P_8 _, P_7 _, P_6 _, P_5 _, trivial, trivial, trivial, trivial, trivial⟩ (by kernel_rfl) ?_
        clear wf P_0 P_1 P_10 P_11 P_12 P_13 P_14 P_15 P_16 P_17 P_18 P_19 P_2 P_20 P_21 P_22 P_23 P_24 P_25 P_26 P_27 P_28 P_29 P_3 P_30 P_31 P_32 P_33 P_34 P_5 P_6 P_7 P_8 P_9
        exact xJ false H
    ·
     refine sS 2 [(7, pt b6), (38, .bool false)] (some 39) wf (fun P_2 => ?_)
     refine sS 3 [(12, pt b16), (38, .bool false)] (some 40) wf (fun P_3 => ?_)
     refine sS 4 [(38, .bool false), (39, undef), (40, undef)] (some 41) wf (fun P_4 => ?_)
     refine sT 5 [(38, .bool false), (41, undef)] (some 42) tok wf (fun P_5 => ?_)
     refine sT 6 [(42, .bool false)] (some 43) tok wf (fun P_6 => ?_)
     refine sim_gif 43 H rfl (fun hb H => ?_) (fun hb H => ?_)
     ·
      refine sT 7 [(9, Slc.v r9), (43, .bool true)] (some 44) tok wf (fun P_7 => ?_)
      refine sT 8 [(11, .int .i64 t11_1), (43, .bool true)] (some 45) tok wf (fun P_8 => ?_)
      obtain ⟨a48, ha48, la48, ua48, H⟩ := H
      refine sU 9 [(43, .bool true), (44, Slc.v r9), (45, .int .i64 t11_1)] (some 46) wf (fun _ => pf_y rfl rfl rfl (y_ixa' tok rfl rfl ha48 rfl rfl rfl la48 ua48)) (fun P_9 => ?_)
      refine sT 10 [(43, .bool true), (46, .pointer (some (a48.add (t11_1.toNat * 5))))] (some 47) tok wf (fun P_10 => ?_)
      obtain ⟨v49, hv49, H⟩ := H
      refine sV 11 [(43, .bool true), (47, .pointer (some ((a48.add (t11_1.toNat * 5)).add 1)))] (some 48) wf (pf_y rfl rfl rfl (y_ld tok rfl rfl rfl rfl hv49)) (fun P_11 => ?_)
      refine sT 12 [(3, pt b1), (43, .bool true)] (some 49) tok wf (fun P_12 => ?_)
      obtain ⟨v50, hv50, H⟩ := H
      refine sV 13 [(43, .bool true), (49, .pointer (some ((ad b1).add 1)))] (some 50) wf (pf_y rfl rfl rfl (y_ld tok rfl rfl rfl rfl hv50)) (fun P_13 => ?_)
      refine sT 14 [(43, .bool true), (48, .int .i64 v49), (50, .int .i64 v50)] (some 51) tok wf (fun P_14 => ?_)
      refine sT 15 [(43, .bool true), (51, .bool (decide (v49 ≥ v50)))] (some 52) tok wf (fun P_15 => ?_)
      refine sT 16 [(52, .bool (decide (v49 ≥ v50)))] (some 53) tok wf (fun P_16 => ?_)
      refine sim_gif 53 H rfl (fun hb H => ?_) (fun hb H => ?_)
      ·
       refine sT 17 [(9, Slc.v r9), (53, .bool true)] (some 54) tok wf (fun P_17 => ?_)
       refine sT 18 [(11, .int .i64 t11_1), (53, .bool true)] (some 55) tok wf (fun P_18 => ?_)
       obtain ⟨a51, ha51, la51, ua51, H⟩ := H
       refine sU 19 [(53, .bool true), (54, Slc.v r9), (55, .int .i64 t11_1)] (some 56) wf (fun _ => pf_y rfl rfl rfl (y_ixa' tok rfl rfl ha51 rfl rfl rfl la51 ua51)) (fun P_19 => ?_)
       refine sT 20 [(53, .bool true), (56, .pointer (some (a51.add (t11_1.toNat * 5))))] (some 57) tok wf (fun P_20 => ?_)
       obtain ⟨v52, hv52, H⟩ := H
       refine sV 21 [(53, .bool true), (57, .pointer (some ((a51.add (t11_1.toNat * 5)).add 1)))] (some 58) wf (pf_y rfl rfl rfl (y_ld tok rfl rfl rfl rfl hv52)) (fun P_21 => ?_)
       refine sT 22 [(2, .int .i64 p2), (53, .bool true)] (some 59) tok wf (fun P_22 => ?_)
       refine sT 23 [(53, .bool true), (58, .int .i64 v52), (59, .int .i64 p2)] (some 60) tok wf (fun P_23 => ?_)
       refine sT 24 [(53, .bool true), (60, .bool (decide (v52 ≥ p2)))] (some 61) tok wf (fun P_24 => ?_)
       refine sT 25 [(61, .bool (decide (v52 ≥ p2)))] (some 62) tok wf (fun P_25 => ?_)
       refine sim_gif 62 H rfl (fun hb H => ?_) (fun hb H => ?_)
       ·
        refine sT 26 [(9, Slc.v r9), (62, .bool true)] (some 63) tok wf (fun P_26 => ?_)
        refine sT 27 [(11, .int .i64 t11_1), (62, .bool true)] (some 64) tok wf (fun P_27 => ?_)
        obtain ⟨a53, ha53, la53, ua53, H⟩ := H
        refine sU 28 [(62, .bool true), (63, Slc.v r9), (64, .int .i64 t11_1)] (some 65) wf (fun _ => pf_y rfl rfl rfl (y_ixa' tok rfl rfl ha53 rfl rfl rfl la53 ua53)) (fun P_28 => ?_)
        refine sT 29 [(62, .bool true), (65, .pointer (some (a53.add (t11_1.toNat * 5))))] (some 66) tok wf (fun P_29 => ?_)
        obtain ⟨v54, hv54, H⟩ := H
        refine sV 30 [(62, .bool true), (66, .pointer (some ((a53.add (t11_1.toNat * 5)).add 1)))] (some 67) wf (pf_y rfl rfl rfl (y_ld tok rfl rfl rfl rfl hv54)) (fun P_30 => ?_)
        refine sT 31 [(3, pt b1), (62, .bool true)] (some 68) tok wf (fun P_31 => ?_)
        obtain ⟨v55, hv55, H⟩ := H
        refine sV 32 [(62, .bool true), (68, .pointer (some ((ad b1).add 2)))] (some 69) wf (pf_y rfl rfl rfl (y_ld tok rfl rfl rfl rfl hv55)) (fun P_32 => ?_)
        refine sT 33 [(62, .bool true), (67, .int .i64 v54), (69, .int .i64 v55)] (some 70) tok wf (fun P_33 => ?_)
        refine sT 34 [(62, .bool true), (70, .bool (decide (v54 ≤ v55)))] (some 71) tok wf (fun P_34 => ?_)
        refine sim_end wf ⟨P_34 _, P_33 _, P_32, P_31 _, P_30, P_29 _, P_28 _, P_27 _, P_26 _, P_25 _, P_24 _, P_23 _, P_22 _, P_21, P_20 _, P_19 _, P_18 _, P_17 _, P_16 _, P_15 _, P_14 _, P_13, P_12 _, P_11, P_10 _, P_9 _, P_8 _, P_7 _, P_6 _, P_5 _, P_4 _, P_3 _, P_2 _, P_1 _, P_0 _, trivial⟩ (by kernel_rfl) ?_
        clear wf P_0 P_1 P_10 P_11 P_12 P_13 P_14 P_15 P_16 P_17 P_18 P_19 P_2 P_20 P_21 P_22 P_23 P_24 P_25 P_26 P_27 P_28 P_29 P_3 P_30 P_31 P_32 P_33 P_34 P_4 P_5 P_6 P_7 P_8 P_9
        exact xJ (decide (v54 ≤ v55)) H
       ·
        refine sS 26 [(9, Slc.v r9), (62, .bool false)] (some 63) wf (fun P_26 => ?_)
        refine sS 27 [(11, .int .i64 t11_1), (62, .bool false)] (some 64) wf (fun P_27 => ?_)
        refine sS 28 [(62, .bool false), (63, undef), (64, undef)] (some 65) wf (fun P_28 => ?_)
        refine sS 29 [(62, .bool false), (65, undef)] (some 66) wf (fun P_29 => ?_)
        refine sS 30 [(62, .bool false), (66, undef)] (some 67) wf (fun P_30 => ?_)
        refine sS 31 [(3, pt b1), (62, .bool false)] (some 68) wf (fun P_31 => ?_)
        refine sS 32 [(62, .bool false), (68, undef)] (some 69) wf (fun P_32 => ?_)
        refine sS 33 [(62, .bool false), (67, undef), (69, undef)] (some 70) wf (fun P_33 => ?_)
        refine sT 34 [(62, .bool false), (70, undef)] (some 71) tok wf (fun P_34 => ?_)
        refine sim_end wf ⟨P_34 _, P_33 _, P_32 _, P_31 _, P_30 _, P_29 _, P_28 _, P_27 _, P_26 _, P_25 _, P_24 _, P_23 _, P_22 _, P_21, P_20 _, P_19 _, P_18 _, P_17 _, P_16 _, P_15 _, P_14 _, P_13, P_12 _, P_11, P_10 _, P_9 _, P_8 _, P_7 _, P_6 _, P_5 _, P_4 _, P_3 _, P_2 _, P_1 _, P_0 _, trivial⟩ (by kernel_rfl) ?_
        clear wf P_0 P_1 P_10 P_11 P_12 P_13 P_14 P_15 P_16 P_17 P_18 P_19 P_2 P_20 P_21 P_22 P_23 P_24 P_25 P_26 P_27 P_28 P_29 P_3 P_30 P_31 P_32 P_33 P_34 P_4 P_5 P_6 P_7 P_8 P_9
        exact xJ false H
      ·
       refine sS 17 [(9, Slc.v r9), (53, .bool false)] (some 54) wf (fun P_17 => ?_)
       refine sS 18 [(11, .int .i64 t11_1), (53, .bool false)] (some 55) wf (fun P_18 => ?_)
       refine sS 19 [(53, .bool false), (54, undef), (55, undef)] (some 56) wf (fun P_19 => ?_)
       refine sS 20 [(53, .bool false), (56, undef)] (some 57) wf (fun P_20 => ?_)
       refine sS 21 [(53, .bool false), (57, undef)] (some 58) wf (fun P_21 => ?_)
       refine sS 22 [(2, .int .i64 p2), (53, .bool false)] (some 59) wf (fun P_22 => ?_)
       refine sS 23 [(53, .bool false), (58, undef), (59, undef)] (some 60) wf (fun P_23 => ?_)
       refine sT 24 [(53, .bool false), (60, undef)] (some 61) tok wf (fun P_24 => ?_)
       refine sT 25 [(61, .bool false)] (some 62) tok wf (fun P_25 => ?_)
       refine sim_gif 62 H rfl (fun hb H => ?_) (fun hb H => ?_)
       ·
        refine sT 26 [(9, Slc.v r9), (62, .bool true)] (some 63) tok wf (fun P_26 => ?_)
        refine sT 27 [(11, .int .i64 t11_1), (62, .bool true)] (some 64) tok wf (fun P_27 => ?_)
        obtain ⟨a56, ha56, la56, ua56, H⟩ := H
        refine sU 28 [(62, .bool true), (63, Slc.v r9), (64, .int .i64 t11_1)] (some 65) wf (fun _ => pf_y rfl rfl rfl (y_ixa' tok rfl rfl ha56 rfl rfl rfl la56 ua56)) (fun P_28 => ?_)
        refine sT 29 [(62, .bool true), (65, .pointer (some (a56.add (t11_1.toNat * 5))))] (some 66) tok wf (fun P_29 => ?_)
        obtain ⟨v57, hv57, H⟩ := H
        refine sV 30 [(62, .bool true), (66, .pointer (some ((a56.add (t11_1.toNat * 5)).add 1)))] (some 67) wf (pf_y rfl rfl rfl (y_ld tok rfl rfl rfl rfl hv57)) (fun P_30 => ?_)
        refine sT 31 [(3, pt b1), (62, .bool true)] (some 68) tok wf (fun P_31 => ?_)
        obtain ⟨v58, hv58, H⟩ := H
        refine sV 32 [(62, .bool true), (68, .pointer (some ((ad b1).add 2)))] (some 69) wf (pf_y rfl rfl rfl (y_ld tok rfl rfl rfl rfl hv58)) (fun P_32 => ?_)
        refine sT 33 [(62, .bool true), (67, .int .i64 v57), (69, .int .i64 v58)] (some 70) tok wf (fun P_33 => ?_)
        refine sT 34 [(62, .bool true), (70, .bool (decide (v57 ≤ v58)))] (some 71) tok wf (fun P_34 => ?_)
        refine sim_end wf ⟨P_34 _, P_33 _, P_32, P_31 _, P_30, P_29 _, P_28 _, P_27 _, P_26 _, P_25 _, P_24 _, P_23 _, P_22 _, P_21 _, P_20 _, P_19 _, P_18 _, P_17 _, P_16 _, P_15 _, P_14 _, P_13, P_12 _, P_11, P_10 _, P_9 _, P_8 _, P_7 _, P_6 _, P_5 _, P_4 _, P_3 _, P_2 _, P_1 _, P_0 _, trivial⟩ (by kernel_rfl) ?_
        clear wf P_0 P_1 P_10 P_11 P_12 P_13 P_14 P_15 P_16 P_17 P_18 P_19 P_2 P_20 P_21 P_22 P_23 P_24 P_25 P_26 P_27 P_28 P_29 P_3 P_30 P_31 P_32 P_33 P_34 P_4 P_5 P_6 P_7 P_8 P_9
        exact xJ (decide (v57 ≤ v58)) H
       ·
        refine sS 26 [(9, Slc.v r9), (62, .bool false)] (some 63) wf (fun P_26 => ?_)
        refine sS 27 [(11, .int .i64 t11_1), (62, .bool false)] (some 64) wf (fun P_27 => ?_)
        refine sS 28 [(62, .bool false), (63, undef), (64, undef)] (some 65) wf (fun P_28 => ?_)
        refine sS 29 [(62, .bool false), (65, undef)] (some 66) wf (fun P_29 => ?_)
        refine sS 30 [(62, .bool false), (66, undef)] (some 67) wf (fun P_30 => ?_)
        refine sS 31 [(3, pt b1), (62, .bool false)] (some 68) wf (fun P_31 => ?_)
        refine sS 32 [(62, .bool false), (68, undef)] (some 69) wf (fun P_32 => ?_)
        refine sS 33 [(62, .bool false), (67, undef), (69, undef)] (some 70) wf (fun P_33 => ?_)
        refine sT 34 [(62, .bool false), (70, undef)] (some 71) tok wf (fun P_34 => ?_)
        refine sim_end wf ⟨P_34 _, P_33 _, P_32 _, P_31 _, P_30 _, P_29 _, P_28 _, P_27 _, P_26 _, P_25 _, P_24 _, P_23 _, P_22 _, P_21 _, P_20 _, P_19 _, P_18 _, P_17 _, P_16 _, P_15 _, P_14 _, P_13, P_12 _, P_11, P_10 _, P_9 _, P_8 _, P_7 _, P_6 _, P_5 _, P_4 _, P_3 _, P_2 _, P_1 _, P_0 _, trivial⟩ (by kernel_rfl) ?_
        clear wf P_0 P_1 P_10 P_11 P_12 P_13 P_14 P_15 P_16 P_17 P_18 P_19 P_2 P_20 P_21 P_22 P_23 P_24 P_25 P_26 P_27 P_28 P_29 P_3 P_30 P_31 P_32 P_33 P_34 P_4 P_5 P_6 P_7 P_8 P_9
        exact xJ false H
     ·
      refine sS 7 [(9, Slc.v r9), (43, .bool false)] (some 44) wf (fun P_7 => ?_)
      refine sS 8 [(11, .int .i64 t11_1), (43, .bool false)] (some 45) wf (fun P_8 => ?_)
      refine sS 9 [(43, .bool false), (44, undef), (45, undef)] (some 46) wf (fun P_9 => ?_)
      refine sS 10 [(43, .bool false), (46, undef)] (some 47) wf (fun P_10 => ?_)
      refine sS 11 [(43, .bool false), (47, undef)] (some 48) wf (fun P_11 => ?_)
      refine sS 12 [(3, pt b1), (43, .bool false)] (some 49) wf (fun P_12 => ?_)
      refine sS 13 [(43, .bool false), (49, undef)] (some 50) wf (fun P_13 => ?_)
      refine sS 14 [(43, .bool false), (48, undef), (50, undef)] (some 51) wf (fun P_14 => ?_)
      refine sT 15 [(43, .bool false), (51, undef)] (some 52) tok wf (fun P_15 => ?_)
      refine sT 16 [(52, .bool false)] (some 53) tok wf (fun P_16 => ?_)
      refine sim_gif 53 H rfl (fun hb H => ?_) (fun hb H => ?_)
      ·
       refine sT 17 [(9, Slc.v r9), (53, .bool true)] (some 54) tok wf (fun P_17 => ?_)
       refine sT 18 [(11, .int .i64 t11_1), (53, .bool true)] (some 55) tok wf (fun P_18 => ?_)
       obtain ⟨a59, ha59, la59, ua59, H⟩ := H
       refine sU 19 [(53, .bool true), (54, Slc.v r9), (55, .int .i64 t11_1)] (some 56) wf (fun _ => pf_y rfl rfl rfl (y_ixa' tok rfl rfl ha59 rfl rfl rfl la59 ua59)) (fun P_19 => ?_)
       refine sT 20 [(53, .bool true), (56, .pointer (some (a59.add (t11_1.toNat * 5))))] (some 57) tok wf (fun P_20 => ?_)
       obtain ⟨v60, hv60, H⟩ := H
       refine sV 21 [(53, .bool true), (57, .pointer (some ((a59.add (t11_1.toNat * 5)).add 1)))] (some 58) wf (pf_y rfl rfl rfl (y_ld tok rfl rfl rfl rfl hv60)) (fun P_21 => ?_)
       refine sT 22 [(2, .int .i64 p2), (53, .bool true)] (some 59) tok wf (fun P_22 => ?_)
       refine sT 23 [(53, .bool true), (58, .int .i64 v60), (59, .int .i64 p2)] (some 60) tok wf (fun P_23 => ?_)
       refine sT 24 [(53, .bool true), (60, .bool (decide (v60 ≥ p2)))] (some 61) tok wf (fun P_24 => ?_)
       refine sT 25 [(61, .bool (decide (v60 ≥ p2)))] (some 62) tok wf (fun P_25 => ?_)
       refine sim_gif 62 H rfl (fun hb H => ?_) (fun hb H => ?_)
       ·
        refine sT 26 [(9, Slc.v r9), (62, .bool true)] (some 63) tok wf (fun P_26 => ?_)
        refine sT 27 [(11, .int .i64 t11_1), (62, .bool true)] (some 64) tok wf (fun P_27 => ?_)
        obtain ⟨a61, ha61, la61, ua61, H⟩ := H
        refine sU 28 [(62, .bool true), (63, Slc.v r9), (64, .int .i64 t11_1)] (some 65) wf (fun _ => pf_y rfl rfl rfl (y_ixa' tok rfl rfl ha61 rfl rfl rfl la61 ua61)) (fun P_28 => ?_)
        refine sT 29 [(62, .bool true), (65, .pointer (some (a61.add (t11_1.toNat * 5))))] (some 66) tok wf (fun P_29 => ?_)
        obtain ⟨v62, hv62, H⟩ := H
        refine sV 30 [(62, .bool true), (66, .pointer (some ((a61.add (t11_1.toNat * 5)).add 1)))] (some 67) wf (pf_y rfl rfl rfl (y_ld tok rfl rfl rfl rfl hv62)) (fun P_30 => ?_)
        refine sT 31 [(3, pt b1), (62, .bool true)] (some 68) tok wf (fun P_31 => ?_)
        obtain ⟨v63, hv63, H⟩ := H
        refine sV 32 [(62, .bool true), (68, .pointer (some ((ad b1).add 2)))] (some 69) wf (pf_y rfl rfl rfl (y_ld tok rfl rfl rfl rfl hv63)) (fun P_32 => ?_)
        refine sT 33 [(62, .bool true), (67, .int .i64 v62), (69, .int .i64 v63)] (some 70) tok wf (fun P_33 => ?_)
        refine sT 34 [(62, .bool true), (70, .bool (decide (v62 ≤ v63)))] (some 71) tok wf (fun P_34 => ?_)
        refine sim_end wf ⟨P_34 _, P_33 _, P_32, P_31 _, P_30, P_29 _, P_28 _, P_27 _, P_26 _, P_25 _, P_24 _, P_23 _, P_22 _, P_21, P_20 _, P_19 _, P_18 _, P_17 _, P_16 _, P_15 _, P_14 _, P_13 _, P_12 _, P_11 _, P_10 _, P_9 _, P_8 _, P_7 _, P_6 _, P_5 _, P_4 _, P_3 _, P_2 _, P_1 _, P_0 _, trivial⟩ (by kernel_rfl) ?_
        clear wf P_0 P_1 P_10 P_11 P_12 P_13 P_14 P_15 P_16 P_17 P_18 P_19 P_2 P_20 P_21 P_22 P_23 P_24 P_25 P_26 P_27 P_28 P_29 P_3 P_30 P_31 P_32 P_33 P_34 P_4 P_5 P_6 P_7 P_8 P_9
        exact xJ (decide (v62 ≤ v63)) H
       ·
        refine sS 26 [(9, Slc.v r9), (62, .bool false)] (some 63) wf (fun P_26 => ?_)
        refine sS 27 [(11, .int .i64 t11_1), (62, .bool false)] (some 64) wf (fun P_27 => ?_)
        refine sS 28 [(62, .bool false), (63, undef), (64, undef)] (some 65) wf (fun P_28 => ?_)
        refine sS 29 [(62, .bool false), (65, undef)] (some 66) wf (fun P_29 => ?_)
        refine sS 30 [(62, .bool false), (66, undef)] (some 67) wf (fun P_30 => ?_)
        refine sS 31 [(3, pt b1), (62, .bool false)] (some 68) wf (fun P_31 => ?_)
        refine sS 32 [(62, .bool false), (68, undef)] (some 69) wf (fun P_32 => ?_)
        refine sS 33 [(62, .bool false), (67, undef), (69, undef)] (some 70) wf (fun P_33 => ?_)
        refine sT 34 [(62, .bool false), (70, undef)] (some 71) tok wf (fun P_34 => ?_)
        refine sim_end wf ⟨P_34 _, P_33 _, P_32 _, P_31 _, P_30 _, P_29 _, P_28 _, P_27 _, P_26 _, P_25 _, P_24 _, P_23 _, P_22 _, P_21, P_20 _, P_19 _, P_18 _, P_17 _, P_16 _, P_15 _, P_14 _, P_13 _, P_12 _, P_11 _, P_10 _, P_9 _, P_8 _, P_7 _, P_6 _, P_5 _, P_4 _, P_3 _, P_2 _, P_1 _, P_0 _, trivial⟩ (by kernel_rfl) ?_
        clear wf P_0 P_1 P_10 P_11 P_12 P_13 P_14 P_15 P_16 P_17 P_18 P_19 P_2 P_20 P_21 P_22 P_23 P_24 P_25 P_26 P_27 P_28 P_29 P_3 P_30 P_31 P_32 P_33 P_34 P_4 P_5 P_6 P_7 P_8 P_9
        exact xJ false H
      ·
       refine sS 17 [(9, Slc.v r9), (53, .bool false)] (some 54) wf (fun P_17 => ?_)
       refine sS 18 [(11, .int .i64 t11_1), (53, .bool false)] (some 55) wf (fun P_18 => ?_)
       refine sS 19 [(53, .bool false), (54, undef), (55, undef)] (some 56) wf (fun P_19 => ?_)
       refine sS 20 [(53, .bool false), (56, undef)] (some 57) wf (fun P_20 => ?_)
       refine sS 21 [(53, .bool false), (57, undef)] (some 58) wf (fun P_21 => ?_)
       refine sS 22 [(2, .int .i64 p2), (53, .bool false)] (some 59) wf (fun P_22 => ?_)
       refine sS 23 [(53, .bool false), (58, undef), (59, undef)] (some 60) wf (fun P_23 => ?_)
       refine sT 24 [(53, .bool false), (60, undef)] (some 61) tok wf (fun P_24 => ?_)
       refine sT 25 [(61, .bool false)] (some 62) tok wf (fun P_25 => ?_)
       refine sim_gif 62 H rfl (fun hb H => ?_) (fun hb H => ?_)
       ·
        refine sT 26 [(9, Slc.v r9), (62, .bool true)] (some 63) tok wf (fun P_26 => ?_)
        refine sT 27 [(11, .int .i64 t11_1), (62, .bool true)] (some 64) tok wf (fun P_27 => ?_)
        obtain ⟨a64, ha64, la64, ua64, H⟩ := H
        refine sU 28 [(62, .bool true), (63, Slc.v r9), (64, .int .i64 t11_1)] (some 65) wf (fun _ => pf_y rfl rfl rfl (y_ixa' tok rfl rfl ha64 rfl rfl rfl la64 ua64)) (fun P_28 => ?_)
        refine sT 29 [(62, .bool true), (65, .pointer (some (a64.add (t11_1.toNat * 5))))] (some 66) tok wf (fun P_29 => ?_)
        obtain ⟨v65, hv65, H⟩ := H
        refine sV 30 [(62, .bool true), (66, .pointer (some ((a64.add (t11_1.toNat * 5)).add 1)))] (some 67) wf (pf_y rfl rfl rfl (y_ld tok rfl rfl rfl rfl hv65)) (fun P_30 => ?_)
        refine sT 31 [(3, pt b1), (62, .bool true)] (some 68) tok wf (fun P_31 => ?_)
        obtain ⟨v66, hv66, H⟩ := H
        refine sV 32 [(62, .bool true), (68, .pointer (some ((ad b1).add 2)))] (some 69) wf (pf_y rfl rfl rfl (y_ld tok rfl rfl rfl rfl hv66)) (fun P_32 => ?_)
        refine sT 33 [(62, .bool true), (67, .int .i64 v65), (69, .int .i64 v66)] (some 70) tok wf (fun P_33 => ?_)
        refine sT 34 [(62, .bool true), (70, .bool (decide (v65 ≤ v66)))] (some 71) tok wf (fun P_34 => ?_)
        refine sim_end wf ⟨P_34 _, P_33 _, P_32, P_31 _, P_30, P_29 _, P_28 _, P_27 _, P_26 _, P_25 _, P_24 _, P_23 _, P_22 _, P_21 _, P_20 _, P_19 _, P_18 _, P_17 _, P_16 _, P_15 _, P_14 _, P_13 _, P_12 _, P_11 _, P_10 _, P_9 _, P_8 _, P_7 _, P_6 _, P_5 _, P_4 _, P_3 _, P_2 _, P_1 _, P_0 _, trivial⟩ (by kernel_rfl) ?_
        clear wf P_0 P_1 P_10 P_11 P_12 P_13 P_14 P_15 P_16 P_17 P_18 P_19 P_2 P_20 P_21 P_22 P_23 P_24 P_25 P_26 P_27 P_28 P_29 P_3 P_30 P_31 P_32 P_33 P_34 P_4 P_5 P_6 P_7 P_8 P_9
        exact xJ (decide (v65 ≤ v66)) H
       ·
        refine sS 26 [(9, Slc.v r9), (62, .bool false)] (some 63) wf (fun P_26 => ?_)
        refine sS 27 [(11, .int .i64 t11_1), (62, .bool false)] (some 64) wf (fun P_27 => ?_)
        refine sS 28 [(62, .bool false), (63, undef), (64, undef)] (some 65) wf (fun P_28 => ?_)
        refine sS 29 [(62, .bool false), (65, undef)] (some 66) wf (fun P_29 => ?_)
        refine sS 30 [(62, .bool false), (66, undef)] (some 67) wf (fun P_30 => ?_)
        refine sS 31 [(3, pt b1), (62, .bool false)] (some 68) wf (fun P_31 => ?_)
        refine sS 32 [(62, .bool false), (68, undef)] (some 69) wf (fun P_32 => ?_)
        refine sS 33 [(62, .bool false), (67, undef), (69, undef)] (some 70) wf (fun P_33 => ?_)
        refine sT 34 [(62, .bool false), (70, undef)] (some 71) tok wf (fun P_34 => ?_)
        refine sim_end wf ⟨P_34 _, P_33 _, P_32 _, P_31 _, P_30 _, P_29 _, P_28 _, P_27 _, P_26 _, P_25 _, P_24 _, P_23 _, P_22 _, P_21 _, P_20 _, P_19 _, P_18 _, P_17 _, P_16 _, P_15 _, P_14 _, P_13 _, P_12 _, P_11 _, P_10 _, P_9 _, P_8 _, P_7 _, P_6 _, P_5 _, P_4 _, P_3 _, P_2 _, P_1 _, P_0 _, trivial⟩ (by kernel_rfl) ?_
        clear wf P_0 P_1 P_10 P_11 P_12 P_13 P_14 P_15 P_16 P_17 P_18 P_19 P_2 P_20 P_21 P_22 P_23 P_24 P_25 P_26 P_27 P_28 P_29 P_3 P_30 P_31 P_32 P_33 P_34 P_4 P_5 P_6 P_7 P_8 P_9
        exact xJ false H
 ·
  refine c_exit ?_
  refine x_te (x_te ?_)
  refine x_bh ?_
  refine x_seq ?_
  refine cW [(10, Slc.v t10_1)] ?_
  refine c_seq (c_region ?_)
  iterate 2 refine wP tok ?_
  refine w_end (x_seq (c_ret ?_))
  exact x_ret _ rfl _ rfl ⟨t10_1, rfl, H⟩

theorem ref19_Run_ok : CallOk Go.Proofs.Tryz.prog 9 := ⟨_, Go.Proofs.Tryz.func9, by kernel_rfl, by kernel_rfl⟩
theorem ref19_Run_ref (p0 : S_api_Query) (p1 : Slc) (p2 : Int) (k : (Slc × Int) → Heap → Prop) (h : Heap) (H : ref19_Run p0 p1 p2 k h) : CallsH Go.Proofs.Tryz.prog 9 #[.agg (S_api_Query.cs p0).toArray, Slc.v p1, .int .i64 p2] h (fun v h' => ∃ r : Slc × Int, v = .tuple #[Slc.v r.1, .int .i64 r.2] ∧ k r h') := by
 refine f_enter (N := 294) Go.Proofs.Tryz.func9 rfl rfl rfl (fun w0 => ?_)
 unfold ref19_Run at H
 refine cW [(0, .agg (S_api_Query.cs p0).toArray), (1, Slc.v p1), (2, .int .i64 p2)] ?_
 refine c_seq (c_region ?_)
 obtain ⟨b1, h2, eb1, eh2, H⟩ := H
 refine w_h (h_box rfl rfl eb1 eh2) rfl rfl ?_
 iterate 2 refine wP tok ?_
 refine w_end (x_seq ?_)
 refine c_seq (c_seq (c_region ?_))
 obtain ⟨v3, hv3, H⟩ := H
 refine w_y (y_lda tok rfl rfl rfl rfl rfl hv3) rfl rfl ?_
 refine w_call ref19_Check_ok (ref19_Check_ref _ _ _ H) rfl rfl rfl rfl ?_
 rintro _ h5 ⟨r4, rfl, H⟩
 refine wP tok ?_
 refine w_end (x_seq ?_)
 refine c_seq (c_region ?_)
 iterate 2 refine wP tok ?_
 refine w_end (x_seq ?_)
 refine c_if H rfl (fun H => ?_) (fun H => ?_)
 ·
  refine c_seq (c_region ?_)
  iterate 3 refine wP tok ?_
  refine w_end (x_seq ?_)
  refine cW [(6, Slc.v (⟨none, 0, 0⟩ : Slc)), (7, .int .i64 r4)] ?_
  refine c_ret (x_tr ?_)
  exact x_ret _ rfl _ rfl ⟨((⟨none, 0, 0⟩ : Slc), r4), rfl, H⟩
 ·
  refine c_skip (x_seq ?_)
  refine cW [(1, Slc.v p1), (2, .int .i64 p2), (3, pt b1)] ?_
  refine c_seq (c_region ?_)
  obtain ⟨v6, hv6, H⟩ := H
  refine w_y (y_lda tok rfl rfl rfl rfl rfl hv6) rfl rfl ?_
  iterate 2 refine wP tok ?_
  refine w_call ref19_Ask_ok (ref19_Ask_ref _ _ _ _ _ H) rfl rfl rfl rfl ?_
  rintro _ h8 ⟨r7, rfl, H⟩
  refine wP tok ?_
  refine w_end (x_seq ?_)
  refine c_seq (c_region ?_)
  refine wP tok ?_
  refine w_end (x_seq ?_)
  refine c_seq (c_seq (c_region ?_))
  refine wP tok ?_
  refine w_end (x_seq (c_block ?_))
  obtain ⟨I1, μ1, H0, HI⟩ := H
  refine c_loop (σ := Slc × Int) (fun (s : Slc × Int) => [(10, Slc.v s.1), (11, .int .i64 s.2), (3, pt b1), (9, Slc.v r7)]) I1 μ1 ((⟨none, 0, 0⟩ : Slc), 0) H0 ⟨rfl, rfl, rfl, rfl, trivial⟩ ?_
  rintro ⟨t10_1, t11_1⟩ h_1 H
  replace H := HI t10_1 t11_1 h_1 H
  unfold ref19_Run_l1b at H
  refine cW [(10, Slc.v t10_1), (11, .int .i64 t11_1), (3, pt b1), (9, Slc.v r7)] ?_
  refine c_seq (c_seq (c_region ?_))
  iterate 4 refine wP tok ?_
  refine w_end (x_seq ?_)
  refine c_if H rfl (fun H => ?_) (fun H => ?_)
  ·
   refine c_skip (x_seq ?_)
   refine c_block (c_seq (c_region ?_))
   iterate 2 refine wP tok ?_
   refine w_end (x_seq ?_)
   refine c_seq (c_block ?_)
   obtain ⟨I2, μ2, H0, HI⟩ := H
   refine c_loop (σ := Int) (fun (s : Int) => [(12, .int .i64 s), (3, pt b1), (9, Slc.v r7), (10, Slc.v t10_1), (11, .int .i64 t11_1)]) I2 μ2 t11_1 H0 ⟨rfl, rfl, rfl, rfl, rfl, trivial⟩ ?_
   rintro t12_2 h_2 H
   replace H := HI t12_2 h_2 H
   unfold ref19_Run_l2b at H
   refine cW [(12, .int .i64 t12_2), (3, pt b1), (9, Slc.v r7), (10, Slc.v t10_1), (11, .int .i64 t11_1)] ?_
   refine c_seq (c_seq ?_)
   refine c_draw (by kernel_rfl) (by kernel_rfl) ?_
   iterate 5 refine q_p tok rfl rfl rfl ?_
   refine q_cut 12 (α := Bool) (fun (s : Bool) => [(59, .bool s), (3, pt b1), (9, Slc.v r7), (10, Slc.v t10_1), (11, .int .i64 t11_1), (12, .int .i64 t12_2)]) (fun (s : Bool) => ref19_Run_g3 (ad b1) r7 t10_1 t11_1 t12_2 s k (fun s h' => I1 s h' ∧ μ1 s h' < μ1 (t10_1, t11_1) h_1) (fun s h' => I2 s h' ∧ μ2 s h' < μ2 t12_2 h_2) h_2) ?_ ?_
   ·
    rintro t59_3 H
    unfold ref19_Run_g3 at H
    refine q_weak [(59, .bool t59_3), (3, pt b1), (9, Slc.v r7), (10, Slc.v t10_1), (11, .int .i64 t11_1), (12, .int .i64 t12_2)] ⟨rfl, rfl, rfl, rfl, rfl, rfl, trivial⟩ ?_
    refine q_end ?_
    refine x_seq ?_
    refine c_if H rfl (fun H => ?_) (fun H => ?_)
    ·
     refine c_skip (x_seq ?_)
     refine c_block (c_region ?_)
     iterate 2 refine wP tok ?_
     obtain ⟨x9, ex9, H⟩ := H
     refine w_pe tok rfl (congrArg (fun z => (.int .i64 z : Value)) ex9) rfl rfl ?_
     refine w_end ?_
     refine x_blk ?_
     exact xJ x9 H
    ·
     refine c_exit ?_
     refine x_te (x_te ?_)
     refine x_bh ?_
     refine x_seq (c_seq ?_)
     refine c_sim [(3, pt b1), (9, Slc.v r7), (10, Slc.v t10_1), (11, .int .i64 t11_1), (12, .int .i64 t12_2)] (by kernel_rfl) (by kernel_rfl) ⟨rfl, rfl, rfl, rfl, rfl, trivial⟩ (fun wf => ?_)
     refine sU 0 [] (some 62) wf (fun _ => pf_y rfl rfl rfl (y_build tok rfl rfl rfl rfl rfl)) (fun P_0 => ?_)
     refine sT 1 [(9, Slc.v r7)] (some 63) tok wf (fun P_1 => ?_)
     refine sT 2 [(11, .int .i64 t11_1)] (some 64) tok wf (fun P_2 => ?_)
     obtain ⟨a10, ha10, la10, ua10, H⟩ := H
     refine sU 3 [(63, Slc.v r7), (64, .int .i64 t11_1)] (some 65) wf (fun _ => pf_y rfl rfl rfl (y_ixa' tok rfl rfl ha10 rfl rfl rfl la10 ua10)) (fun P_3 => ?_)
     refine sT 4 [(65, .pointer (some (a10.add (t11_1.toNat * 5))))] (some 66) tok wf (fun P_4 => ?_)
     obtain ⟨v11, hv11, H⟩ := H
     refine sV 5 [(66, .pointer (some ((a10.add (t11_1.toNat * 5)).add 2)))] (some 67) wf (pf_y rfl rfl rfl (y_ld tok rfl rfl rfl rfl hv11)) (fun P_5 => ?_)
     refine sT 6 [(9, Slc.v r7)] (some 68) tok wf (fun P_6 => ?_)
     refine sT 7 [(11, .int .i64 t11_1)] (some 69) tok wf (fun P_7 => ?_)
     obtain ⟨a12, ha12, la12, ua12, H⟩ := H
     refine sU 8 [(68, Slc.v r7), (69, .int .i64 t11_1)] (some 70) wf (fun _ => pf_y rfl rfl rfl (y_ixa' tok rfl rfl ha12 rfl rfl rfl la12 ua12)) (fun P_8 => ?_)
     refine sT 9 [(70, .pointer (some (a12.add (t11_1.toNat * 5))))] (some 71) tok wf (fun P_9 => ?_)
     obtain ⟨v13, hv13, H⟩ := H
     refine sV 10 [(71, .pointer (some ((a12.add (t11_1.toNat * 5)).add 2)))] (some 72) wf (pf_y rfl rfl rfl (y_ld tok rfl rfl rfl rfl hv13)) (fun P_10 => ?_)
     obtain ⟨b14, h15, eb14, eh15, H⟩ := H
     refine sim_h 11 [] [] (ei := []) wf ⟨P_10, P_9 _, P_8 _, P_7 _, P_6 _, P_5, P_4 _, P_3 _, P_2 _, P_1 _, P_0 _, trivial⟩ (by kernel_rfl) trivial (by kernel_rfl) rfl rfl rfl (h_alloc tok rfl rfl eb14 eh15) ?_
     obtain ⟨hy16, hy17, H⟩ := H
     refine sim_re (x := ⟨10, .int .i64 v13, [(71, .pointer (some ((a12.add (t11_1.toNat * 5)).add 2)))]⟩) (pf_y rfl rfl rfl (y_ld tok rfl rfl rfl rfl hy16)) (fun P_10 => ?_)
     refine sim_re (x := ⟨5, .int .i64 v11, [(66, .pointer (some ((a10.add (t11_1.toNat * 5)).add 2)))]⟩) (pf_y rfl rfl rfl (y_ld tok rfl rfl rfl rfl hy17)) (fun P_5 => ?_)
     obtain ⟨h18, wh18, eh18, H⟩ := H
     refine sim_h 12 [0, 11] [0] (ei := [(13, pt b14), (62, .agg (S_api_Wide.cs (⟨0, 0⟩ : S_api_Wide)).toArray)]) wf ⟨P_10, P_9 _, P_8 _, P_7 _, P_6 _, P_5, P_4 _, P_3 _, P_2 _, P_1 _, P_0 _, trivial⟩ (by kernel_rfl) ⟨rfl, rfl, trivial⟩ (by kernel_rfl) rfl rfl rfl (h_sts tok rfl rfl rfl rfl rfl (oneC (by kernel_rfl)) wh18 eh18) ?_
     obtain ⟨hy19, hy20, H⟩ := H
     refine sim_re (x := ⟨10, .int .i64 v13, [(71, .pointer (some ((a12.add (t11_1.toNat * 5)).add 2)))]⟩) (pf_y rfl rfl rfl (y_ld tok rfl rfl rfl rfl hy19)) (fun P_10 => ?_)
     refine sim_re (x := ⟨5, .int .i64 v11, [(66, .pointer (some ((a10.add (t11_1.toNat * 5)).add 2)))]⟩) (pf_y rfl rfl rfl (y_ld tok rfl rfl rfl rfl hy20)) (fun P_5 => ?_)
     refine sT 13 [(67, .int .i64 v11)] (some 14) tok wf (fun P_13 => ?_)
     refine sT 14 [(72, .int .i64 v13)] (some 15) tok wf (fun P_14 => ?_)
     refine sim_end wf ⟨P_14 _, P_13 _, P_10, P_9 _, P_8 _, P_7 _, P_6 _, P_5, P_4 _, P_3 _, P_2 _, P_1 _, trivial, trivial⟩ (by kernel_rfl) ?_
     clear wf P_0 P_1 P_10 P_13 P_14 P_2 P_3 P_4 P_5 P_6 P_7 P_8 P_9
     refine x_seq ?_
     refine cW [(3, pt b1), (9, Slc.v r7), (10, Slc.v t10_1), (11, .int .i64 t11_1), (12, .int .i64 t12_2), (13, pt b14), (14, .int .i64 v11), (15, .int .i64 v13)] ?_
     refine c_seq (c_seq (c_region ?_))
     iterate 2 refine wP tok ?_
     refine w_end (x_seq (c_block ?_))
     obtain ⟨I4, μ4, H0, HI⟩ := H
     refine c_loop (σ := Int × Int × Int) (fun (s : Int × Int × Int) => [(14, .int .i64 s.1), (15, .int .i64 s.2.1), (16, .int .i64 s.2.2), (3, pt b1), (9, Slc.v r7), (10, Slc.v t10_1), (11, .int .i64 t11_1), (12, .int .i64 t12_2), (13, pt b14)]) I4 μ4 (v11, v13, t11_1) H0 ⟨rfl, rfl, rfl, rfl, rfl, rfl, rfl, rfl, rfl, trivial⟩ ?_
     rintro ⟨t14_4, t15_4, t16_4⟩ h_4 H
     replace H := HI t14_4 t15_4 t16_4 h_4 H
     unfold ref19_Run_l4b at H
     refine cW [(14, .int .i64 t14_4), (15, .int .i64 t15_4), (16, .int .i64 t16_4), (3, pt b1), (9, Slc.v r7), (10, Slc.v t10_1), (11, .int .i64 t11_1), (12, .int .i64 t12_2), (13, pt b14)] ?_
     refine c_seq (c_seq (c_region ?_))
     iterate 3 refine wP tok ?_
     refine w_end (x_seq ?_)
     refine c_if H rfl (fun H => ?_) (fun H => ?_)
     ·
      refine c_skip (x_seq ?_)
      refine c_seq (c_block (c_seq ?_))
      refine c_sim [(3, pt b1), (9, Slc.v r7), (10, Slc.v t10_1), (11, .int .i64 t11_1), (12, .int .i64 t12_2), (13, pt b14), (14, .int .i64 t14_4), (15, .int .i64 t15_4), (16, .int .i64 t16_4)] (by kernel_rfl) (by kernel_rfl) ⟨rfl, rfl, rfl, rfl, rfl, rfl, rfl, rfl, rfl, trivial⟩ (fun wf => ?_)
      obtain ⟨v21, hv21, H⟩ := H
      refine sV 0 [(13, pt b14)] (some 80) wf (pf_y rfl rfl rfl (y_lda tok rfl rfl rfl rfl rfl hv21)) (fun P_0 => ?_)
      refine sT 1 [(9, Slc.v r7)] (some 81) tok wf (fun P_1 => ?_)
      refine sT 2 [(16, .int .i64 t16_4)] (some 82) tok wf (fun P_2 => ?_)
      obtain ⟨a22, ha22, la22, ua22, H⟩ := H
      refine sU 3 [(81, Slc.v r7), (82, .int .i64 t16_4)] (some 83) wf (fun _ => pf_y rfl rfl rfl (y_ixa' tok rfl rfl ha22 rfl rfl rfl la22 ua22)) (fun P_3 => ?_)
      refine sT 4 [(83, .pointer (some (a22.add (t16_4.toNat * 5))))] (some 84) tok wf (fun P_4 => ?_)
      obtain ⟨v23, hv23, H⟩ := H
      refine sV 5 [(84, .pointer (some ((a22.add (t16_4.toNat * 5)).add 2)))] (some 85) wf (pf_y rfl rfl rfl (y_ld tok rfl rfl rfl rfl hv23)) (fun P_5 => ?_)
      refine sim_c 6 [1, 2, 3, 4, 5] [1, 2, 3, 4, 5] (ei := [(85, .int .i64 v23)]) ref19_wide_ok (ref19_wide_ref _ _ _ H) wf ⟨P_5, P_4 _, P_3 _, P_2 _, P_1 _, P_0, trivial⟩ (by kernel_rfl) ⟨rfl, trivial⟩ (by kernel_rfl) rfl rfl rfl rfl rfl ?_
      rintro _ h25 ⟨r24, rfl, H⟩
      obtain ⟨hy26, H⟩ := H
      refine sim_re (x := ⟨0, .agg (S_api_Wide.cs v21).toArray, [(13, pt b14)]⟩) (pf_y rfl rfl rfl (y_lda tok rfl rfl rfl rfl rfl hy26)) (fun P_0 => ?_)
      refine sim_c 7 [0, 1, 2, 3, 4, 5, 6] [0, 1, 2, 3, 4, 5] (ei := [(80, .agg (S_api_Wide.cs v21).toArray), (86, .agg (S_api_Wide.cs r24).toArray)]) ref01_Add_ok (ref01_Add_ref _ _ _ _ H) wf ⟨trivial, trivial, trivial, trivial, trivial, P_0, trivial⟩ (by kernel_rfl) ⟨rfl, rfl, trivial⟩ (by kernel_rfl) rfl rfl rfl rfl rfl ?_
      rintro _ h28 ⟨r27, rfl, H⟩
      refine sT 8 [(87, .tuple #[.agg (S_api_Wide.cs r27.1).toArray, .int .i64 r27.2])] (some 79) tok wf (fun P_8 => ?_)
      refine sT 9 [(79, .tuple #[.agg (S_api_Wide.cs r27.1).toArray, .int .i64 r27.2])] (some 88) tok wf (fun P_9 => ?_)
      refine sT 10 [(79, .tuple #[.agg (S_api_Wide.cs r27.1).toArray, .int .i64 r27.2])] (some 89) tok wf (fun P_10 => ?_)
      obtain ⟨h29, wh29, eh29, H⟩ := H
      refine sim_h 11 [0, 1, 2, 3, 4, 5, 6, 7, 8, 9] [0, 1, 2, 3, 4, 5, 8, 9] (ei := [(13, pt b14), (88, .agg (S_api_Wide.cs r27.1).toArray)]) wf ⟨P_10 _, P_9 _, P_8 _, trivial, trivial, trivial, trivial, trivial, trivial, trivial⟩ (by kernel_rfl) ⟨rfl, rfl, trivial⟩ (by kernel_rfl) rfl rfl rfl (h_sts tok rfl rfl rfl rfl rfl (oneC (by kernel_rfl)) wh29 eh29) ?_
      refine sim_end wf ⟨P_10 _, trivial, trivial, trivial, trivial, trivial, trivial, trivial, trivial, trivial⟩ (by kernel_rfl) ?_
      clear wf P_0 P_1 P_10 P_2 P_3 P_4 P_5 P_8 P_9
      refine x_seq ?_
      refine cW [(3, pt b1), (9, Slc.v r7), (10, Slc.v t10_1), (11, .int .i64 t11_1), (12, .int .i64 t12_2), (13, pt b14), (14, .int .i64 t14_4), (15, .int .i64 t15_4), (16, .int .i64 t16_4)] ?_
      refine c_seq (c_region ?_)
      iterate 3 refine wP tok ?_
      obtain ⟨a30, ha30, la30, ua30, H⟩ := H
      refine w_y (y_ixa' tok rfl rfl ha30 rfl rfl rfl la30 ua30) rfl rfl ?_
      refine wP tok ?_
      obtain ⟨v31, hv31, H⟩ := H
      refine w_y (y_ld tok rfl rfl rfl rfl hv31) rfl rfl ?_
      refine wP tok ?_
      obtain ⟨x32, ex32, H⟩ := H
      refine w_pe tok rfl (congrArg (fun z => (.int .i64 z : Value)) ex32) rfl rfl ?_
      refine w_end (x_seq ?_)
      refine cW [(3, pt b1), (9, Slc.v r7), (10, Slc.v t10_1), (11, .int .i64 t11_1), (12, .int .i64 t12_2), (13, pt b14), (14, .int .i64 x32), (15, .int .i64 t15_4), (16, .int .i64 t16_4)] ?_
      refine c_region ?_
      iterate 3 refine wP tok ?_
      obtain ⟨a33, ha33, la33, ua33, H⟩ := H
      refine w_y (y_ixa' tok rfl rfl ha33 rfl rfl rfl la33 ua33) rfl rfl ?_
      refine wP tok ?_
      obtain ⟨v34, hv34, H⟩ := H
      refine w_y (y_ld tok rfl rfl rfl rfl hv34) rfl rfl ?_
      refine wP tok ?_
      obtain ⟨x35, ex35, H⟩ := H
      refine w_pe tok rfl (congrArg (fun z => (.int .i64 z : Value)) ex35) rfl rfl ?_
      refine w_end ?_
      refine x_blk ?_
      refine x_seq ?_
      refine cW [(3, pt b1), (9, Slc.v r7), (10, Slc.v t10_1), (11, .int .i64 t11_1), (12, .int .i64 t12_2), (13, pt b14), (14, .int .i64 x32), (15, .int .i64 x35), (16, .int .i64 t16_4)] ?_
      refine c_region ?_
      iterate 2 refine wP tok ?_
      obtain ⟨x36, ex36, H⟩ := H
      refine w_pe tok rfl (congrArg (fun z => (.int .i64 z : Value)) ex36) rfl rfl ?_
      refine w_end ?_
      exact xJ (x32, x35, x36) H
     ·
      refine c_exit ?_
      refine x_te (x_te ?_)
      refine x_bh ?_
      refine x_seq (c_seq (c_region ?_))
      iterate 2 refine wP tok ?_
      obtain ⟨a37, ha37, la37, ua37, H⟩ := H
      refine w_y (y_ixa' tok rfl rfl ha37 rfl rfl rfl la37 ua37) rfl rfl ?_
      refine wP tok ?_
      obtain ⟨v38, hv38, H⟩ := H
      refine w_y (y_ld tok rfl rfl rfl rfl hv38) rfl rfl ?_
      refine w_y (y_build tok rfl rfl rfl rfl rfl) rfl rfl ?_
      obtain ⟨b39, h40, eb39, eh40, H⟩ := H
      refine w_h (h_alloc tok rfl rfl eb39 eh40) rfl rfl ?_
      obtain ⟨h41, wh41, eh41, H⟩ := H
      refine w_h (h_sts tok rfl rfl rfl rfl rfl (oneC (by kernel_rfl)) wh41 eh41) rfl rfl ?_
      refine w_end (x_seq ?_)
      refine cW [(14, .int .i64 t14_4), (15, .int .i64 t15_4), (3, pt b1), (9, Slc.v r7), (10, Slc.v t10_1), (11, .int .i64 t11_1), (12, .int .i64 t12_2), (13, pt b14), (17, pt b39)] ?_
      refine c_seqJ (α := Slc) (fun (s : Slc) => [(10, Slc.v s), (3, pt b1), (9, Slc.v r7), (11, .int .i64 t11_1), (12, .int .i64 t12_2), (17, pt b39)]) (fun (s : Slc) h => ref19_Run_j5 (ad b1) r7 t11_1 t12_2 (ad b39) s k (fun s h' => I1 s h' ∧ μ1 s h' < μ1 (t10_1, t11_1) h_1) (fun s h' => I2 s h' ∧ μ2 s h' < μ2 t12_2 h_2) (fun s h' => I4 s h' ∧ μ4 s h' < μ4 (t14_4, t15_4, t16_4) h_4) h) ?_ ?_
      ·
       rintro t10_5 h_5 H
       unfold ref19_Run_j5 at H
       refine cW [(10, Slc.v t10_5), (3, pt b1), (9, Slc.v r7), (11, .int .i64 t11_1), (12, .int .i64 t12_2), (17, pt b39)] ?_
       refine c_seqJ (α := Slc) (fun (s : Slc) => [(10, Slc.v s), (3, pt b1), (9, Slc.v r7), (12, .int .i64 t12_2)]) (fun (s : Slc) h => ref19_Run_j6 (ad b1) r7 t12_2 s k (fun s h' => I1 s h' ∧ μ1 s h' < μ1 (t10_1, t11_1) h_1) (fun s h' => I2 s h' ∧ μ2 s h' < μ2 t12_2 h_2) (fun s h' => I4 s h' ∧ μ4 s h' < μ4 (t14_4, t15_4, t16_4) h_4) h) ?_ ?_
       ·
        rintro t10_6 h_6 H
        unfold ref19_Run_j6 at H
        refine cW [(10, Slc.v t10_6), (3, pt b1), (9, Slc.v r7), (12, .int .i64 t12_2)] ?_
        refine c_region ?_
        iterate 2 refine wP tok ?_
        refine w_end ?_
        refine x_blk ?_
        exact xJ (t10_6, t12_2) H
       ·
        refine c_seq (c_region ?_)
        refine wP tok ?_
        obtain ⟨v42, hv42, H⟩ := H
        refine w_y (y_ld tok rfl rfl rfl rfl hv42) rfl rfl ?_
        iterate 2 refine wP tok ?_
        refine w_cut 4 (α := Bool) (fun (s : Bool) => [(276, .bool s), (3, pt b1), (9, Slc.v r7), (10, Slc.v t10_5), (11, .int .i64 t11_1), (12, .int .i64 t12_2), (17, pt b39)]) (fun (s : Bool) h => ref19_Run_g7 (ad b1) r7 t10_5 t11_1 t12_2 (ad b39) s k (fun s h' => I1 s h' ∧ μ1 s h' < μ1 (t10_1, t11_1) h_1) (fun s h' => I2 s h' ∧ μ2 s h' < μ2 t12_2 h_2) (fun s h' => I4 s h' ∧ μ4 s h' < μ4 (t14_4, t15_4, t16_4) h_4) h) ?_ ?_
        ·
         rintro t276_7 h_7 H
         unfold ref19_Run_g7 at H
         refine wW [(276, .bool t276_7), (3, pt b1), (9, Slc.v r7), (10, Slc.v t10_5), (11, .int .i64 t11_1), (12, .int .i64 t12_2), (17, pt b39)] ?_
         refine wP tok ?_
         refine w_cut 10 (α := Bool) (fun (s : Bool) => [(287, .bool s), (3, pt b1), (9, Slc.v r7), (10, Slc.v t10_5), (12, .int .i64 t12_2), (17, pt b39)]) (fun (s : Bool) h => ref19_Run_g8 (ad b1) r7 t10_5 t12_2 (ad b39) s k (fun s h' => I1 s h' ∧ μ1 s h' < μ1 (t10_1, t11_1) h_1) (fun s h' => I2 s h' ∧ μ2 s h' < μ2 t12_2 h_2) (fun s h' => I4 s h' ∧ μ4 s h' < μ4 (t14_4, t15_4, t16_4) h_4) h) ?_ ?_
         ·
          rintro t287_8 h_8 H
          unfold ref19_Run_g8 at H
          refine wW [(287, .bool t287_8), (3, pt b1), (9, Slc.v r7), (10, Slc.v t10_5), (12, .int .i64 t12_2), (17, pt b39)] ?_
          refine w_end (x_seq ?_)
          refine c_if H rfl (fun H => ?_) (fun H => ?_)
          ·
           refine c_region ?_
           refine wP tok ?_
           obtain ⟨v43, hv43, H⟩ := H
           refine w_y (y_lda tok rfl rfl rfl rfl rfl hv43) rfl rfl ?_
           obtain ⟨b44, h45, eb44, eh45, H⟩ := H
           refine w_h (h_bs tok rfl rfl rfl rfl rfl rfl rfl eb44 eh45) rfl rfl ?_
           refine w_a (a_app (s := t10_5) (r := (⟨some ⟨b44, 0, none⟩, 1, 1⟩ : Slc)) tok rfl rfl rfl rfl rfl (slcAt_push eb44 eh45) H) rfl rfl ?_
           rintro _ h47 ⟨s46, rfl, H⟩
           refine wP tok ?_
           refine w_end ?_
           exact xJ s46 H
          ·
           refine c_skip ?_
           exact xJ t10_5 H
         ·
          refine w_gif (d := 277) H rfl (fun H => ?_) (fun H => ?_)
          ·
           iterate 9 refine w_skip rfl rfl ?_
           refine wP tok ?_
           exact wJ true H
          ·
           refine wP tok ?_
           obtain ⟨v48, hv48, H⟩ := H
           refine w_y (y_ld tok rfl rfl rfl rfl hv48) rfl rfl ?_
           iterate 2 refine wP tok ?_
           refine w_cutU 5 [(286, .bool ((v48 == 5) && (decide ((IntKind.i64.wrap (t12_2 - t11_1)) > 1)))), (3, pt b1), (9, Slc.v r7), (10, Slc.v t10_5), (12, .int .i64 t12_2), (17, pt b39), (277, .bool false)] ?_ ?_
           ·
            refine wP tok ?_
            exact wJ ((v48 == 5) && (decide ((IntKind.i64.wrap (t12_2 - t11_1)) > 1))) H
           ·
            refine w_gs (d := 281) rfl (fun hb => ?_) (fun hb => ?_)
            ·
             iterate 5 refine wP tok ?_
             refine w_jn () rfl ⟨?_, rfl, rfl, rfl, rfl, rfl, rfl, trivial⟩
             exact congrArg (fun b => some (Value.bool b)) (and_t hb)
            ·
             iterate 4 refine w_skip rfl rfl ?_
             refine wP tok ?_
             refine w_jn () rfl ⟨?_, rfl, rfl, rfl, rfl, rfl, rfl, trivial⟩
             exact congrArg (fun b => some (Value.bool b)) (and_f hb)
        ·
         refine w_gif (d := 272) H rfl (fun H => ?_) (fun H => ?_)
         ·
          refine wP tok ?_
          obtain ⟨v49, hv49, H⟩ := H
          refine w_y (y_ld tok rfl rfl rfl rfl hv49) rfl rfl ?_
          iterate 2 refine wP tok ?_
          exact wJ (decide (v49 ≤ 4)) H
         ·
          iterate 3 refine w_skip rfl rfl ?_
          refine wP tok ?_
          exact wJ false H
      ·
       refine c_seq (c_region ?_)
       refine wP tok ?_
       obtain ⟨v50, hv50, H⟩ := H
       refine w_y (y_ld tok rfl rfl rfl rfl hv50) rfl rfl ?_
       refine w_end (x_seq ?_)
       refine c_block (c_seq (c_region ?_))
       iterate 2 refine wP tok ?_
       refine w_end (x_seq ?_)
       refine c_if H rfl (fun H => ?_) (fun H => ?_)
       ·
        refine c_seq (c_region ?_)
        iterate 2 refine wP tok ?_
        refine w_end (x_seq ?_)
        refine cW [(3, pt b1), (9, Slc.v r7), (10, Slc.v t10_1), (11, .int .i64 t11_1), (12, .int .i64 t12_2), (17, pt b39), (18, .int .i64 t11_1)] ?_
        refine c_block ?_
        obtain ⟨I9, μ9, H0, HI⟩ := H
        refine c_loop (σ := Slc × Int) (fun (s : Slc × Int) => [(10, Slc.v s.1), (18, .int .i64 s.2), (3, pt b1), (9, Slc.v r7), (11, .int .i64 t11_1), (12, .int .i64 t12_2), (17, pt b39)]) I9 μ9 (t10_1, t11_1) H0 ⟨rfl, rfl, rfl, rfl, rfl, rfl, rfl, trivial⟩ ?_
        rintro ⟨t10_9, t18_9⟩ h_9 H
        replace H := HI t10_9 t18_9 h_9 H
        unfold ref19_Run_l9b at H
        refine cW [(10, Slc.v t10_9), (18, .int .i64 t18_9), (3, pt b1), (9, Slc.v r7), (11, .int .i64 t11_1), (12, .int .i64 t12_2), (17, pt b39)] ?_
        refine c_seq (c_seq (c_region ?_))
        iterate 3 refine wP tok ?_
        refine w_end (x_seq ?_)
        refine c_if H rfl (fun H => ?_) (fun H => ?_)
        ·
         refine c_skip (x_seq ?_)
         refine c_seq (c_block ?_)
         refine c_sim [(3, pt b1), (9, Slc.v r7), (10, Slc.v t10_9), (11, .int .i64 t11_1), (12, .int .i64 t12_2), (17, pt b39), (18, .int .i64 t18_9)] (by kernel_rfl) (by kernel_rfl) ⟨rfl, rfl, rfl, rfl, rfl, rfl, rfl, trivial⟩ (fun wf => ?_)
         refine sT 0 [(10, Slc.v t10_9)] (some 120) tok wf (fun P_0 => ?_)
         refine sT 1 [(9, Slc.v r7)] (some 121) tok wf (fun P_1 => ?_)
         refine sT 2 [(18, .int .i64 t18_9)] (some 122) tok wf (fun P_2 => ?_)
         obtain ⟨a51, ha51, la51, ua51, H⟩ := H
         refine sU 3 [(121, Slc.v r7), (122, .int .i64 t18_9)] (some 123) wf (fun _ => pf_y rfl rfl rfl (y_ixa' tok rfl rfl ha51 rfl rfl rfl la51 ua51)) (fun P_3 => ?_)
         refine sT 4 [(123, .pointer (some (a51.add (t18_9.toNat * 5))))] (some 124) tok wf (fun P_4 => ?_)
         obtain ⟨v52, hv52, H⟩ := H
         refine sV 5 [(124, .pointer (some (a51.add (t18_9.toNat * 5))))] (some 125) wf (pf_y rfl rfl rfl (y_ld tok rfl rfl rfl rfl hv52)) (fun P_5 => ?_)
         refine sT 6 [(9, Slc.v r7)] (some 126) tok wf (fun P_6 => ?_)
         refine sT 7 [(18, .int .i64 t18_9)] (some 127) tok wf (fun P_7 => ?_)
         obtain ⟨a53, ha53, la53, ua53, H⟩ := H
         refine sU 8 [(126, Slc.v r7), (127, .int .i64 t18_9)] (some 128) wf (fun _ => pf_y rfl rfl rfl (y_ixa' tok rfl rfl ha53 rfl rfl rfl la53 ua53)) (fun P_8 => ?_)
         refine sT 9 [(128, .pointer (some (a53.add (t18_9.toNat * 5))))] (some 129) tok wf (fun P_9 => ?_)
         obtain ⟨v54, hv54, H⟩ := H
         refine sV 10 [(129, .pointer (some ((a53.add (t18_9.toNat * 5)).add 1)))] (some 130) wf (pf_y rfl rfl rfl (y_ld tok rfl rfl rfl rfl hv54)) (fun P_10 => ?_)
         refine sT 11 [(9, Slc.v r7)] (some 131) tok wf (fun P_11 => ?_)
         refine sT 12 [(18, .int .i64 t18_9)] (some 132) tok wf (fun P_12 => ?_)
         obtain ⟨a55, ha55, la55, ua55, H⟩ := H
         refine sU 13 [(131, Slc.v r7), (132, .int .i64 t18_9)] (some 133) wf (fun _ => pf_y rfl rfl rfl (y_ixa' tok rfl rfl ha55 rfl rfl rfl la55 ua55)) (fun P_13 => ?_)
         refine sT 14 [(133, .pointer (some (a55.add (t18_9.toNat * 5))))] (some 134) tok wf (fun P_14 => ?_)
         obtain ⟨v56, hv56, H⟩ := H
         refine sV 15 [(134, .pointer (some ((a55.add (t18_9.toNat * 5)).add 2)))] (some 135) wf (pf_y rfl rfl rfl (y_ld tok rfl rfl rfl rfl hv56)) (fun P_15 => ?_)
         refine sim_c 16 [11, 12, 13, 14, 15] [11, 12, 13, 14, 15] (ei := [(135, .int .i64 v56)]) ref19_wide_ok (ref19_wide_ref _ _ _ H) wf ⟨P_15, P_14 _, P_13 _, P_12 _, P_11 _, P_10, P_9 _, P_8 _, P_7 _, P_6 _, P_5, P_4 _, P_3 _, P_2 _, P_1 _, P_0 _, trivial⟩ (by kernel_rfl) ⟨rfl, trivial⟩ (by kernel_rfl) rfl rfl rfl rfl rfl ?_
         rintro _ h58 ⟨r57, rfl, H⟩
         obtain ⟨hy59, hy60, H⟩ := H
         refine sim_re (x := ⟨10, .int .i64 v54, [(129, .pointer (some ((a53.add (t18_9.toNat * 5)).add 1)))]⟩) (pf_y rfl rfl rfl (y_ld tok rfl rfl rfl rfl hy59)) (fun P_10 => ?_)
         refine sim_re (x := ⟨5, .string v52, [(124, .pointer (some (a51.add (t18_9.toNat * 5))))]⟩) (pf_y rfl rfl rfl (y_ld tok rfl rfl rfl rfl hy60)) (fun P_5 => ?_)
         refine sU 17 [(125, .string v52), (130, .int .i64 v54), (136, .agg (S_api_Wide.cs r57).toArray)] (some 137) wf (fun _ => pf_y rfl rfl rfl (y_build tok rfl rfl rfl rfl rfl)) (fun P_17 => ?_)
         obtain ⟨b61, h62, eb61, eh62, H⟩ := H
         refine sim_h 18 [1, 2, 3, 4, 5, 6, 7, 8, 9, 10, 11, 12, 13, 14, 15, 16, 17] [1, 2, 3, 4, 5, 6, 7, 8, 9, 10, 11, 12, 13, 14, 15, 17] (ei := [(137, .agg (S_api_Row.cs (⟨v52, v54, r57⟩ : S_api_Row)).toArray)]) wf ⟨P_17 _, trivial, trivial, trivial, trivial, trivial, P_10, P_9 _, P_8 _, P_7 _, P_6 _, P_5, P_4 _, P_3 _, P_2 _, P_1 _, P_0 _, trivial⟩ (by kernel_rfl) ⟨rfl, trivial⟩ (by kernel_rfl) rfl rfl rfl (h_bs tok rfl rfl rfl rfl rfl rfl rfl eb61 eh62) ?_
         refine sim_a 19 [0, 1, 2, 3, 4, 5, 6, 7, 8, 9, 10, 11, 12, 13, 14, 15, 16, 17, 18] [0, 1, 2, 3, 4, 5, 6, 7, 8, 9, 10, 11, 12, 13, 14, 15, 17] (ei := [(120, Slc.v t10_9), (138, Slc.v (⟨some ⟨b61, 0, none⟩, 1, 1⟩ : Slc))]) wf ⟨trivial, trivial, trivial, trivial, trivial, trivial, trivial, trivial, trivial, trivial, trivial, trivial, trivial, trivial, trivial, trivial, P_0 _, trivial⟩ (by kernel_rfl) ⟨rfl, rfl, trivial⟩ (by kernel_rfl) rfl rfl rfl (a_app (s := t10_9) (r := (⟨some ⟨b61, 0, none⟩, 1, 1⟩ : Slc)) tok rfl rfl rfl rfl rfl (slcAt_push eb61 eh62) H) ?_
         rintro _ h64 ⟨s63, rfl, H⟩
         refine sT 20 [(139, Slc.v s63)] (some 10) tok wf (fun P_20 => ?_)
         refine sim_end wf ⟨P_20 _, trivial, trivial, trivial, trivial, trivial, trivial, trivial, trivial, trivial, trivial, trivial, trivial, trivial, trivial, trivial, trivial, trivial, trivial⟩ (by kernel_rfl) ?_
         clear wf P_0 P_1 P_10 P_11 P_12 P_13 P_14 P_15 P_17 P_2 P_20 P_3 P_4 P_5 P_6 P_7 P_8 P_9
         refine x_blk ?_
         refine x_seq ?_
         refine cW [(3, pt b1), (9, Slc.v r7), (10, Slc.v s63), (11, .int .i64 t11_1), (12, .int .i64 t12_2), (17, pt b39), (18, .int .i64 t18_9)] ?_
         refine c_region ?_
         iterate 2 refine wP tok ?_
         obtain ⟨x65, ex65, H⟩ := H
         refine w_pe tok rfl (congrArg (fun z => (.int .i64 z : Value)) ex65) rfl rfl ?_
         refine w_end ?_
         exact xJ (s63, x65) H
        ·
         refine c_exit ?_
         refine x_te (x_te ?_)
         refine x_bh ?_
         refine x_blk ?_
         exact xJ t10_9 H
       ·
        refine c_seq (c_region ?_)
        iterate 2 refine wP tok ?_
        refine w_end (x_seq ?_)
        refine c_if H rfl (fun H => ?_) (fun H => ?_)
        ·
         refine c_region ?_
         iterate 3 refine wP tok ?_
         refine w_call ref19_wide_ok (ref19_wide_ref _ _ _ H) rfl rfl rfl rfl ?_
         rintro _ h67 ⟨r66, rfl, H⟩
         refine wP tok ?_
         obtain ⟨h68, wh68, eh68, H⟩ := H
         refine w_h (h_sts tok rfl rfl rfl rfl rfl (oneC (by kernel_rfl)) wh68 eh68) rfl rfl ?_
         refine w_end ?_
         refine x_blk ?_
         exact xJ t10_1 H
        ·
         refine c_seq (c_region ?_)
         iterate 2 refine wP tok ?_
         refine w_end (x_seq ?_)
         refine c_if H rfl (fun H => ?_) (fun H => ?_)
         ·
          refine c_region ?_
          obtain ⟨v69, hv69, H⟩ := H
          refine w_y (y_lda tok rfl rfl rfl rfl rfl hv69) rfl rfl ?_
          refine wP tok ?_
          obtain ⟨h70, wh70, eh70, H⟩ := H
          refine w_h (h_sts tok rfl rfl rfl rfl rfl (oneC (by kernel_rfl)) wh70 eh70) rfl rfl ?_
          refine w_end ?_
          refine x_blk ?_
          exact xJ t10_1 H
         ·
          refine c_seq (c_region ?_)
          iterate 2 refine wP tok ?_
          refine w_end (x_seq ?_)
          refine cW [(14, .int .i64 t14_4), (15, .int .i64 t15_4), (3, pt b1), (9, Slc.v r7), (10, Slc.v t10_1), (11, .int .i64 t11_1), (12, .int .i64 t12_2), (17, pt b39), (111, .int .i64 v50), (151, .bool (v50 == 3))] ?_
          refine c_if H rfl (fun H => ?_) (fun H => ?_)
          ·
           refine c_region ?_
           refine wP tok ?_
           refine w_call ref19_wide_ok (ref19_wide_ref _ _ _ H) rfl rfl rfl rfl ?_
           rintro _ h72 ⟨r71, rfl, H⟩
           refine wP tok ?_
           obtain ⟨h73, wh73, eh73, H⟩ := H
           refine w_h (h_sts tok rfl rfl rfl rfl rfl (oneC (by kernel_rfl)) wh73 eh73) rfl rfl ?_
           refine w_end ?_
           refine x_blk ?_
           exact xJ t10_1 H
          ·
           refine c_seq (c_region ?_)
           iterate 2 refine wP tok ?_
           refine w_end (x_seq ?_)
           refine c_if H rfl (fun H => ?_) (fun H => ?_)
           ·
            refine c_region ?_
            refine wP tok ?_
            refine w_call ref19_wide_ok (ref19_wide_ref _ _ _ H) rfl rfl rfl rfl ?_
            rintro _ h75 ⟨r74, rfl, H⟩
            refine wP tok ?_
            obtain ⟨h76, wh76, eh76, H⟩ := H
            refine w_h (h_sts tok rfl rfl rfl rfl rfl (oneC (by kernel_rfl)) wh76 eh76) rfl rfl ?_
            refine w_end ?_
            refine x_blk ?_
            exact xJ t10_1 H
           ·
            refine c_seq (c_region ?_)
            iterate 2 refine wP tok ?_
            refine w_end (x_seq ?_)
            refine c_if H rfl (fun H => ?_) (fun H => ?_)
            ·
             refine c_seqJ (α := Addr × Addr) (fun (s : Addr × Addr) => [(19, .pointer (some s.1)), (20, .pointer (some s.2)), (3, pt b1), (9, Slc.v r7), (10, Slc.v t10_1), (11, .int .i64 t11_1), (12, .int .i64 t12_2), (17, pt b39)]) (fun (s : Addr × Addr) h => ref19_Run_j10 (ad b1) r7 t10_1 t11_1 t12_2 (ad b39) s.1 s.2 k (fun s h' => I1 s h' ∧ μ1 s h' < μ1 (t10_1, t11_1) h_1) (fun s h' => I2 s h' ∧ μ2 s h' < μ2 t12_2 h_2) (fun s h' => I4 s h' ∧ μ4 s h' < μ4 (t14_4, t15_4, t16_4) h_4) h) ?_ ?_
             ·
              rintro ⟨t19_10, t20_10⟩ h_10 H
              unfold ref19_Run_j10 at H
              refine cW [(19, .pointer (some t19_10)), (20, .pointer (some t20_10)), (3, pt b1), (9, Slc.v r7), (10, Slc.v t10_1), (11, .int .i64 t11_1), (12, .int .i64 t12_2), (17, pt b39)] ?_
              refine c_seq (c_region ?_)
              iterate 4 refine wP tok ?_
              refine w_end (x_seq ?_)
              refine c_if H rfl (fun H => ?_) (fun H => ?_)
              ·
               refine c_seq (c_seq (c_region ?_))
               refine wP tok ?_
               obtain ⟨v77, hv77, H⟩ := H
               refine w_y (y_ld tok rfl rfl rfl rfl hv77) rfl rfl ?_
               refine wP tok ?_
               obtain ⟨v78, hv78, H⟩ := H
               refine w_y (y_ld tok rfl rfl rfl rfl hv78) rfl rfl ?_
               refine w_call ref19_apart_ok (ref19_apart_ref _ _ _ _ H) rfl rfl rfl rfl ?_
               rintro _ h80 ⟨r79, rfl, H⟩
               iterate 2 refine wP tok ?_
               refine w_cut 7 (α := Bool) (fun (s : Bool) => [(189, .bool s), (3, pt b1), (9, Slc.v r7), (10, Slc.v t10_1), (11, .int .i64 t11_1), (12, .int .i64 t12_2), (17, pt b39), (19, .pointer (some t19_10)), (20, .pointer (some t20_10))]) (fun (s : Bool) h => ref19_Run_g11 (ad b1) r7 t10_1 t11_1 t12_2 (ad b39) t19_10 t20_10 s k (fun s h' => I1 s h' ∧ μ1 s h' < μ1 (t10_1, t11_1) h_1) (fun s h' => I2 s h' ∧ μ2 s h' < μ2 t12_2 h_2) (fun s h' => I4 s h' ∧ μ4 s h' < μ4 (t14_4, t15_4, t16_4) h_4) h) ?_ ?_
               ·
                rintro t189_11 h_11 H
                unfold ref19_Run_g11 at H
                refine wW [(189, .bool t189_11), (3, pt b1), (9, Slc.v r7), (10, Slc.v t10_1), (11, .int .i64 t11_1), (12, .int .i64 t12_2), (17, pt b39), (19, .pointer (some t19_10)), (20, .pointer (some t20_10))] ?_
                refine w_end (x_seq ?_)
                refine c_if H rfl (fun H => ?_) (fun H => ?_)
                ·
                 refine c_seq (c_region ?_)
                 iterate 2 refine wP tok ?_
                 refine w_end (x_seq ?_)
                 refine cW [(6, Slc.v (⟨none, 0, 0⟩ : Slc)), (7, .int .i64 19)] ?_
                 refine c_ret (x_tr ?_)
                 refine x_br ?_
                 refine x_tr ?_
                 refine x_br ?_
                 refine x_tr ?_
                 refine x_br ?_
                 refine x_tr ?_
                 exact x_ret _ rfl _ rfl ⟨((⟨none, 0, 0⟩ : Slc), 19), rfl, H⟩
                ·
                 refine c_skip (x_seq ?_)
                 refine c_seq (c_region ?_)
                 refine wP tok ?_
                 obtain ⟨v81, hv81, H⟩ := H
                 refine w_y (y_ld tok rfl rfl rfl rfl hv81) rfl rfl ?_
                 refine wP tok ?_
                 obtain ⟨v82, hv82, H⟩ := H
                 refine w_y (y_ld tok rfl rfl rfl rfl hv82) rfl rfl ?_
                 iterate 2 refine wP tok ?_
                 obtain ⟨v83, hv83, H⟩ := H
                 refine w_y (y_ld tok rfl rfl rfl rfl hv83) rfl rfl ?_
                 refine wP tok ?_
                 obtain ⟨v84, hv84, H⟩ := H
                 refine w_y (y_ld tok rfl rfl rfl rfl hv84) rfl rfl ?_
                 refine wP tok ?_
                 refine w_call ref01_Floor_ok (ref01_Floor_ref _ _ _ _ H) rfl rfl rfl rfl ?_
                 rintro _ h86 ⟨r85, rfl, H⟩
                 iterate 5 refine wP tok ?_
                 refine w_end (x_seq ?_)
                 refine cW [(3, pt b1), (9, Slc.v r7), (10, Slc.v t10_1), (11, .int .i64 t11_1), (12, .int .i64 t12_2), (17, pt b39), (21, .int .i64 r85.1)] ?_
                 refine c_region ?_
                 refine wP tok ?_
                 refine w_call ref19_wide_ok (ref19_wide_ref _ _ _ H) rfl rfl rfl rfl ?_
                 rintro _ h88 ⟨r87, rfl, H⟩
                 refine wP tok ?_
                 obtain ⟨h89, wh89, eh89, H⟩ := H
                 refine w_h (h_sts tok rfl rfl rfl rfl rfl (oneC (by kernel_rfl)) wh89 eh89) rfl rfl ?_
                 refine w_end ?_
                 refine x_blk ?_
                 exact xJ t10_1 H
               ·
                refine w_gif (d := 182) H rfl (fun H => ?_) (fun H => ?_)
                ·
                 iterate 6 refine w_skip rfl rfl ?_
                 refine wP tok ?_
                 exact wJ true H
                ·
                 refine wP tok ?_
                 obtain ⟨v90, hv90, H⟩ := H
                 refine w_y (y_ld tok rfl rfl rfl rfl hv90) rfl rfl ?_
                 refine wP tok ?_
                 obtain ⟨v91, hv91, H⟩ := H
                 refine w_y (y_ld tok rfl rfl rfl rfl hv91) rfl rfl ?_
                 refine w_call ref19_apart_ok (ref19_apart_ref _ _ _ _ H) rfl rfl rfl rfl ?_
                 rintro _ h93 ⟨r92, rfl, H⟩
                 iterate 2 refine wP tok ?_
                 exact wJ (!r92) H
              ·
               refine c_skip ?_
               refine x_blk ?_
               exact xJ t10_1 H
             ·
              refine c_sim [(3, pt b1), (9, Slc.v r7), (10, Slc.v t10_1), (11, .int .i64 t11_1), (12, .int .i64 t12_2), (17, pt b39)] (by kernel_rfl) (by kernel_rfl) ⟨rfl, rfl, rfl, rfl, rfl, rfl, trivial⟩ (fun wf => ?_)
              refine sT 0 [(9, Slc.v r7)] (some 163) tok wf (fun P_0 => ?_)
              refine sT 1 [(11, .int .i64 t11_1)] (some 164) tok wf (fun P_1 => ?_)
              obtain ⟨a94, ha94, la94, ua94, H⟩ := H
              refine sU 2 [(163, Slc.v r7), (164, .int .i64 t11_1)] (some 165) wf (fun _ => pf_y rfl rfl rfl (y_ixa' tok rfl rfl ha94 rfl rfl rfl la94 ua94)) (fun P_2 => ?_)
              obtain ⟨v95, hv95, H⟩ := H
              refine sV 3 [(165, .pointer (some (a94.add (t11_1.toNat * 5))))] (some 166) wf (pf_y rfl rfl rfl (y_lda tok rfl rfl rfl rfl rfl hv95)) (fun P_3 => ?_)
              refine sT 4 [(9, Slc.v r7)] (some 167) tok wf (fun P_4 => ?_)
              refine sT 5 [(12, .int .i64 t12_2)] (some 168) tok wf (fun P_5 => ?_)
              refine sT 6 [(168, .int .i64 t12_2)] (some 169) tok wf (fun P_6 => ?_)
              obtain ⟨a96, ha96, la96, ua96, H⟩ := H
              refine sU 7 [(167, Slc.v r7), (169, .int .i64 (IntKind.i64.wrap (t12_2 - 1)))] (some 170) wf (fun _ => pf_y rfl rfl rfl (y_ixa' tok rfl rfl ha96 rfl rfl rfl la96 ua96)) (fun P_7 => ?_)
              obtain ⟨v97, hv97, H⟩ := H
              refine sV 8 [(170, .pointer (some (a96.add ((IntKind.i64.wrap (t12_2 - 1)).toNat * 5))))] (some 171) wf (pf_y rfl rfl rfl (y_lda tok rfl rfl rfl rfl rfl hv97)) (fun P_8 => ?_)
              refine sim_or 9 10 wf ⟨P_8, P_7 _, P_6 _, P_5 _, P_4 _, P_3, P_2 _, P_1 _, P_0 _, trivial⟩ (by kernel_rfl) (by kernel_rfl) H (fun H => ?_) (fun H => ?_)
              ·
               obtain ⟨b98, h99, eb98, eh99, H⟩ := H
               refine sim_hi 9 [] [] (ei := []) wf ⟨P_8, P_7 _, P_6 _, P_5 _, P_4 _, P_3, P_2 _, P_1 _, P_0 _, trivial⟩ (by kernel_rfl) trivial (by kernel_rfl) rfl rfl rfl (h_alloc tok rfl rfl eb98 eh99) ?_
               obtain ⟨hy100, hy101, H⟩ := H
               refine sim_re (x := ⟨8, .agg (S_api_Piece.cs v97).toArray, [(170, .pointer (some (a96.add ((IntKind.i64.wrap (t12_2 - 1)).toNat * 5))))]⟩) (pf_y rfl rfl rfl (y_lda tok rfl rfl rfl rfl rfl hy100)) (fun P_8 => ?_)
               refine sim_re (x := ⟨3, .agg (S_api_Piece.cs v95).toArray, [(165, .pointer (some (a94.add (t11_1.toNat * 5))))]⟩) (pf_y rfl rfl rfl (y_lda tok rfl rfl rfl rfl rfl hy101)) (fun P_3 => ?_)
               obtain ⟨b102, h103, eb102, eh103, H⟩ := H
               refine sim_h 10 [] [] (ei := []) wf ⟨P_8, P_7 _, P_6 _, P_5 _, P_4 _, P_3, P_2 _, P_1 _, P_0 _, trivial⟩ (by kernel_rfl) trivial (by kernel_rfl) rfl rfl rfl (h_alloc tok rfl rfl eb102 eh103) ?_
               obtain ⟨hy104, hy105, H⟩ := H
               refine sim_re (x := ⟨8, .agg (S_api_Piece.cs v97).toArray, [(170, .pointer (some (a96.add ((IntKind.i64.wrap (t12_2 - 1)).toNat * 5))))]⟩) (pf_y rfl rfl rfl (y_lda tok rfl rfl rfl rfl rfl hy104)) (fun P_8 => ?_)
               refine sim_re (x := ⟨3, .agg (S_api_Piece.cs v95).toArray, [(165, .pointer (some (a94.add (t11_1.toNat * 5))))]⟩) (pf_y rfl rfl rfl (y_lda tok rfl rfl rfl rfl rfl hy105)) (fun P_3 => ?_)
               obtain ⟨h106, wh106, eh106, H⟩ := H
               refine sim_h 11 [0, 1, 2, 3, 9, 10] [0, 1, 2, 3] (ei := [(19, pt b98), (166, .agg (S_api_Piece.cs v95).toArray)]) wf ⟨P_8, P_7 _, P_6 _, P_5 _, P_4 _, P_3, P_2 _, P_1 _, P_0 _, trivial⟩ (by kernel_rfl) ⟨rfl, rfl, trivial⟩ (by kernel_rfl) rfl rfl rfl (h_sts tok rfl rfl rfl rfl rfl (oneC (by kernel_rfl)) wh106 eh106) ?_
               obtain ⟨hy107, H⟩ := H
               refine sim_re (x := ⟨8, .agg (S_api_Piece.cs v97).toArray, [(170, .pointer (some (a96.add ((IntKind.i64.wrap (t12_2 - 1)).toNat * 5))))]⟩) (pf_y rfl rfl rfl (y_lda tok rfl rfl rfl rfl rfl hy107)) (fun P_8 => ?_)
               obtain ⟨h108, wh108, eh108, H⟩ := H
               refine sim_h 12 [0, 1, 2, 3, 4, 5, 6, 7, 8, 9, 10, 11] [0, 1, 2, 3, 4, 5, 6, 7, 8] (ei := [(20, pt b102), (171, .agg (S_api_Piece.cs v97).toArray)]) wf ⟨P_8, P_7 _, P_6 _, P_5 _, P_4 _, trivial, trivial, trivial, trivial, trivial⟩ (by kernel_rfl) ⟨rfl, rfl, trivial⟩ (by kernel_rfl) rfl rfl rfl (h_sts tok rfl rfl rfl rfl rfl (oneC (by kernel_rfl)) wh108 eh108) ?_
               refine sim_end wf ⟨trivial, trivial, trivial, trivial, trivial, trivial, trivial, trivial, trivial, trivial⟩ (by kernel_rfl) ?_
               clear wf P_0 P_1 P_2 P_3 P_4 P_5 P_6 P_7 P_8
               exact xJ ((ad b98), (ad b102)) H
              ·
               obtain ⟨b109, h110, eb109, eh110, H⟩ := H
               refine sim_hi 10 [] [] (ei := []) wf ⟨P_8, P_7 _, P_6 _, P_5 _, P_4 _, P_3, P_2 _, P_1 _, P_0 _, trivial⟩ (by kernel_rfl) trivial (by kernel_rfl) rfl rfl rfl (h_alloc tok rfl rfl eb109 eh110) ?_
               obtain ⟨hy111, hy112, H⟩ := H
               refine sim_re (x := ⟨8, .agg (S_api_Piece.cs v97).toArray, [(170, .pointer (some (a96.add ((IntKind.i64.wrap (t12_2 - 1)).toNat * 5))))]⟩) (pf_y rfl rfl rfl (y_lda tok rfl rfl rfl rfl rfl hy111)) (fun P_8 => ?_)
               refine sim_re (x := ⟨3, .agg (S_api_Piece.cs v95).toArray, [(165, .pointer (some (a94.add (t11_1.toNat * 5))))]⟩) (pf_y rfl rfl rfl (y_lda tok rfl rfl rfl rfl rfl hy112)) (fun P_3 => ?_)
               obtain ⟨b113, h114, eb113, eh114, H⟩ := H
               refine sim_h 9 [] [] (ei := []) wf ⟨P_8, P_7 _, P_6 _, P_5 _, P_4 _, P_3, P_2 _, P_1 _, P_0 _, trivial⟩ (by kernel_rfl) trivial (by kernel_rfl) rfl rfl rfl (h_alloc tok rfl rfl eb113 eh114) ?_
               obtain ⟨hy115, hy116, H⟩ := H
               refine sim_re (x := ⟨8, .agg (S_api_Piece.cs v97).toArray, [(170, .pointer (some (a96.add ((IntKind.i64.wrap (t12_2 - 1)).toNat * 5))))]⟩) (pf_y rfl rfl rfl (y_lda tok rfl rfl rfl rfl rfl hy115)) (fun P_8 => ?_)
               refine sim_re (x := ⟨3, .agg (S_api_Piece.cs v95).toArray, [(165, .pointer (some (a94.add (t11_1.toNat * 5))))]⟩) (pf_y rfl rfl rfl (y_lda tok rfl rfl rfl rfl rfl hy116)) (fun P_3 => ?_)
               obtain ⟨h117, wh117, eh117, H⟩ := H
               refine sim_h 11 [0, 1, 2, 3, 9, 10] [0, 1, 2, 3] (ei := [(19, pt b113), (166, .agg (S_api_Piece.cs v95).toArray)]) wf ⟨P_8, P_7 _, P_6 _, P_5 _, P_4 _, P_3, P_2 _, P_1 _, P_0 _, trivial⟩ (by kernel_rfl) ⟨rfl, rfl, trivial⟩ (by kernel_rfl) rfl rfl rfl (h_sts tok rfl rfl rfl rfl rfl (oneC (by kernel_rfl)) wh117 eh117) ?_
               obtain ⟨hy118, H⟩ := H
               refine sim_re (x := ⟨8, .agg (S_api_Piece.cs v97).toArray, [(170, .pointer (some (a96.add ((IntKind.i64.wrap (t12_2 - 1)).toNat * 5))))]⟩) (pf_y rfl rfl rfl (y_lda tok rfl rfl rfl rfl rfl hy118)) (fun P_8 => ?_)
               obtain ⟨h119, wh119, eh119, H⟩ := H
               refine sim_h 12 [0, 1, 2, 3, 4, 5, 6, 7, 8, 9, 10, 11] [0, 1, 2, 3, 4, 5, 6, 7, 8] (ei := [(20, pt b109), (171, .agg (S_api_Piece.cs v97).toArray)]) wf ⟨P_8, P_7 _, P_6 _, P_5 _, P_4 _, trivial, trivial, trivial, trivial, trivial⟩ (by kernel_rfl) ⟨rfl, rfl, trivial⟩ (by kernel_rfl) rfl rfl rfl (h_sts tok rfl rfl rfl rfl rfl (oneC (by kernel_rfl)) wh119 eh119) ?_
               refine sim_end wf ⟨trivial, trivial, trivial, trivial, trivial, trivial, trivial, trivial, trivial, trivial⟩ (by kernel_rfl) ?_
               clear wf P_0 P_1 P_2 P_3 P_4 P_5 P_6 P_7 P_8
               exact xJ ((ad b113), (ad b109)) H
            ·
             refine c_seq (c_region ?_)
             iterate 2 refine wP tok ?_
             refine w_end (x_seq ?_)
             refine cW [(3, pt b1), (9, Slc.v r7), (10, Slc.v t10_1), (11, .int .i64 t11_1), (12, .int .i64 t12_2), (17, pt b39), (207, .bool (v50 == 6))] ?_
             refine c_if H rfl (fun H => ?_) (fun H => ?_)
             ·
              refine c_seq (c_region ?_)
              iterate 2 refine wP tok ?_
              refine w_end (x_seq (c_block ?_))
              obtain ⟨I12, μ12, H0, HI⟩ := H
              refine c_loop (σ := Slc × Int) (fun (s : Slc × Int) => [(10, Slc.v s.1), (23, .int .i64 s.2), (3, pt b1), (9, Slc.v r7), (11, .int .i64 t11_1), (12, .int .i64 t12_2), (17, pt b39)]) I12 μ12 (t10_1, t11_1) H0 ⟨rfl, rfl, rfl, rfl, rfl, rfl, rfl, trivial⟩ ?_
              rintro ⟨t10_12, t23_12⟩ h_12 H
              replace H := HI t10_12 t23_12 h_12 H
              unfold ref19_Run_l12b at H
              refine cW [(10, Slc.v t10_12), (23, .int .i64 t23_12), (3, pt b1), (9, Slc.v r7), (11, .int .i64 t11_1), (12, .int .i64 t12_2), (17, pt b39)] ?_
              refine c_seq (c_seq (c_region ?_))
              iterate 3 refine wP tok ?_
              refine w_end (x_seq ?_)
              refine c_if H rfl (fun H => ?_) (fun H => ?_)
              ·
               refine c_skip (x_seq ?_)
               refine c_block (c_seq ?_)
               refine c_sim [(3, pt b1), (9, Slc.v r7), (10, Slc.v t10_12), (11, .int .i64 t11_1), (12, .int .i64 t12_2), (17, pt b39), (23, .int .i64 t23_12)] (by kernel_rfl) (by kernel_rfl) ⟨rfl, rfl, rfl, rfl, rfl, rfl, rfl, trivial⟩ (fun wf => ?_)
               refine sT 0 [(9, Slc.v r7)] (some 214) tok wf (fun P_0 => ?_)
               refine sT 1 [(23, .int .i64 t23_12)] (some 215) tok wf (fun P_1 => ?_)
               obtain ⟨a120, ha120, la120, ua120, H⟩ := H
               refine sU 2 [(214, Slc.v r7), (215, .int .i64 t23_12)] (some 216) wf (fun _ => pf_y rfl rfl rfl (y_ixa' tok rfl rfl ha120 rfl rfl rfl la120 ua120)) (fun P_2 => ?_)
               refine sT 3 [(216, .pointer (some (a120.add (t23_12.toNat * 5))))] (some 217) tok wf (fun P_3 => ?_)
               obtain ⟨v121, hv121, H⟩ := H
               refine sV 4 [(217, .pointer (some ((a120.add (t23_12.toNat * 5)).add 1)))] (some 218) wf (pf_y rfl rfl rfl (y_ld tok rfl rfl rfl rfl hv121)) (fun P_4 => ?_)
               refine sT 5 [(3, pt b1)] (some 219) tok wf (fun P_5 => ?_)
               obtain ⟨v122, hv122, H⟩ := H
               refine sV 6 [(219, .pointer (some ((ad b1).add 4)))] (some 220) wf (pf_y rfl rfl rfl (y_ld tok rfl rfl rfl rfl hv122)) (fun P_6 => ?_)
               refine sim_c 7 [0, 1, 2, 3, 4, 5, 6] [0, 1, 2, 3, 4, 5, 6] (ei := [(218, .int .i64 v121), (220, .int .i64 v122)]) ref01_Floor_ok (ref01_Floor_ref _ _ _ _ H) wf ⟨P_6, P_5 _, P_4, P_3 _, P_2 _, P_1 _, P_0 _, trivial⟩ (by kernel_rfl) ⟨rfl, rfl, trivial⟩ (by kernel_rfl) rfl rfl rfl rfl rfl ?_
               rintro _ h124 ⟨r123, rfl, H⟩
               refine sT 8 [(221, .tuple #[.int .i64 r123.1, .int .i64 r123.2])] (some 213) tok wf (fun P_8 => ?_)
               refine sT 9 [(213, .tuple #[.int .i64 r123.1, .int .i64 r123.2])] (some 222) tok wf (fun P_9 => ?_)
               refine sT 10 [(213, .tuple #[.int .i64 r123.1, .int .i64 r123.2])] (some 223) tok wf (fun P_10 => ?_)
               refine sT 11 [(222, .int .i64 r123.1)] (some 24) tok wf (fun P_11 => ?_)
               refine sT 12 [(223, .int .i64 r123.2)] (some 25) tok wf (fun P_12 => ?_)
               refine sim_end wf ⟨P_12 _, P_11 _, P_10 _, P_9 _, P_8 _, trivial, trivial, trivial, trivial, trivial, trivial, trivial, trivial⟩ (by kernel_rfl) ?_
               clear wf P_0 P_1 P_10 P_11 P_12 P_2 P_3 P_4 P_5 P_6 P_8 P_9
               refine x_seq ?_
               refine cW [(3, pt b1), (9, Slc.v r7), (10, Slc.v t10_12), (11, .int .i64 t11_1), (12, .int .i64 t12_2), (17, pt b39), (23, .int .i64 t23_12), (24, .int .i64 r123.1)] ?_
               refine c_seq (c_region ?_)
               refine w_y (y_build tok rfl rfl rfl rfl rfl) rfl rfl ?_
               obtain ⟨b125, h126, eb125, eh126, H⟩ := H
               refine w_h (h_alloc tok rfl rfl eb125 eh126) rfl rfl ?_
               obtain ⟨h127, wh127, eh127, H⟩ := H
               refine w_h (h_sts tok rfl rfl rfl rfl rfl (oneC (by kernel_rfl)) wh127 eh127) rfl rfl ?_
               refine w_end (x_seq ?_)
               refine c_seqJ (α := Int) (fun (s : Int) => [(23, .int .i64 s), (3, pt b1), (9, Slc.v r7), (10, Slc.v t10_12), (11, .int .i64 t11_1), (12, .int .i64 t12_2), (17, pt b39), (24, .int .i64 r123.1), (26, pt b125)]) (fun (s : Int) h => ref19_Run_j13 (ad b1) r7 t10_12 t11_1 t12_2 (ad b39) r123.1 (ad b125) s k (fun s h' => I1 s h' ∧ μ1 s h' < μ1 (t10_1, t11_1) h_1) (fun s h' => I2 s h' ∧ μ2 s h' < μ2 t12_2 h_2) (fun s h' => I4 s h' ∧ μ4 s h' < μ4 (t14_4, t15_4, t16_4) h_4) (fun s h' => I12 s h' ∧ μ12 s h' < μ12 (t10_12, t23_12) h_12) h) ?_ ?_
               ·
                rintro t23_13 h_13 H
                unfold ref19_Run_j13 at H
                refine cW [(23, .int .i64 t23_13), (3, pt b1), (9, Slc.v r7), (10, Slc.v t10_12), (11, .int .i64 t11_1), (12, .int .i64 t12_2), (17, pt b39), (24, .int .i64 r123.1), (26, pt b125)] ?_
                refine c_sim [(3, pt b1), (9, Slc.v r7), (10, Slc.v t10_12), (11, .int .i64 t11_1), (12, .int .i64 t12_2), (17, pt b39), (23, .int .i64 t23_13), (24, .int .i64 r123.1), (26, pt b125)] (by kernel_rfl) (by kernel_rfl) ⟨rfl, rfl, rfl, rfl, rfl, rfl, rfl, rfl, rfl, trivial⟩ (fun wf => ?_)
                refine sT 0 [(10, Slc.v t10_12)] (some 255) tok wf (fun P_0 => ?_)
                refine sT 1 [(9, Slc.v r7)] (some 256) tok wf (fun P_1 => ?_)
                refine sT 2 [(11, .int .i64 t11_1)] (some 257) tok wf (fun P_2 => ?_)
                obtain ⟨a128, ha128, la128, ua128, H⟩ := H
                refine sU 3 [(256, Slc.v r7), (257, .int .i64 t11_1)] (some 258) wf (fun _ => pf_y rfl rfl rfl (y_ixa' tok rfl rfl ha128 rfl rfl rfl la128 ua128)) (fun P_3 => ?_)
                refine sT 4 [(258, .pointer (some (a128.add (t11_1.toNat * 5))))] (some 259) tok wf (fun P_4 => ?_)
                obtain ⟨v129, hv129, H⟩ := H
                refine sV 5 [(259, .pointer (some (a128.add (t11_1.toNat * 5))))] (some 260) wf (pf_y rfl rfl rfl (y_ld tok rfl rfl rfl rfl hv129)) (fun P_5 => ?_)
                refine sT 6 [(24, .int .i64 r123.1)] (some 261) tok wf (fun P_6 => ?_)
                refine sT 7 [(3, pt b1)] (some 262) tok wf (fun P_7 => ?_)
                obtain ⟨v130, hv130, H⟩ := H
                refine sV 8 [(262, .pointer (some ((ad b1).add 4)))] (some 263) wf (pf_y rfl rfl rfl (y_ld tok rfl rfl rfl rfl hv130)) (fun P_8 => ?_)
                refine sT 9 [(261, .int .i64 r123.1), (263, .int .i64 v130)] (some 264) tok wf (fun P_9 => ?_)
                obtain ⟨v131, hv131, H⟩ := H
                refine sV 10 [(26, pt b125)] (some 265) wf (pf_y rfl rfl rfl (y_lda tok rfl rfl rfl rfl rfl hv131)) (fun P_10 => ?_)
                refine sU 11 [(260, .string v129), (264, .int .i64 (IntKind.i64.wrap (r123.1 * v130))), (265, .agg (S_api_Wide.cs v131).toArray)] (some 266) wf (fun _ => pf_y rfl rfl rfl (y_build tok rfl rfl rfl rfl rfl)) (fun P_11 => ?_)
                obtain ⟨b132, h133, eb132, eh133, H⟩ := H
                refine sim_h 12 [1, 2, 3, 4, 5, 6, 7, 8, 9, 10, 11] [1, 2, 3, 4, 5, 6, 7, 8, 9, 10, 11] (ei := [(266, .agg (S_api_Row.cs (⟨v129, (IntKind.i64.wrap (r123.1 * v130)), v131⟩ : S_api_Row)).toArray)]) wf ⟨P_11 _, P_10, P_9 _, P_8, P_7 _, P_6 _, P_5, P_4 _, P_3 _, P_2 _, P_1 _, P_0 _, trivial⟩ (by kernel_rfl) ⟨rfl, trivial⟩ (by kernel_rfl) rfl rfl rfl (h_bs tok rfl rfl rfl rfl rfl rfl rfl eb132 eh133) ?_
                refine sim_a 13 [0, 1, 2, 3, 4, 5, 6, 7, 8, 9, 10, 11, 12] [0, 1, 2, 3, 4, 5, 6, 7, 8, 9, 10, 11] (ei := [(255, Slc.v t10_12), (267, Slc.v (⟨some ⟨b132, 0, none⟩, 1, 1⟩ : Slc))]) wf ⟨trivial, trivial, trivial, trivial, trivial, trivial, trivial, trivial, trivial, trivial, trivial, P_0 _, trivial⟩ (by kernel_rfl) ⟨rfl, rfl, trivial⟩ (by kernel_rfl) rfl rfl rfl (a_app (s := t10_12) (r := (⟨some ⟨b132, 0, none⟩, 1, 1⟩ : Slc)) tok rfl rfl rfl rfl rfl (slcAt_push eb132 eh133) H) ?_
                rintro _ h135 ⟨s134, rfl, H⟩
                refine sT 14 [(268, Slc.v s134)] (some 10) tok wf (fun P_14 => ?_)
                refine sim_end wf ⟨P_14 _, trivial, trivial, trivial, trivial, trivial, trivial, trivial, trivial, trivial, trivial, trivial, trivial, trivial⟩ (by kernel_rfl) ?_
                clear wf P_0 P_1 P_10 P_11 P_14 P_2 P_3 P_4 P_5 P_6 P_7 P_8 P_9
                refine x_blk ?_
                exact xJ (s134, t23_13) H
               ·
                refine c_block ?_
                obtain ⟨I14, μ14, H0, HI⟩ := H
                refine c_loop (σ := Int) (fun (s : Int) => [(23, .int .i64 s), (3, pt b1), (9, Slc.v r7), (10, Slc.v t10_12), (11, .int .i64 t11_1), (12, .int .i64 t12_2), (17, pt b39), (24, .int .i64 r123.1), (26, pt b125)]) I14 μ14 t23_12 H0 ⟨rfl, rfl, rfl, rfl, rfl, rfl, rfl, rfl, rfl, trivial⟩ ?_
                rintro t23_14 h_14 H
                replace H := HI t23_14 h_14 H
                unfold ref19_Run_l14b at H
                refine cW [(23, .int .i64 t23_14), (3, pt b1), (9, Slc.v r7), (10, Slc.v t10_12), (11, .int .i64 t11_1), (12, .int .i64 t12_2), (17, pt b39), (24, .int .i64 r123.1), (26, pt b125)] ?_
                refine c_seq (c_seq (c_region ?_))
                iterate 3 refine wP tok ?_
                refine w_end (x_seq ?_)
                refine c_if H rfl (fun H => ?_) (fun H => ?_)
                ·
                 refine c_skip (x_seq ?_)
                 refine c_block (c_seq ?_)
                 refine c_sim [(3, pt b1), (9, Slc.v r7), (10, Slc.v t10_12), (11, .int .i64 t11_1), (12, .int .i64 t12_2), (17, pt b39), (23, .int .i64 t23_14), (24, .int .i64 r123.1), (26, pt b125)] (by kernel_rfl) (by kernel_rfl) ⟨rfl, rfl, rfl, rfl, rfl, rfl, rfl, rfl, rfl, trivial⟩ (fun wf => ?_)
                 refine sT 0 [(9, Slc.v r7)] (some 229) tok wf (fun P_0 => ?_)
                 refine sT 1 [(23, .int .i64 t23_14)] (some 230) tok wf (fun P_1 => ?_)
                 obtain ⟨a136, ha136, la136, ua136, H⟩ := H
                 refine sU 2 [(229, Slc.v r7), (230, .int .i64 t23_14)] (some 231) wf (fun _ => pf_y rfl rfl rfl (y_ixa' tok rfl rfl ha136 rfl rfl rfl la136 ua136)) (fun P_2 => ?_)
                 refine sT 3 [(231, .pointer (some (a136.add (t23_14.toNat * 5))))] (some 232) tok wf (fun P_3 => ?_)
                 obtain ⟨v137, hv137, H⟩ := H
                 refine sV 4 [(232, .pointer (some ((a136.add (t23_14.toNat * 5)).add 1)))] (some 233) wf (pf_y rfl rfl rfl (y_ld tok rfl rfl rfl rfl hv137)) (fun P_4 => ?_)
                 refine sT 5 [(3, pt b1)] (some 234) tok wf (fun P_5 => ?_)
                 obtain ⟨v138, hv138, H⟩ := H
                 refine sV 6 [(234, .pointer (some ((ad b1).add 4)))] (some 235) wf (pf_y rfl rfl rfl (y_ld tok rfl rfl rfl rfl hv138)) (fun P_6 => ?_)
                 refine sim_c 7 [0, 1, 2, 3, 4, 5, 6] [0, 1, 2, 3, 4, 5, 6] (ei := [(233, .int .i64 v137), (235, .int .i64 v138)]) ref01_Floor_ok (ref01_Floor_ref _ _ _ _ H) wf ⟨P_6, P_5 _, P_4, P_3 _, P_2 _, P_1 _, P_0 _, trivial⟩ (by kernel_rfl) ⟨rfl, rfl, trivial⟩ (by kernel_rfl) rfl rfl rfl rfl rfl ?_
                 rintro _ h140 ⟨r139, rfl, H⟩
                 refine sT 8 [(236, .tuple #[.int .i64 r139.1, .int .i64 r139.2])] (some 228) tok wf (fun P_8 => ?_)
                 refine sT 9 [(228, .tuple #[.int .i64 r139.1, .int .i64 r139.2])] (some 237) tok wf (fun P_9 => ?_)
                 refine sT 10 [(228, .tuple #[.int .i64 r139.1, .int .i64 r139.2])] (some 238) tok wf (fun P_10 => ?_)
                 refine sT 11 [(237, .int .i64 r139.1)] (some 27) tok wf (fun P_11 => ?_)
                 refine sT 12 [(238, .int .i64 r139.2)] (some 28) tok wf (fun P_12 => ?_)
                 refine sim_end wf ⟨P_12 _, P_11 _, P_10 _, P_9 _, P_8 _, trivial, trivial, trivial, trivial, trivial, trivial, trivial, trivial⟩ (by kernel_rfl) ?_
                 clear wf P_0 P_1 P_10 P_11 P_12 P_2 P_3 P_4 P_5 P_6 P_8 P_9
                 refine x_seq ?_
                 refine cW [(3, pt b1), (9, Slc.v r7), (10, Slc.v t10_12), (11, .int .i64 t11_1), (12, .int .i64 t12_2), (17, pt b39), (23, .int .i64 t23_14), (24, .int .i64 r123.1), (26, pt b125), (27, .int .i64 r139.1)] ?_
                 refine c_seq (c_seq (c_region ?_))
                 iterate 3 refine wP tok ?_
                 refine w_end (x_seq ?_)
                 refine c_if H rfl (fun H => ?_) (fun H => ?_)
                 ·
                  refine c_exit ?_
                  refine x_te ?_
                  refine x_bm rfl ?_
                  refine x_te ?_
                  refine x_bh ?_
                  exact xJ t23_14 H
                 ·
                  refine c_skip (x_seq (c_seq ?_))
                  refine c_sim [(3, pt b1), (9, Slc.v r7), (10, Slc.v t10_12), (11, .int .i64 t11_1), (12, .int .i64 t12_2), (17, pt b39), (23, .int .i64 t23_14), (24, .int .i64 r123.1), (26, pt b125)] (by kernel_rfl) (by kernel_rfl) ⟨rfl, rfl, rfl, rfl, rfl, rfl, rfl, rfl, rfl, trivial⟩ (fun wf => ?_)
                  obtain ⟨v141, hv141, H⟩ := H
                  refine sV 0 [(26, pt b125)] (some 243) wf (pf_y rfl rfl rfl (y_lda tok rfl rfl rfl rfl rfl hv141)) (fun P_0 => ?_)
                  refine sT 1 [(9, Slc.v r7)] (some 244) tok wf (fun P_1 => ?_)
                  refine sT 2 [(23, .int .i64 t23_14)] (some 245) tok wf (fun P_2 => ?_)
                  obtain ⟨a142, ha142, la142, ua142, H⟩ := H
                  refine sU 3 [(244, Slc.v r7), (245, .int .i64 t23_14)] (some 246) wf (fun _ => pf_y rfl rfl rfl (y_ixa' tok rfl rfl ha142 rfl rfl rfl la142 ua142)) (fun P_3 => ?_)
                  refine sT 4 [(246, .pointer (some (a142.add (t23_14.toNat * 5))))] (some 247) tok wf (fun P_4 => ?_)
                  obtain ⟨v143, hv143, H⟩ := H
                  refine sV 5 [(247, .pointer (some ((a142.add (t23_14.toNat * 5)).add 2)))] (some 248) wf (pf_y rfl rfl rfl (y_ld tok rfl rfl rfl rfl hv143)) (fun P_5 => ?_)
                  refine sim_c 6 [1, 2, 3, 4, 5] [1, 2, 3, 4, 5] (ei := [(248, .int .i64 v143)]) ref19_wide_ok (ref19_wide_ref _ _ _ H) wf ⟨P_5, P_4 _, P_3 _, P_2 _, P_1 _, P_0, trivial⟩ (by kernel_rfl) ⟨rfl, trivial⟩ (by kernel_rfl) rfl rfl rfl rfl rfl ?_
                  rintro _ h145 ⟨r144, rfl, H⟩
                  obtain ⟨hy146, H⟩ := H
                  refine sim_re (x := ⟨0, .agg (S_api_Wide.cs v141).toArray, [(26, pt b125)]⟩) (pf_y rfl rfl rfl (y_lda tok rfl rfl rfl rfl rfl hy146)) (fun P_0 => ?_)
                  refine sim_c 7 [0, 1, 2, 3, 4, 5, 6] [0, 1, 2, 3, 4, 5] (ei := [(243, .agg (S_api_Wide.cs v141).toArray), (249, .agg (S_api_Wide.cs r144).toArray)]) ref01_Add_ok (ref01_Add_ref _ _ _ _ H) wf ⟨trivial, trivial, trivial, trivial, trivial, P_0, trivial⟩ (by kernel_rfl) ⟨rfl, rfl, trivial⟩ (by kernel_rfl) rfl rfl rfl rfl rfl ?_
                  rintro _ h148 ⟨r147, rfl, H⟩
                  refine sT 8 [(250, .tuple #[.agg (S_api_Wide.cs r147.1).toArray, .int .i64 r147.2])] (some 242) tok wf (fun P_8 => ?_)
                  refine sT 9 [(242, .tuple #[.agg (S_api_Wide.cs r147.1).toArray, .int .i64 r147.2])] (some 251) tok wf (fun P_9 => ?_)
                  refine sT 10 [(242, .tuple #[.agg (S_api_Wide.cs r147.1).toArray, .int .i64 r147.2])] (some 252) tok wf (fun P_10 => ?_)
                  obtain ⟨h149, wh149, eh149, H⟩ := H
                  refine sim_h 11 [0, 1, 2, 3, 4, 5, 6, 7, 8, 9] [0, 1, 2, 3, 4, 5, 8, 9] (ei := [(26, pt b125), (251, .agg (S_api_Wide.cs r147.1).toArray)]) wf ⟨P_10 _, P_9 _, P_8 _, trivial, trivial, trivial, trivial, trivial, trivial, trivial⟩ (by kernel_rfl) ⟨rfl, rfl, trivial⟩ (by kernel_rfl) rfl rfl rfl (h_sts tok rfl rfl rfl rfl rfl (oneC (by kernel_rfl)) wh149 eh149) ?_
                  refine sim_end wf ⟨P_10 _, trivial, trivial, trivial, trivial, trivial, trivial, trivial, trivial, trivial⟩ (by kernel_rfl) ?_
                  clear wf P_0 P_1 P_10 P_2 P_3 P_4 P_5 P_8 P_9
                  refine x_seq ?_
                  refine cW [(3, pt b1), (9, Slc.v r7), (10, Slc.v t10_12), (11, .int .i64 t11_1), (12, .int .i64 t12_2), (17, pt b39), (23, .int .i64 t23_14), (24, .int .i64 r123.1), (26, pt b125)] ?_
                  refine c_region ?_
                  iterate 2 refine wP tok ?_
                  obtain ⟨x150, ex150, H⟩ := H
                  refine w_pe tok rfl (congrArg (fun z => (.int .i64 z : Value)) ex150) rfl rfl ?_
                  refine w_end ?_
                  refine x_blk ?_
                  exact xJ x150 H
                ·
                 refine c_exit ?_
                 refine x_te (x_te ?_)
                 refine x_bh ?_
                 exact xJ t23_14 H
              ·
               refine c_exit ?_
               refine x_te (x_te ?_)
               refine x_bh ?_
               refine x_blk ?_
               exact xJ t10_12 H
             ·
              refine c_skip ?_
              refine x_blk ?_
              exact xJ t10_1 H
   ·
    refine q_gif (d := 47) H rfl (fun H => ?_) (fun H => ?_)
    ·
     iterate 2 refine q_p tok rfl rfl rfl ?_
     obtain ⟨a151, ha151, la151, ua151, H⟩ := H
     refine q_y (y_ixa' tok rfl rfl ha151 rfl rfl rfl la151 ua151) rfl rfl ?_
     refine q_p tok rfl rfl rfl ?_
     obtain ⟨v152, hv152, H⟩ := H
     refine q_y (y_ld tok rfl rfl rfl rfl hv152) rfl rfl ?_
     iterate 2 refine q_p tok rfl rfl rfl ?_
     obtain ⟨a153, ha153, la153, ua153, H⟩ := H
     refine q_y (y_ixa' tok rfl rfl ha153 rfl rfl rfl la153 ua153) rfl rfl ?_
     refine q_p tok rfl rfl rfl ?_
     obtain ⟨v154, hv154, H⟩ := H
     refine q_y (y_ld tok rfl rfl rfl rfl hv154) rfl rfl ?_
     iterate 2 refine q_p tok rfl rfl rfl ?_
     exact q_jn (v152.toList == v154.toList) H ⟨rfl, rfl, rfl, rfl, rfl, rfl, trivial⟩
    ·
     iterate 11 refine q_skip rfl rfl ?_
     refine q_p tok rfl rfl rfl ?_
     exact q_jn false H ⟨rfl, rfl, rfl, rfl, rfl, rfl, trivial⟩
  ·
   refine c_exit ?_
   refine x_te (x_te ?_)
   refine x_bh ?_
   refine x_seq ?_
   refine cW [(10, Slc.v t10_1)] ?_
   refine c_seq (c_region ?_)
   iterate 3 refine wP tok ?_
   refine w_end (x_seq (c_ret ?_))
   exact x_ret _ rfl _ rfl ⟨(t10_1, 0), rfl, H⟩

theorem law19_awake_ok : CallOk Go.Proofs.Tryz.prog 5 := ⟨_, Go.Proofs.Tryz.func5, by kernel_rfl, by kernel_rfl⟩
theorem law19_awake_ref (k : (Bool) → Heap → Prop) (h : Heap) (H : law19_awake k h) : CallsH Go.Proofs.Tryz.prog 5 #[] h (fun v h' => ∃ r : Bool, v = .bool r ∧ k r h') := by
 refine f_enter (N := 92) Go.Proofs.Tryz.func5 rfl rfl rfl (fun w0 => ?_)
 unfold law19_awake at H
 refine c_seq (c_region ?_)
 refine wP tok ?_
 refine w_end (x_seq ?_)
 refine c_seq (c_region ?_)
 refine w_y (y_build tok rfl rfl rfl rfl rfl) rfl rfl ?_
 refine w_y (y_build tok rfl rfl rfl rfl rfl) rfl rfl ?_
 obtain ⟨b1, h2, eb1, eh2, H⟩ := H
 refine w_h (h_bs tok rfl rfl rfl rfl rfl rfl rfl eb1 eh2) rfl rfl ?_
 refine wP tok ?_
 refine w_end (x_seq ?_)
 refine c_seq (c_region ?_)
 refine w_y (y_build tok rfl rfl rfl rfl rfl) rfl rfl ?_
 refine wP tok ?_
 refine w_call query_Run_ok (query_Run_ref _ _ _ _ _ H) rfl rfl rfl rfl ?_
 rintro _ h4 ⟨r3, rfl, H⟩
 iterate 5 refine wP tok ?_
 refine w_end (x_seq ?_)
 refine cW [(1, Slc.v (⟨some ⟨b1, 0, none⟩, 2, 2⟩ : Slc)), (2, Slc.v r3.1), (3, .int .i64 r3.2)] ?_
 refine c_seq (c_region ?_)
 refine w_y (y_build tok rfl rfl rfl rfl rfl) rfl rfl ?_
 refine wP tok ?_
 refine w_call query_Run_ok (query_Run_ref _ _ _ _ _ H) rfl rfl rfl rfl ?_
 rintro _ h6 ⟨r5, rfl, H⟩
 iterate 5 refine wP tok ?_
 refine w_end (x_seq ?_)
 refine c_seq (c_region ?_)
 refine w_y (y_build tok rfl rfl rfl rfl rfl) rfl rfl ?_
 refine wP tok ?_
 refine w_call query_Run_ok (query_Run_ref _ _ _ _ _ H) rfl rfl rfl rfl ?_
 rintro _ h8 ⟨r7, rfl, H⟩
 iterate 5 refine wP tok ?_
 refine w_end (x_seq ?_)
 refine cW [(2, Slc.v r3.1), (3, .int .i64 r3.2), (4, Slc.v r5.1), (5, .int .i64 r5.2), (6, Slc.v r7.1), (7, .int .i64 r7.2)] ?_
 refine c_seq (c_region ?_)
 iterate 3 refine wP tok ?_
 refine w_cutU 3 [(34, .bool ((r3.2 == 0) && (r5.2 == 0))), (2, Slc.v r3.1), (4, Slc.v r5.1), (6, Slc.v r7.1), (7, .int .i64 r7.2)] ?_ ?_
 ·
  refine wP tok ?_
  refine w_cutU 3 [(38, .bool (((r3.2 == 0) && (r5.2 == 0)) && (r7.2 == 0))), (2, Slc.v r3.1), (4, Slc.v r5.1), (6, Slc.v r7.1)] ?_ ?_
  ·
   refine wP tok ?_
   refine w_cutU 4 [(43, .bool ((((r3.2 == 0) && (r5.2 == 0)) && (r7.2 == 0)) && ((r3.1.len : Int) == 1))), (2, Slc.v r3.1), (4, Slc.v r5.1), (6, Slc.v r7.1)] ?_ ?_
   ·
    refine wP tok ?_
    refine w_cut 7 (α := Bool) (fun (s : Bool) => [(51, .bool s), (4, Slc.v r5.1), (6, Slc.v r7.1)]) (fun (s : Bool) h => law19_awake_g1 r5.1 r7.1 s k h) ?_ ?_
    ·
     rintro t51_1 h_1 H
     unfold law19_awake_g1 at H
     refine wW [(51, .bool t51_1), (4, Slc.v r5.1), (6, Slc.v r7.1)] ?_
     refine wP tok ?_
     refine w_cutU 4 [(56, .bool (t51_1 && ((r5.1.len : Int) == 1))), (4, Slc.v r5.1), (6, Slc.v r7.1)] ?_ ?_
     ·
      refine wP tok ?_
      refine w_cut 7 (α := Bool) (fun (s : Bool) => [(64, .bool s), (6, Slc.v r7.1)]) (fun (s : Bool) h => law19_awake_g2 r7.1 s k h) ?_ ?_
      ·
       rintro t64_2 h_2 H
       unfold law19_awake_g2 at H
       refine wW [(64, .bool t64_2), (6, Slc.v r7.1)] ?_
       refine wP tok ?_
       refine w_cutU 4 [(69, .bool (t64_2 && ((r7.1.len : Int) == 2))), (6, Slc.v r7.1)] ?_ ?_
       ·
        refine wP tok ?_
        refine w_cut 6 (α := Bool) (fun (s : Bool) => [(76, .bool s), (6, Slc.v r7.1)]) (fun (s : Bool) h => law19_awake_g3 r7.1 s k h) ?_ ?_
        ·
         rintro t76_3 h_3 H
         unfold law19_awake_g3 at H
         refine wW [(76, .bool t76_3), (6, Slc.v r7.1)] ?_
         refine wP tok ?_
         refine w_cut 7 (α := Bool) (fun (s : Bool) => [(84, .bool s), (6, Slc.v r7.1)]) (fun (s : Bool) h => law19_awake_g4 r7.1 s k h) ?_ ?_
         ·
          rintro t84_4 h_4 H
          unfold law19_awake_g4 at H
          refine wW [(84, .bool t84_4), (6, Slc.v r7.1)] ?_
          refine wP tok ?_
          refine w_cut 6 (α := Bool) (fun (s : Bool) => [(91, .bool s)]) (fun (s : Bool) h => law19_awake_g5 s k h) ?_ ?_
          ·
           rintro t91_5 h_5 H
           unfold law19_awake_g5 at H
           refine wW [(91, .bool t91_5)] ?_
           refine wP tok ?_
           refine w_end (x_seq (c_ret ?_))
           exact x_ret _ rfl _ rfl ⟨t91_5, rfl, H⟩
          ·
           refine w_gif (d := 85) H rfl (fun H => ?_) (fun H => ?_)
           ·
            refine wP tok ?_
            obtain ⟨a9, ha9, la9, ua9, H⟩ := H
            refine w_y (y_ixa' tok rfl rfl ha9 rfl rfl rfl la9 ua9) rfl rfl ?_
            refine wP tok ?_
            obtain ⟨v10, hv10, H⟩ := H
            refine w_y (y_ld tok rfl rfl rfl rfl hv10) rfl rfl ?_
            iterate 2 refine wP tok ?_
            exact wJ (v10 == 2) H
           ·
            iterate 5 refine w_skip rfl rfl ?_
            refine wP tok ?_
            exact wJ false H
         ·
          refine w_gif (d := 77) H rfl (fun H => ?_) (fun H => ?_)
          ·
           refine wP tok ?_
           obtain ⟨a11, ha11, la11, ua11, H⟩ := H
           refine w_y (y_ixa' tok rfl rfl ha11 rfl rfl rfl la11 ua11) rfl rfl ?_
           iterate 2 refine wP tok ?_
           obtain ⟨v12, hv12, H⟩ := H
           refine w_y (y_ld tok rfl rfl rfl rfl hv12) rfl rfl ?_
           iterate 2 refine wP tok ?_
           exact wJ (v12 == 5) H
          ·
           iterate 6 refine w_skip rfl rfl ?_
           refine wP tok ?_
           exact wJ false H
        ·
         refine w_gif (d := 70) H rfl (fun H => ?_) (fun H => ?_)
         ·
          refine wP tok ?_
          obtain ⟨a13, ha13, la13, ua13, H⟩ := H
          refine w_y (y_ixa' tok rfl rfl ha13 rfl rfl rfl la13 ua13) rfl rfl ?_
          refine wP tok ?_
          obtain ⟨v14, hv14, H⟩ := H
          refine w_y (y_ld tok rfl rfl rfl rfl hv14) rfl rfl ?_
          iterate 2 refine wP tok ?_
          exact wJ (v14 == 0) H
         ·
          iterate 5 refine w_skip rfl rfl ?_
          refine wP tok ?_
          exact wJ false H
       ·
        refine w_gs (d := 65) rfl (fun hb => ?_) (fun hb => ?_)
        ·
         iterate 4 refine wP tok ?_
         refine w_jn () rfl ⟨?_, rfl, trivial⟩
         exact congrArg (fun b => some (Value.bool b)) (and_t hb)
        ·
         iterate 3 refine w_skip rfl rfl ?_
         refine wP tok ?_
         refine w_jn () rfl ⟨?_, rfl, trivial⟩
         exact congrArg (fun b => some (Value.bool b)) (and_f hb)
      ·
       refine w_gif (d := 57) H rfl (fun H => ?_) (fun H => ?_)
       ·
        refine wP tok ?_
        obtain ⟨a15, ha15, la15, ua15, H⟩ := H
        refine w_y (y_ixa' tok rfl rfl ha15 rfl rfl rfl la15 ua15) rfl rfl ?_
        iterate 2 refine wP tok ?_
        obtain ⟨v16, hv16, H⟩ := H
        refine w_y (y_ld tok rfl rfl rfl rfl hv16) rfl rfl ?_
        iterate 2 refine wP tok ?_
        exact wJ (v16 == 2) H
       ·
        iterate 6 refine w_skip rfl rfl ?_
        refine wP tok ?_
        exact wJ false H
     ·
      refine w_gs (d := 52) rfl (fun hb => ?_) (fun hb => ?_)
      ·
       iterate 4 refine wP tok ?_
       refine w_jn () rfl ⟨?_, rfl, rfl, trivial⟩
       exact congrArg (fun b => some (Value.bool b)) (and_t hb)
      ·
       iterate 3 refine w_skip rfl rfl ?_
       refine wP tok ?_
       refine w_jn () rfl ⟨?_, rfl, rfl, trivial⟩
       exact congrArg (fun b => some (Value.bool b)) (and_f hb)
    ·
     refine w_gif (d := 44) H rfl (fun H => ?_) (fun H => ?_)
     ·
      refine wP tok ?_
      obtain ⟨a17, ha17, la17, ua17, H⟩ := H
      refine w_y (y_ixa' tok rfl rfl ha17 rfl rfl rfl la17 ua17) rfl rfl ?_
      iterate 2 refine wP tok ?_
      obtain ⟨v18, hv18, H⟩ := H
      refine w_y (y_ld tok rfl rfl rfl rfl hv18) rfl rfl ?_
      iterate 2 refine wP tok ?_
      exact wJ (v18 == 12) H
     ·
      iterate 6 refine w_skip rfl rfl ?_
      refine wP tok ?_
      exact wJ false H
   ·
    refine w_gs (d := 39) rfl (fun hb => ?_) (fun hb => ?_)
    ·
     iterate 4 refine wP tok ?_
     refine w_jn () rfl ⟨?_, rfl, rfl, rfl, trivial⟩
     exact congrArg (fun b => some (Value.bool b)) (and_t hb)
    ·
     iterate 3 refine w_skip rfl rfl ?_
     refine wP tok ?_
     refine w_jn () rfl ⟨?_, rfl, rfl, rfl, trivial⟩
     exact congrArg (fun b => some (Value.bool b)) (and_f hb)
  ·
   refine w_gs (d := 35) rfl (fun hb => ?_) (fun hb => ?_)
   ·
    iterate 3 refine wP tok ?_
    refine w_jn () rfl ⟨?_, rfl, rfl, rfl, trivial⟩
    exact congrArg (fun b => some (Value.bool b)) (and_t hb)
   ·
    iterate 2 refine w_skip rfl rfl ?_
    refine wP tok ?_
    refine w_jn () rfl ⟨?_, rfl, rfl, rfl, trivial⟩
    exact congrArg (fun b => some (Value.bool b)) (and_f hb)
 ·
  refine w_gs (d := 31) rfl (fun hb => ?_) (fun hb => ?_)
  ·
   iterate 3 refine wP tok ?_
   refine w_jn () rfl ⟨?_, rfl, rfl, rfl, rfl, trivial⟩
   exact congrArg (fun b => some (Value.bool b)) (and_t hb)
  ·
   iterate 2 refine w_skip rfl rfl ?_
   refine wP tok ?_
   refine w_jn () rfl ⟨?_, rfl, rfl, rfl, rfl, trivial⟩
   exact congrArg (fun b => some (Value.bool b)) (and_f hb)

theorem law19_QueryRuns_ref (p0 : S_api_Query) (p1 : Slc) (p2 : Int) (k : (Bool) → Heap → Prop) (h : Heap) (H : law19_QueryRuns p0 p1 p2 k h) : CallsH Go.Proofs.Tryz.prog 3 #[.agg (S_api_Query.cs p0).toArray, Slc.v p1, .int .i64 p2] h (fun v h' => ∃ r : Bool, v = .bool r ∧ k r h') := by
 refine f_enter (N := 83) Go.Proofs.Tryz.func3 rfl rfl rfl (fun w0 => ?_)
 unfold law19_QueryRuns at H
 refine cW [(0, .agg (S_api_Query.cs p0).toArray), (1, Slc.v p1), (2, .int .i64 p2)] ?_
 refine c_seq (c_region ?_)
 obtain ⟨b1, h2, eb1, eh2, H⟩ := H
 refine w_h (h_box rfl rfl eb1 eh2) rfl rfl ?_
 refine wP tok ?_
 refine w_end (x_seq ?_)
 refine c_seq (c_seq (c_region ?_))
 refine wP tok ?_
 refine w_call ref13_Great_ok (ref13_Great_ref _ _ _ _ H) rfl rfl rfl rfl ?_
 rintro _ h4 ⟨r3, rfl, H⟩
 refine wP tok ?_
 refine w_cut 5 (α := Bool) (fun (s : Bool) => [(21, .bool s), (1, Slc.v p1), (2, .int .i64 p2), (3, pt b1)]) (fun (s : Bool) h => law19_QueryRuns_g1 p1 p2 (ad b1) s k h) ?_ ?_
 ·
  rintro t21_1 h_1 H
  unfold law19_QueryRuns_g1 at H
  refine wW [(21, .bool t21_1), (1, Slc.v p1), (2, .int .i64 p2), (3, pt b1)] ?_
  refine w_end (x_seq ?_)
  refine c_if H rfl (fun H => ?_) (fun H => ?_)
  ·
   refine c_seq (c_region ?_)
   refine w_call law19_awake_ok (law19_awake_ref  _ _ H) rfl rfl rfl rfl ?_
   rintro _ h6 ⟨r5, rfl, H⟩
   refine wP tok ?_
   refine w_end (x_seq ?_)
   refine c_ret (x_tr ?_)
   exact x_ret _ rfl _ rfl ⟨r5, rfl, H⟩
  ·
   refine c_skip (x_seq ?_)
   refine c_seq (c_region ?_)
   obtain ⟨v7, hv7, H⟩ := H
   refine w_y (y_lda tok rfl rfl rfl rfl rfl hv7) rfl rfl ?_
   refine w_call query_Check_ok (query_Check_ref _ _ _ H) rfl rfl rfl rfl ?_
   rintro _ h9 ⟨r8, rfl, H⟩
   refine wP tok ?_
   refine w_end (x_seq ?_)
   refine c_seq (c_region ?_)
   obtain ⟨v10, hv10, H⟩ := H
   refine w_y (y_lda tok rfl rfl rfl rfl rfl hv10) rfl rfl ?_
   iterate 2 refine wP tok ?_
   refine w_call query_Ask_ok (query_Ask_ref _ _ _ _ _ H) rfl rfl rfl rfl ?_
   rintro _ h12 ⟨r11, rfl, H⟩
   iterate 5 refine wP tok ?_
   refine w_end (x_seq ?_)
   refine cW [(1, Slc.v p1), (2, .int .i64 p2), (3, pt b1), (7, .int .i64 r8), (8, Slc.v r11.1), (9, .int .i64 r11.2)] ?_
   refine c_seq (c_region ?_)
   obtain ⟨v13, hv13, H⟩ := H
   refine w_y (y_lda tok rfl rfl rfl rfl rfl hv13) rfl rfl ?_
   iterate 2 refine wP tok ?_
   refine w_call query_Run_ok (query_Run_ref _ _ _ _ _ H) rfl rfl rfl rfl ?_
   rintro _ h15 ⟨r14, rfl, H⟩
   iterate 5 refine wP tok ?_
   refine w_end (x_seq ?_)
   refine cW [(1, Slc.v p1), (2, .int .i64 p2), (3, pt b1), (7, .int .i64 r8), (8, Slc.v r11.1), (9, .int .i64 r11.2), (10, Slc.v r14.1), (11, .int .i64 r14.2)] ?_
   refine c_seq (c_region ?_)
   obtain ⟨v16, hv16, H⟩ := H
   refine w_y (y_lda tok rfl rfl rfl rfl rfl hv16) rfl rfl ?_
   iterate 2 refine wP tok ?_
   refine w_call ref19_Run_ok (ref19_Run_ref _ _ _ _ _ H) rfl rfl rfl rfl ?_
   rintro _ h18 ⟨r17, rfl, H⟩
   iterate 5 refine wP tok ?_
   refine w_end (x_seq ?_)
   refine cW [(1, Slc.v p1), (2, .int .i64 p2), (3, pt b1), (7, .int .i64 r8), (8, Slc.v r11.1), (9, .int .i64 r11.2), (10, Slc.v r14.1), (11, .int .i64 r14.2), (12, Slc.v r17.1), (13, .int .i64 r17.2)] ?_
   refine c_seq (c_seq (c_region ?_))
   refine wP tok ?_
   obtain ⟨v19, hv19, H⟩ := H
   refine w_y (y_lda tok rfl rfl rfl rfl rfl hv19) rfl rfl ?_
   refine w_call ref19_Check_ok (ref19_Check_ref _ _ _ H) rfl rfl rfl rfl ?_
   rintro _ h21 ⟨r20, rfl, H⟩
   iterate 2 refine wP tok ?_
   refine w_cutU 4 [(54, .bool ((r8 != r20) || (r11.2 != r8))), (1, Slc.v p1), (2, .int .i64 p2), (3, pt b1), (7, .int .i64 r8), (8, Slc.v r11.1), (10, Slc.v r14.1), (11, .int .i64 r14.2), (12, Slc.v r17.1), (13, .int .i64 r17.2)] ?_ ?_
   ·
    refine wP tok ?_
    refine w_cutU 4 [(59, .bool (((r8 != r20) || (r11.2 != r8)) || (r14.2 != r17.2))), (1, Slc.v p1), (2, .int .i64 p2), (3, pt b1), (7, .int .i64 r8), (8, Slc.v r11.1), (10, Slc.v r14.1), (12, Slc.v r17.1)] ?_ ?_
    ·
     refine wP tok ?_
     refine w_cut 5 (α := Bool) (fun (s : Bool) => [(65, .bool s), (1, Slc.v p1), (2, .int .i64 p2), (3, pt b1), (7, .int .i64 r8), (8, Slc.v r11.1)]) (fun (s : Bool) h => law19_QueryRuns_g2 p1 p2 (ad b1) r8 r11.1 s k h) ?_ ?_
     ·
      rintro t65_2 h_2 H
      unfold law19_QueryRuns_g2 at H
      refine wW [(65, .bool t65_2), (1, Slc.v p1), (2, .int .i64 p2), (3, pt b1), (7, .int .i64 r8), (8, Slc.v r11.1)] ?_
      refine w_end (x_seq ?_)
      refine c_if H rfl (fun H => ?_) (fun H => ?_)
      ·
       refine c_seq (c_region ?_)
       refine wP tok ?_
       refine w_end (x_seq ?_)
       refine c_ret (x_tr ?_)
       exact x_ret _ rfl _ rfl ⟨false, rfl, H⟩
      ·
       refine c_skip (x_seq ?_)
       refine c_seq (c_seq (c_region ?_))
       iterate 2 refine wP tok ?_
       refine w_end (x_seq ?_)
       refine c_if H rfl (fun H => ?_) (fun H => ?_)
       ·
        refine c_seq (c_region ?_)
        iterate 4 refine wP tok ?_
        refine w_cut 2 (α := Bool) (fun (s : Bool) => [(73, .bool s)]) (fun (s : Bool) h => law19_QueryRuns_g3 s k h) ?_ ?_
        ·
         rintro t73_3 h_3 H
         unfold law19_QueryRuns_g3 at H
         refine wW [(73, .bool t73_3)] ?_
         refine wP tok ?_
         refine w_end (x_seq ?_)
         refine c_ret (x_tr ?_)
         exact x_ret _ rfl _ rfl ⟨t73_3, rfl, H⟩
        ·
         refine w_gif (d := 71) H rfl (fun H => ?_) (fun H => ?_)
         ·
          refine w_call law19_awake_ok (law19_awake_ref  _ _ H) rfl rfl rfl rfl ?_
          rintro _ h23 ⟨r22, rfl, H⟩
          refine wP tok ?_
          exact wJ r22 H
         ·
          refine w_skip rfl rfl ?_
          refine wP tok ?_
          exact wJ false H
       ·
        refine c_skip (x_seq ?_)
        refine c_seq (c_region ?_)
        refine wP tok ?_
        obtain ⟨v24, hv24, H⟩ := H
        refine w_y (y_lda tok rfl rfl rfl rfl rfl hv24) rfl rfl ?_
        iterate 2 refine wP tok ?_
        refine w_call ref19_Ask_ok (ref19_Ask_ref _ _ _ _ _ H) rfl rfl rfl rfl ?_
        rintro _ h26 ⟨r25, rfl, H⟩
        refine w_call ref13_Same_ok (ref13_Same_ref _ _ _ _ H) rfl rfl rfl rfl ?_
        rintro _ h28 ⟨r27, rfl, H⟩
        refine wP tok ?_
        refine w_cut 2 (α := Bool) (fun (s : Bool) => [(82, .bool s)]) (fun (s : Bool) h => law19_QueryRuns_g4 s k h) ?_ ?_
        ·
         rintro t82_4 h_4 H
         unfold law19_QueryRuns_g4 at H
         refine wW [(82, .bool t82_4)] ?_
         refine wP tok ?_
         refine w_end (x_seq (c_ret ?_))
         exact x_ret _ rfl _ rfl ⟨t82_4, rfl, H⟩
        ·
         refine w_gif (d := 80) H rfl (fun H => ?_) (fun H => ?_)
         ·
          refine w_call law19_awake_ok (law19_awake_ref  _ _ H) rfl rfl rfl rfl ?_
          rintro _ h30 ⟨r29, rfl, H⟩
          refine wP tok ?_
          exact wJ r29 H
         ·
          refine w_skip rfl rfl ?_
          refine wP tok ?_
          exact wJ false H
     ·
      refine w_gif (d := 60) H rfl (fun H => ?_) (fun H => ?_)
      ·
       iterate 4 refine w_skip rfl rfl ?_
       refine wP tok ?_
       exact wJ true H
      ·
       iterate 2 refine wP tok ?_
       refine w_call ref19_SameRows_ok (ref19_SameRows_ref _ _ _ _ H) rfl rfl rfl rfl ?_
       rintro _ h32 ⟨r31, rfl, H⟩
       iterate 2 refine wP tok ?_
       exact wJ (!r31) H
    ·
     refine w_gs (d := 55) rfl (fun hb => ?_) (fun hb => ?_)
     ·
      iterate 3 refine w_skip rfl rfl ?_
      refine wP tok ?_
      refine w_jn () rfl ⟨?_, rfl, rfl, rfl, rfl, rfl, rfl, rfl, trivial⟩
      exact congrArg (fun b => some (Value.bool b)) (or_t hb)
     ·
      iterate 4 refine wP tok ?_
      refine w_jn () rfl ⟨?_, rfl, rfl, rfl, rfl, rfl, rfl, rfl, trivial⟩
      exact congrArg (fun b => some (Value.bool b)) (or_f hb)
   ·
    refine w_gs (d := 50) rfl (fun hb => ?_) (fun hb => ?_)
    ·
     iterate 3 refine w_skip rfl rfl ?_
     refine wP tok ?_
     refine w_jn () rfl ⟨?_, rfl, rfl, rfl, rfl, rfl, rfl, rfl, rfl, rfl, trivial⟩
     exact congrArg (fun b => some (Value.bool b)) (or_t hb)
    ·
     iterate 4 refine wP tok ?_
     refine w_jn () rfl ⟨?_, rfl, rfl, rfl, rfl, rfl, rfl, rfl, rfl, rfl, trivial⟩
     exact congrArg (fun b => some (Value.bool b)) (or_f hb)
 ·
  refine w_gif (d := 16) H rfl (fun H => ?_) (fun H => ?_)
  ·
   iterate 4 refine w_skip rfl rfl ?_
   refine wP tok ?_
   exact wJ true H
  ·
   refine wP tok ?_
   obtain ⟨v33, hv33, H⟩ := H
   refine w_y (y_ld tok rfl rfl rfl rfl hv33) rfl rfl ?_
   iterate 3 refine wP tok ?_
   exact wJ (decide ((v33.size : Int) > 400)) H
end Go.Q.Yz
