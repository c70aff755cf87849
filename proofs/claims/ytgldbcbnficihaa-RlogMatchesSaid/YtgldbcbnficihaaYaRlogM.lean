/- A part of the proof of statements of this seat: lemmas, no statement of their own. -/
import Derived.Test.YtgldbcbnficihaaYaRlog
set_option linter.unusedVariables false
set_option maxRecDepth 100000
set_option maxHeartbeats 1000000
namespace Go.Q.Ya
theorem law23_RlogMatches_ok : CallOk Go.Proofs.Try.prog 7 := ⟨_, Go.Proofs.Try.func7, by kernel_rfl, by kernel_rfl⟩
theorem law23_RlogMatches_ref (p0 : Slc) (p1 : Slc) (k : (Bool) → Heap → Prop) (h : Heap) (H : law23_RlogMatches p0 p1 k h) : CallsH Go.Proofs.Try.prog 7 #[Slc.v p0, Slc.v p1] h (fun v h' => ∃ r : Bool, v = .bool r ∧ k r h') := by
  refine f_enter (N := 208) Go.Proofs.Try.func7 rfl rfl rfl (fun w0 => ?_)
  unfold law23_RlogMatches at H
  refine c_weak [(0, Slc.v p0), (1, Slc.v p1)] ⟨rfl, rfl, trivial⟩ ?_
  refine c_seq ?_
  refine c_region ?_
  refine w_p tok rfl rfl rfl ?_
  refine w_end ?_
  refine x_seq ?_
  refine c_seq ?_
  refine c_seq ?_
  refine c_region ?_
  refine w_p tok rfl rfl rfl ?_
  refine w_p tok rfl rfl rfl ?_
  refine w_p tok rfl rfl rfl ?_
  refine w_p tok rfl rfl rfl ?_
  refine w_cutU 4 [(30, .bool ((decide ((p0.len : Int) > 6)) || (decide ((p1.len : Int) > 40)))), (0, Slc.v p0), (1, Slc.v p1)] ?_ ?_
  ·
    refine w_end ?_
    refine x_seq ?_
    refine c_if H rfl (fun H => ?_) (fun H => ?_)
    ·
      refine c_seq ?_
      refine c_region ?_
      refine w_call law23_awake_ok (law23_awake_ref  _ _ H) rfl rfl rfl rfl ?_
      rintro _ h2 ⟨r1, rfl, H⟩
      refine w_p tok rfl rfl rfl ?_
      refine w_end ?_
      refine x_seq ?_
      refine c_ret ?_
      refine x_tr ?_
      exact x_ret _ rfl _ rfl ⟨r1, rfl, H⟩
    ·
      refine c_skip ?_
      refine x_seq ?_
      refine c_seq ?_
      refine c_region ?_
      refine w_p tok rfl rfl rfl ?_
      refine w_end ?_
      refine x_seq ?_
      refine c_seq ?_
      refine c_region ?_
      refine w_p tok rfl rfl rfl ?_
      refine w_end ?_
      refine x_seq ?_
      refine c_seq ?_
      refine c_seq ?_
      refine c_region ?_
      refine w_p tok rfl rfl rfl ?_
      refine w_end ?_
      refine x_seq ?_
      refine c_block ?_
      obtain ⟨I1, μ1, H0, HI⟩ := H
      refine c_loop (σ := Slc × Slc × Int) (fun (s : Slc × Slc × Int) => [(5, Slc.v s.1), (6, Slc.v s.2.1), (7, .int .i64 s.2.2), (0, Slc.v p0), (1, Slc.v p1)]) I1 μ1 ((⟨none, 0, 0⟩ : Slc), (⟨none, 0, 0⟩ : Slc), 0) H0 ⟨rfl, rfl, rfl, rfl, rfl, trivial⟩ ?_
      rintro ⟨t5_1, t6_1, t7_1⟩ h_1 H
      replace H := HI t5_1 t6_1 t7_1 h_1 H
      unfold law23_RlogMatches_l1b at H
      refine c_weak [(5, Slc.v t5_1), (6, Slc.v t6_1), (7, .int .i64 t7_1), (0, Slc.v p0), (1, Slc.v p1)] ⟨rfl, rfl, rfl, rfl, rfl, trivial⟩ ?_
      refine c_seq ?_
      refine c_seq ?_
      refine c_region ?_
      refine w_p tok rfl rfl rfl ?_
      refine w_p tok rfl rfl rfl ?_
      refine w_p tok rfl rfl rfl ?_
      refine w_p tok rfl rfl rfl ?_
      refine w_end ?_
      refine x_seq ?_
      refine c_if H rfl (fun H => ?_) (fun H => ?_)
      ·
        refine c_skip ?_
        refine x_seq ?_
        refine c_seq ?_
        refine c_block ?_
        refine c_seq ?_
        refine c_region ?_
        obtain ⟨b3, h4, eb3, eh4, H⟩ := H
        refine w_h (h_bs tok rfl rfl rfl rfl rfl rfl rfl eb3 eh4) rfl rfl ?_
        refine w_p tok rfl rfl rfl ?_
        refine w_p tok rfl rfl rfl ?_
        refine w_p tok rfl rfl rfl ?_
        obtain ⟨a5, ha5, la5, ua5, H⟩ := H
        refine w_y (y_ixa' tok rfl rfl ha5 rfl rfl rfl la5 ua5) rfl rfl ?_
        obtain ⟨v6, hv6, H⟩ := H
        refine w_y (y_ld tok rfl rfl rfl rfl hv6) rfl rfl ?_
        refine w_p tok rfl rfl rfl ?_
        refine w_p tok rfl rfl rfl ?_
        refine w_p tok rfl rfl rfl ?_
        refine w_p tok rfl rfl rfl ?_
        refine w_call ref01_Pick_ok (ref01_Pick_ref _ _ _ _ H) rfl rfl rfl rfl ?_
        rintro _ h8 ⟨r7, rfl, H⟩
        obtain ⟨s9, ps9, qs9, rs9, ts9, es9, H⟩ := H
        refine w_ye (y_sl (s := t6_1) (L := 0) (H := r7) (M := (t6_1.cap : Int)) tok rfl rfl rfl rfl rfl rfl rfl (by simp) ps9 qs9 rs9 ts9) (congrArg Slc.v es9) rfl rfl ?_
        obtain ⟨l12, hl12, H⟩ := H
        refine w_a (a_app (s := (⟨some ⟨b3, 0, none⟩, 0, 0⟩ : Slc)) (r := s9) tok rfl rfl rfl rfl rfl hl12 H) rfl rfl ?_
        rintro _ h11 ⟨s10, rfl, H⟩
        refine w_p tok rfl rfl rfl ?_
        refine w_end ?_
        refine x_seq ?_
        refine c_weak [(5, Slc.v t5_1), (6, Slc.v s10), (7, .int .i64 t7_1), (0, Slc.v p0), (1, Slc.v p1)] ⟨rfl, rfl, rfl, rfl, rfl, trivial⟩ ?_
        refine c_seq ?_
        refine c_seq ?_
        refine c_region ?_
        refine w_p tok rfl rfl rfl ?_
        refine w_end ?_
        refine x_seq ?_
        refine c_block ?_
        obtain ⟨I2, μ2, H0, HI⟩ := H
        refine c_loop (σ := Slc × Int) (fun (s : Slc × Int) => [(6, Slc.v s.1), (8, .int .i64 s.2), (0, Slc.v p0), (1, Slc.v p1), (5, Slc.v t5_1), (7, .int .i64 t7_1)]) I2 μ2 (s10, 0) H0 ⟨rfl, rfl, rfl, rfl, rfl, rfl, trivial⟩ ?_
        rintro ⟨t6_2, t8_2⟩ h_2 H
        replace H := HI t6_2 t8_2 h_2 H
        unfold law23_RlogMatches_l2b at H
        refine c_weak [(6, Slc.v t6_2), (8, .int .i64 t8_2), (0, Slc.v p0), (1, Slc.v p1), (5, Slc.v t5_1), (7, .int .i64 t7_1)] ⟨rfl, rfl, rfl, rfl, rfl, rfl, trivial⟩ ?_
        refine c_seq ?_
        refine c_seq ?_
        refine c_region ?_
        refine w_p tok rfl rfl rfl ?_
        refine w_p tok rfl rfl rfl ?_
        refine w_end ?_
        refine x_seq ?_
        refine c_if H rfl (fun H => ?_) (fun H => ?_)
        ·
          refine c_skip ?_
          refine x_seq ?_
          refine c_seq ?_
          refine c_block ?_
          refine c_region ?_
          refine w_p tok rfl rfl rfl ?_
          refine w_p tok rfl rfl rfl ?_
          refine w_p tok rfl rfl rfl ?_
          refine w_p tok rfl rfl rfl ?_
          refine w_p tok rfl rfl rfl ?_
          refine w_p tok rfl rfl rfl ?_
          refine w_p tok rfl rfl rfl ?_
          refine w_p tok rfl rfl rfl ?_
          obtain ⟨b13, h14, eb13, eh14, H⟩ := H
          refine w_h (h_bs tok rfl rfl rfl rfl rfl rfl rfl eb13 eh14) rfl rfl ?_
          refine w_y (y_build tok rfl rfl rfl rfl rfl) rfl rfl ?_
          obtain ⟨b15, h16, eb15, eh16, H⟩ := H
          refine w_h (h_bs tok rfl rfl rfl rfl rfl rfl rfl eb15 eh16) rfl rfl ?_
          refine w_a (a_app (s := t6_2) (r := (⟨some ⟨b15, 0, none⟩, 1, 1⟩ : Slc)) tok rfl rfl rfl rfl rfl (slcAt_push eb15 eh16) H) rfl rfl ?_
          rintro _ h18 ⟨s17, rfl, H⟩
          refine w_p tok rfl rfl rfl ?_
          refine w_end ?_
          refine x_blk ?_
          refine x_seq ?_
          refine c_weak [(6, Slc.v s17), (8, .int .i64 t8_2), (0, Slc.v p0), (1, Slc.v p1), (5, Slc.v t5_1), (7, .int .i64 t7_1)] ⟨rfl, rfl, rfl, rfl, rfl, rfl, trivial⟩ ?_
          refine c_region ?_
          refine w_p tok rfl rfl rfl ?_
          refine w_p tok rfl rfl rfl ?_
          obtain ⟨x19, ex19, H⟩ := H
          refine w_pe tok rfl (congrArg (fun z => (.int .i64 z : Value)) ex19) rfl rfl ?_
          refine w_end ?_
          exact x_join (s17, x19) H ⟨rfl, rfl, rfl, rfl, rfl, rfl, trivial⟩
        ·
          refine c_exit ?_
          refine x_te ?_
          refine x_te ?_
          refine x_bh ?_
          refine x_seq ?_
          refine c_region ?_
          refine w_p tok rfl rfl rfl ?_
          refine w_p tok rfl rfl rfl ?_
          obtain ⟨b20, h21, eb20, eh21, H⟩ := H
          refine w_h (h_bs tok rfl rfl rfl rfl rfl rfl rfl eb20 eh21) rfl rfl ?_
          refine w_a (a_app (s := t5_1) (r := (⟨some ⟨b20, 0, none⟩, 1, 1⟩ : Slc)) tok rfl rfl rfl rfl rfl (slcAt_push eb20 eh21) H) rfl rfl ?_
          rintro _ h23 ⟨s22, rfl, H⟩
          refine w_p tok rfl rfl rfl ?_
          refine w_end ?_
          refine x_blk ?_
          refine x_seq ?_
          refine c_weak [(6, Slc.v t6_2), (0, Slc.v p0), (1, Slc.v p1), (5, Slc.v s22), (7, .int .i64 t7_1)] ⟨rfl, rfl, rfl, rfl, rfl, trivial⟩ ?_
          refine c_region ?_
          refine w_p tok rfl rfl rfl ?_
          refine w_p tok rfl rfl rfl ?_
          obtain ⟨x24, ex24, H⟩ := H
          refine w_pe tok rfl (congrArg (fun z => (.int .i64 z : Value)) ex24) rfl rfl ?_
          refine w_end ?_
          exact x_join (s22, t6_2, x24) H ⟨rfl, rfl, rfl, rfl, rfl, trivial⟩
      ·
        refine c_exit ?_
        refine x_te ?_
        refine x_te ?_
        refine x_bh ?_
        refine x_seq ?_
        refine c_weak [(5, Slc.v t5_1), (1, Slc.v p1)] ⟨rfl, rfl, trivial⟩ ?_
        refine c_seq ?_
        refine c_region ?_
        refine w_call rlog_New_ok (rlog_New_ref _ _ _ _ _ H) rfl rfl rfl rfl ?_
        rintro _ h26 ⟨r25, rfl, H⟩
        refine w_call rlog_New_ok (rlog_New_ref _ _ _ _ _ H) rfl rfl rfl rfl ?_
        rintro _ h28 ⟨r27, rfl, H⟩
        refine w_call rlog_New_ok (rlog_New_ref _ _ _ _ _ H) rfl rfl rfl rfl ?_
        rintro _ h30 ⟨r29, rfl, H⟩
        obtain ⟨b31, h32, eb31, eh32, H⟩ := H
        refine w_h (h_bs tok rfl rfl rfl rfl rfl rfl rfl eb31 eh32) rfl rfl ?_
        refine w_p tok rfl rfl rfl ?_
        refine w_end ?_
        refine x_seq ?_
        refine c_seq ?_
        refine c_seq ?_
        refine c_region ?_
        refine w_p tok rfl rfl rfl ?_
        refine w_end ?_
        refine x_seq ?_
        refine c_block ?_
        obtain ⟨I3, μ3, H0, HI⟩ := H
        refine c_loop (σ := Int) (fun (s : Int) => [(10, .int .i64 s), (1, Slc.v p1), (5, Slc.v t5_1), (9, Slc.v (⟨some ⟨b31, 0, none⟩, 3, 3⟩ : Slc))]) I3 μ3 0 H0 ⟨rfl, rfl, rfl, rfl, trivial⟩ ?_
        rintro t10_3 h_3 H
        replace H := HI t10_3 h_3 H
        unfold law23_RlogMatches_l3b at H
        refine c_weak [(10, .int .i64 t10_3), (1, Slc.v p1), (5, Slc.v t5_1), (9, Slc.v (⟨some ⟨b31, 0, none⟩, 3, 3⟩ : Slc))] ⟨rfl, rfl, rfl, rfl, trivial⟩ ?_
        refine c_seq ?_
        refine c_seq ?_
        refine c_region ?_
        refine w_p tok rfl rfl rfl ?_
        refine w_p tok rfl rfl rfl ?_
        refine w_p tok rfl rfl rfl ?_
        refine w_p tok rfl rfl rfl ?_
        refine w_p tok rfl rfl rfl ?_
        refine w_cutU 4 [(83, .bool ((decide (t10_3 < (p1.len : Int))) && (decide ((t5_1.len : Int) > 0)))), (1, Slc.v p1), (5, Slc.v t5_1), (9, Slc.v (⟨some ⟨b31, 0, none⟩, 3, 3⟩ : Slc)), (10, .int .i64 t10_3)] ?_ ?_
        ·
          refine w_end ?_
          refine x_seq ?_
          refine c_if H rfl (fun H => ?_) (fun H => ?_)
          ·
            refine c_skip ?_
            refine x_seq ?_
            refine c_seq ?_
            refine c_block ?_
            refine c_seq ?_
            refine c_region ?_
            refine w_p tok rfl rfl rfl ?_
            refine w_p tok rfl rfl rfl ?_
            obtain ⟨a33, ha33, la33, ua33, H⟩ := H
            refine w_y (y_ixa' tok rfl rfl ha33 rfl rfl rfl la33 ua33) rfl rfl ?_
            obtain ⟨v34, hv34, H⟩ := H
            refine w_y (y_ld tok rfl rfl rfl rfl hv34) rfl rfl ?_
            refine w_p tok rfl rfl rfl ?_
            obtain ⟨x35, ex35, H⟩ := H
            refine w_pe tok rfl (congrArg (fun z => (.int .i64 z : Value)) ex35) rfl rfl ?_
            refine w_end ?_
            refine x_seq ?_
            refine c_seq ?_
            refine c_region ?_
            refine w_p tok rfl rfl rfl ?_
            refine w_p tok rfl rfl rfl ?_
            refine w_p tok rfl rfl rfl ?_
            refine w_p tok rfl rfl rfl ?_
            refine w_p tok rfl rfl rfl ?_
            obtain ⟨z36, H⟩ := H
            refine w_y (y_rem rfl rfl rfl z36) rfl rfl ?_
            obtain ⟨a37, ha37, la37, ua37, H⟩ := H
            refine w_y (y_ixa' tok rfl rfl ha37 rfl rfl rfl la37 ua37) rfl rfl ?_
            obtain ⟨v38, hv38, H⟩ := H
            refine w_y (y_ld tok rfl rfl rfl rfl hv38) rfl rfl ?_
            refine w_p tok rfl rfl rfl ?_
            refine w_end ?_
            refine x_seq ?_
            refine c_weak [(1, Slc.v p1), (5, Slc.v t5_1), (9, Slc.v (⟨some ⟨b31, 0, none⟩, 3, 3⟩ : Slc)), (10, .int .i64 t10_3), (11, .int .i64 x35), (12, Slc.v v38)] ⟨rfl, rfl, rfl, rfl, rfl, rfl, trivial⟩ ?_
            refine c_seq ?_
            refine c_region ?_
            refine w_p tok rfl rfl rfl ?_
            refine w_p tok rfl rfl rfl ?_
            refine w_p tok rfl rfl rfl ?_
            refine w_p tok rfl rfl rfl ?_
            refine w_p tok rfl rfl rfl ?_
            obtain ⟨z39, H⟩ := H
            refine w_y (y_rem rfl rfl rfl z39) rfl rfl ?_
            obtain ⟨x40, ex40, H⟩ := H
            refine w_pe tok rfl (congrArg (fun z => (.int .i64 z : Value)) ex40) rfl rfl ?_
            refine w_end ?_
            refine x_seq ?_
            refine c_seq ?_
            refine c_region ?_
            refine w_p tok rfl rfl rfl ?_
            refine w_end ?_
            refine x_seq ?_
            refine c_seqJ (α := Int) (fun (s : Int) => [(14, .int .u64 s), (1, Slc.v p1), (5, Slc.v t5_1), (9, Slc.v (⟨some ⟨b31, 0, none⟩, 3, 3⟩ : Slc)), (10, .int .i64 t10_3), (11, .int .i64 x35), (12, Slc.v v38), (13, .int .i64 x40)]) (fun (s : Int) h => law23_RlogMatches_j4 p1 t5_1 (⟨some ⟨b31, 0, none⟩, 3, 3⟩ : Slc) t10_3 x35 v38 x40 s k (fun s h' => I1 s h' ∧ μ1 s h' < μ1 (t5_1, t6_1, t7_1) h_1) (fun s h' => I3 s h' ∧ μ3 s h' < μ3 t10_3 h_3) h) ?_ ?_
            ·
              rintro t14_4 h_4 H
              replace H : law23_RlogMatches_j4 p1 t5_1 (⟨some ⟨b31, 0, none⟩, 3, 3⟩ : Slc) t10_3 x35 v38 x40 t14_4 k (fun s h' => I1 s h' ∧ μ1 s h' < μ1 (t5_1, t6_1, t7_1) h_1) (fun s h' => I3 s h' ∧ μ3 s h' < μ3 t10_3 h_3) h_4 := H
              unfold law23_RlogMatches_j4 at H
              refine c_weak [(14, .int .u64 t14_4), (1, Slc.v p1), (5, Slc.v t5_1), (9, Slc.v (⟨some ⟨b31, 0, none⟩, 3, 3⟩ : Slc)), (10, .int .i64 t10_3), (11, .int .i64 x35), (12, Slc.v v38), (13, .int .i64 x40)] ⟨rfl, rfl, rfl, rfl, rfl, rfl, rfl, rfl, trivial⟩ ?_
              refine c_seq ?_
              refine c_region ?_
              refine w_p tok rfl rfl rfl ?_
              refine w_p tok rfl rfl rfl ?_
              refine w_p tok rfl rfl rfl ?_
              refine w_p tok rfl rfl rfl ?_
              refine w_p tok rfl rfl rfl ?_
              refine w_p tok rfl rfl rfl ?_
              refine w_p tok rfl rfl rfl ?_
              refine w_p tok rfl rfl rfl ?_
              obtain ⟨x41, ex41, H⟩ := H
              refine w_pe tok rfl (congrArg (fun z => (.int .i64 z : Value)) ex41) rfl rfl ?_
              refine w_end ?_
              refine x_seq ?_
              refine c_weak [(14, .int .u64 t14_4), (1, Slc.v p1), (5, Slc.v t5_1), (9, Slc.v (⟨some ⟨b31, 0, none⟩, 3, 3⟩ : Slc)), (10, .int .i64 t10_3), (11, .int .i64 x35), (12, Slc.v v38), (13, .int .i64 x40), (15, .int .i64 x41)] ⟨rfl, rfl, rfl, rfl, rfl, rfl, rfl, rfl, rfl, trivial⟩ ?_
              refine c_sim [(1, Slc.v p1), (5, Slc.v t5_1), (9, Slc.v (⟨some ⟨b31, 0, none⟩, 3, 3⟩ : Slc)), (10, .int .i64 t10_3), (11, .int .i64 x35), (12, Slc.v v38), (13, .int .i64 x40), (14, .int .u64 t14_4), (15, .int .i64 x41)] (by kernel_rfl) (by kernel_rfl) ⟨rfl, rfl, rfl, rfl, rfl, rfl, rfl, rfl, rfl, trivial⟩ (fun wf => ?_)
              refine sim_p 0 (ei := [(9, Slc.v (⟨some ⟨b31, 0, none⟩, 3, 3⟩ : Slc))]) (d := (some 121)) wf (by kernel_rfl) ⟨rfl, trivial⟩ (by kernel_rfl) (by kernel_rfl) (fun _ => pf_p tok rfl rfl rfl rfl) (fun P_0 => ?_)
              refine sim_p 1 (ei := [(11, .int .i64 x35)]) (d := (some 122)) wf (by kernel_rfl) ⟨rfl, trivial⟩ (by kernel_rfl) (by kernel_rfl) (fun _ => pf_p tok rfl rfl rfl rfl) (fun P_1 => ?_)
              refine sim_p 2 (ei := [(122, .int .i64 x35)]) (d := (some 123)) wf (by kernel_rfl) ⟨rfl, trivial⟩ (by kernel_rfl) (by kernel_rfl) (fun _ => pf_p tok rfl rfl rfl rfl) (fun P_2 => ?_)
              obtain ⟨a42, ha42, la42, ua42, H⟩ := H
              refine sim_p 3 (ei := [(121, Slc.v (⟨some ⟨b31, 0, none⟩, 3, 3⟩ : Slc)), (123, .int .i64 (Int.tmod x35 3))]) (d := (some 124)) wf (by kernel_rfl) ⟨rfl, rfl, trivial⟩ (by kernel_rfl) (by kernel_rfl) (fun _ => pf_y rfl rfl rfl (y_ixa' tok rfl rfl ha42 rfl rfl rfl la42 ua42)) (fun P_3 => ?_)
              obtain ⟨v43, hv43, H⟩ := H
              refine sim_l 4 (ei := [(124, .pointer (some (a42.add ((Int.tmod x35 3).toNat * 1))))]) (d := (some 125)) wf (by kernel_rfl) ⟨rfl, trivial⟩ (by kernel_rfl) (by kernel_rfl) (pf_y rfl rfl rfl (y_ld tok rfl rfl rfl rfl hv43)) (fun P_4 => ?_)
              refine sim_p 5 (ei := [(13, .int .i64 x40)]) (d := (some 126)) wf (by kernel_rfl) ⟨rfl, trivial⟩ (by kernel_rfl) (by kernel_rfl) (fun _ => pf_p tok rfl rfl rfl rfl) (fun P_5 => ?_)
              refine sim_p 6 (ei := [(126, .int .i64 x40)]) (d := (some 127)) wf (by kernel_rfl) ⟨rfl, trivial⟩ (by kernel_rfl) (by kernel_rfl) (fun _ => pf_p tok rfl rfl rfl rfl) (fun P_6 => ?_)
              refine sim_p 7 (ei := [(14, .int .u64 t14_4)]) (d := (some 128)) wf (by kernel_rfl) ⟨rfl, trivial⟩ (by kernel_rfl) (by kernel_rfl) (fun _ => pf_p tok rfl rfl rfl rfl) (fun P_7 => ?_)
              refine sim_p 8 (ei := [(12, Slc.v v38)]) (d := (some 129)) wf (by kernel_rfl) ⟨rfl, trivial⟩ (by kernel_rfl) (by kernel_rfl) (fun _ => pf_p tok rfl rfl rfl rfl) (fun P_8 => ?_)
              refine sim_p 9 (ei := [(13, .int .i64 x40)]) (d := (some 130)) wf (by kernel_rfl) ⟨rfl, trivial⟩ (by kernel_rfl) (by kernel_rfl) (fun _ => pf_p tok rfl rfl rfl rfl) (fun P_9 => ?_)
              refine sim_p 10 (ei := [(13, .int .i64 x40)]) (d := (some 131)) wf (by kernel_rfl) ⟨rfl, trivial⟩ (by kernel_rfl) (by kernel_rfl) (fun _ => pf_p tok rfl rfl rfl rfl) (fun P_10 => ?_)
              refine sim_p 11 (ei := [(15, .int .i64 x41)]) (d := (some 132)) wf (by kernel_rfl) ⟨rfl, trivial⟩ (by kernel_rfl) (by kernel_rfl) (fun _ => pf_p tok rfl rfl rfl rfl) (fun P_11 => ?_)
              refine sim_p 12 (ei := [(131, .int .i64 x40), (132, .int .i64 x41)]) (d := (some 133)) wf (by kernel_rfl) ⟨rfl, rfl, trivial⟩ (by kernel_rfl) (by kernel_rfl) (fun _ => pf_p tok rfl rfl rfl rfl) (fun P_12 => ?_)
              obtain ⟨s44, ps44, qs44, rs44, ts44, es44, H⟩ := H
              refine sim_p 13 (ei := [(129, Slc.v v38), (130, .int .i64 x40), (133, .int .i64 (if x41 > x40 then x41 else x40))]) (d := (some 134)) wf (by kernel_rfl) ⟨rfl, rfl, rfl, trivial⟩ (by kernel_rfl) (by kernel_rfl) (fun _ => pf_ye rfl rfl rfl (y_sl (s := v38) (L := x40) (H := (if x41 > x40 then x41 else x40)) (M := (v38.cap : Int)) tok rfl rfl rfl rfl rfl rfl rfl (by simp) ps44 qs44 rs44 ts44) (congrArg Slc.v es44)) (fun P_13 => ?_)
              refine sim_c 14 [0, 1, 2, 3, 4, 5, 6, 7, 8, 9, 10, 11, 12, 13] [0, 1, 2, 3, 4, 5, 6, 7, 8, 9, 10, 11, 12, 13] (ei := [(125, .pointer v43), (127, .int .u64 (IntKind.u64.wrap x40)), (128, .int .u64 t14_4), (134, Slc.v s44)]) rlog_Log_Append_ok (rlog_Log_Append_ref _ _ _ _ _ _ H) wf ⟨P_13 _, P_12 _, P_11 _, P_10 _, P_9 _, P_8 _, P_7 _, P_6 _, P_5 _, P_4, P_3 _, P_2 _, P_1 _, P_0 _, trivial⟩ (by kernel_rfl) ⟨rfl, rfl, rfl, rfl, trivial⟩ (by kernel_rfl) rfl rfl rfl rfl rfl ?_
              rintro _ h46 ⟨r45, rfl, H⟩
              refine sim_end wf ⟨trivial, trivial, trivial, trivial, trivial, trivial, trivial, trivial, trivial, trivial, trivial, trivial, trivial, trivial, trivial⟩ (by kernel_rfl) ?_
              clear wf P_0 P_1 P_10 P_11 P_12 P_13 P_2 P_3 P_4 P_5 P_6 P_7 P_8 P_9
              refine x_blk ?_
              refine x_seq ?_
              refine c_weak [(1, Slc.v p1), (5, Slc.v t5_1), (9, Slc.v (⟨some ⟨b31, 0, none⟩, 3, 3⟩ : Slc)), (10, .int .i64 t10_3)] ⟨rfl, rfl, rfl, rfl, trivial⟩ ?_
              refine c_region ?_
              refine w_p tok rfl rfl rfl ?_
              refine w_p tok rfl rfl rfl ?_
              obtain ⟨x47, ex47, H⟩ := H
              refine w_pe tok rfl (congrArg (fun z => (.int .i64 z : Value)) ex47) rfl rfl ?_
              refine w_end ?_
              exact x_join x47 H ⟨rfl, rfl, rfl, rfl, trivial⟩
            ·
              refine c_seq ?_
              refine c_region ?_
              refine w_p tok rfl rfl rfl ?_
              refine w_p tok rfl rfl rfl ?_
              refine w_end ?_
              refine x_seq ?_
              refine c_weak [(1, Slc.v p1), (5, Slc.v t5_1), (9, Slc.v (⟨some ⟨b31, 0, none⟩, 3, 3⟩ : Slc)), (10, .int .i64 t10_3), (11, .int .i64 x35), (12, Slc.v v38), (13, .int .i64 x40), (14, .int .u64 0), (106, .bool (decide (x40 > 0)))] ⟨rfl, rfl, rfl, rfl, rfl, rfl, rfl, rfl, rfl, trivial⟩ ?_
              refine c_if H rfl (fun H => ?_) (fun H => ?_)
              ·
                refine c_region ?_
                refine w_p tok rfl rfl rfl ?_
                refine w_p tok rfl rfl rfl ?_
                refine w_p tok rfl rfl rfl ?_
                obtain ⟨a48, ha48, la48, ua48, H⟩ := H
                refine w_y (y_ixa' tok rfl rfl ha48 rfl rfl rfl la48 ua48) rfl rfl ?_
                refine w_p tok rfl rfl rfl ?_
                obtain ⟨v49, hv49, H⟩ := H
                refine w_y (y_ld tok rfl rfl rfl rfl hv49) rfl rfl ?_
                refine w_p tok rfl rfl rfl ?_
                refine w_end ?_
                exact x_join v49 H ⟨rfl, rfl, rfl, rfl, rfl, rfl, rfl, rfl, trivial⟩
              ·
                refine c_skip ?_
                exact x_join 0 H ⟨rfl, rfl, rfl, rfl, rfl, rfl, rfl, rfl, trivial⟩
          ·
            refine c_exit ?_
            refine x_te ?_
            refine x_te ?_
            refine x_bh ?_
            refine x_seq ?_
            refine c_seq ?_
            refine c_seq ?_
            refine c_region ?_
            refine w_p tok rfl rfl rfl ?_
            refine w_end ?_
            refine x_seq ?_
            refine c_block ?_
            obtain ⟨I5, μ5, H0, HI⟩ := H
            refine c_loop (σ := Int) (fun (s : Int) => [(16, .int .i64 s), (9, Slc.v (⟨some ⟨b31, 0, none⟩, 3, 3⟩ : Slc))]) I5 μ5 0 H0 ⟨rfl, rfl, trivial⟩ ?_
            rintro t16_5 h_5 H
            replace H := HI t16_5 h_5 H
            unfold law23_RlogMatches_l5b at H
            refine c_weak [(16, .int .i64 t16_5), (9, Slc.v (⟨some ⟨b31, 0, none⟩, 3, 3⟩ : Slc))] ⟨rfl, rfl, trivial⟩ ?_
            refine c_seq ?_
            refine c_seq ?_
            refine c_region ?_
            refine w_p tok rfl rfl rfl ?_
            refine w_p tok rfl rfl rfl ?_
            refine w_end ?_
            refine x_seq ?_
            refine c_if H rfl (fun H => ?_) (fun H => ?_)
            ·
              refine c_skip ?_
              refine x_seq ?_
              refine c_seqJ (α := Unit) (fun (s : Unit) => [(9, Slc.v (⟨some ⟨b31, 0, none⟩, 3, 3⟩ : Slc)), (16, .int .i64 t16_5)]) (fun (s : Unit) h => law23_RlogMatches_j6 (⟨some ⟨b31, 0, none⟩, 3, 3⟩ : Slc) t16_5 k (fun s h' => I1 s h' ∧ μ1 s h' < μ1 (t5_1, t6_1, t7_1) h_1) (fun s h' => I3 s h' ∧ μ3 s h' < μ3 t10_3 h_3) (fun s h' => I5 s h' ∧ μ5 s h' < μ5 t16_5 h_5) h) ?_ ?_
              ·
                rintro _ h_6 H
                replace H : law23_RlogMatches_j6 (⟨some ⟨b31, 0, none⟩, 3, 3⟩ : Slc) t16_5 k (fun s h' => I1 s h' ∧ μ1 s h' < μ1 (t5_1, t6_1, t7_1) h_1) (fun s h' => I3 s h' ∧ μ3 s h' < μ3 t10_3 h_3) (fun s h' => I5 s h' ∧ μ5 s h' < μ5 t16_5 h_5) h_6 := H
                unfold law23_RlogMatches_j6 at H
                refine c_weak [(9, Slc.v (⟨some ⟨b31, 0, none⟩, 3, 3⟩ : Slc)), (16, .int .i64 t16_5)] ⟨rfl, rfl, trivial⟩ ?_
                refine c_region ?_
                refine w_p tok rfl rfl rfl ?_
                refine w_p tok rfl rfl rfl ?_
                obtain ⟨x50, ex50, H⟩ := H
                refine w_pe tok rfl (congrArg (fun z => (.int .i64 z : Value)) ex50) rfl rfl ?_
                refine w_end ?_
                exact x_join x50 H ⟨rfl, rfl, trivial⟩
              ·
                refine c_block ?_
                refine c_seq ?_
                refine c_sim [(9, Slc.v (⟨some ⟨b31, 0, none⟩, 3, 3⟩ : Slc)), (16, .int .i64 t16_5)] (by kernel_rfl) (by kernel_rfl) ⟨rfl, rfl, trivial⟩ (fun wf => ?_)
                refine sim_p 0 (ei := [(9, Slc.v (⟨some ⟨b31, 0, none⟩, 3, 3⟩ : Slc))]) (d := (some 140)) wf (by kernel_rfl) ⟨rfl, trivial⟩ (by kernel_rfl) (by kernel_rfl) (fun _ => pf_p tok rfl rfl rfl rfl) (fun P_0 => ?_)
                refine sim_p 1 (ei := [(16, .int .i64 t16_5)]) (d := (some 141)) wf (by kernel_rfl) ⟨rfl, trivial⟩ (by kernel_rfl) (by kernel_rfl) (fun _ => pf_p tok rfl rfl rfl rfl) (fun P_1 => ?_)
                obtain ⟨a51, ha51, la51, ua51, H⟩ := H
                refine sim_p 2 (ei := [(140, Slc.v (⟨some ⟨b31, 0, none⟩, 3, 3⟩ : Slc)), (141, .int .i64 t16_5)]) (d := (some 142)) wf (by kernel_rfl) ⟨rfl, rfl, trivial⟩ (by kernel_rfl) (by kernel_rfl) (fun _ => pf_y rfl rfl rfl (y_ixa' tok rfl rfl ha51 rfl rfl rfl la51 ua51)) (fun P_2 => ?_)
                obtain ⟨v52, hv52, H⟩ := H
                refine sim_l 3 (ei := [(142, .pointer (some (a51.add (t16_5.toNat * 1))))]) (d := (some 143)) wf (by kernel_rfl) ⟨rfl, trivial⟩ (by kernel_rfl) (by kernel_rfl) (pf_y rfl rfl rfl (y_ld tok rfl rfl rfl rfl hv52)) (fun P_3 => ?_)
                refine sim_p 5 (ei := [(9, Slc.v (⟨some ⟨b31, 0, none⟩, 3, 3⟩ : Slc))]) (d := (some 145)) wf (by kernel_rfl) ⟨rfl, trivial⟩ (by kernel_rfl) (by kernel_rfl) (fun _ => pf_p tok rfl rfl rfl rfl) (fun P_5 => ?_)
                refine sim_p 6 (ei := [(16, .int .i64 t16_5)]) (d := (some 146)) wf (by kernel_rfl) ⟨rfl, trivial⟩ (by kernel_rfl) (by kernel_rfl) (fun _ => pf_p tok rfl rfl rfl rfl) (fun P_6 => ?_)
                refine sim_p 7 (ei := [(146, .int .i64 t16_5)]) (d := (some 147)) wf (by kernel_rfl) ⟨rfl, trivial⟩ (by kernel_rfl) (by kernel_rfl) (fun _ => pf_p tok rfl rfl rfl rfl) (fun P_7 => ?_)
                refine sim_p 8 (ei := [(147, .int .i64 (IntKind.i64.wrap (t16_5 + 1)))]) (d := (some 148)) wf (by kernel_rfl) ⟨rfl, trivial⟩ (by kernel_rfl) (by kernel_rfl) (fun _ => pf_p tok rfl rfl rfl rfl) (fun P_8 => ?_)
                obtain ⟨a53, ha53, la53, ua53, H⟩ := H
                refine sim_p 9 (ei := [(145, Slc.v (⟨some ⟨b31, 0, none⟩, 3, 3⟩ : Slc)), (148, .int .i64 (Int.tmod (IntKind.i64.wrap (t16_5 + 1)) 3))]) (d := (some 149)) wf (by kernel_rfl) ⟨rfl, rfl, trivial⟩ (by kernel_rfl) (by kernel_rfl) (fun _ => pf_y rfl rfl rfl (y_ixa' tok rfl rfl ha53 rfl rfl rfl la53 ua53)) (fun P_9 => ?_)
                obtain ⟨v54, hv54, H⟩ := H
                refine sim_l 10 (ei := [(149, .pointer (some (a53.add ((Int.tmod (IntKind.i64.wrap (t16_5 + 1)) 3).toNat * 1))))]) (d := (some 150)) wf (by kernel_rfl) ⟨rfl, trivial⟩ (by kernel_rfl) (by kernel_rfl) (pf_y rfl rfl rfl (y_ld tok rfl rfl rfl rfl hv54)) (fun P_10 => ?_)
                refine sim_c 4 [0, 1, 2, 3] [0, 1, 2, 3] (ei := [(143, .pointer v52)]) rlog_Log_Entries_ok (rlog_Log_Entries_ref _ _ _ H) wf ⟨P_10, P_9 _, P_8 _, P_7 _, P_6 _, P_5 _, P_3, P_2 _, P_1 _, P_0 _, trivial⟩ (by kernel_rfl) ⟨rfl, trivial⟩ (by kernel_rfl) rfl rfl rfl rfl rfl ?_
                rintro _ h56 ⟨r55, rfl, H⟩
                obtain ⟨hy57, H⟩ := H
                refine sim_re (x := ⟨10, .pointer v54, [(149, .pointer (some (a53.add ((Int.tmod (IntKind.i64.wrap (t16_5 + 1)) 3).toNat * 1))))]⟩) (pf_y rfl rfl rfl (y_ld tok rfl rfl rfl rfl hy57)) (fun P_10 => ?_)
                refine sim_c 11 [0, 1, 2, 3, 4, 5, 6, 7, 8, 9, 10] [0, 1, 2, 3, 5, 6, 7, 8, 9, 10] (ei := [(150, .pointer v54)]) rlog_Log_Entries_ok (rlog_Log_Entries_ref _ _ _ H) wf ⟨P_10, P_9 _, P_8 _, P_7 _, P_6 _, P_5 _, trivial, trivial, trivial, trivial, trivial⟩ (by kernel_rfl) ⟨rfl, trivial⟩ (by kernel_rfl) rfl rfl rfl rfl rfl ?_
                rintro _ h59 ⟨r58, rfl, H⟩
                refine sim_p 12 (ei := [(144, Slc.v r55)]) (d := (some 17)) wf (by kernel_rfl) ⟨rfl, trivial⟩ (by kernel_rfl) (by kernel_rfl) (fun _ => pf_p tok rfl rfl rfl rfl) (fun P_12 => ?_)
                refine sim_p 13 (ei := [(151, Slc.v r58)]) (d := (some 18)) wf (by kernel_rfl) ⟨rfl, trivial⟩ (by kernel_rfl) (by kernel_rfl) (fun _ => pf_p tok rfl rfl rfl rfl) (fun P_13 => ?_)
                refine sim_end wf ⟨P_13 _, P_12 _, trivial, trivial, trivial, trivial, trivial, trivial, trivial, trivial, trivial, trivial, trivial⟩ (by kernel_rfl) ?_
                clear wf P_0 P_1 P_10 P_12 P_13 P_2 P_3 P_5 P_6 P_7 P_8 P_9
                refine x_seq ?_
                refine c_weak [(9, Slc.v (⟨some ⟨b31, 0, none⟩, 3, 3⟩ : Slc)), (16, .int .i64 t16_5), (17, Slc.v r55), (18, Slc.v r58)] ⟨rfl, rfl, rfl, rfl, trivial⟩ ?_
                refine c_seq ?_
                refine c_region ?_
                refine w_p tok rfl rfl rfl ?_
                refine w_p tok rfl rfl rfl ?_
                refine w_p tok rfl rfl rfl ?_
                refine w_p tok rfl rfl rfl ?_
                refine w_p tok rfl rfl rfl ?_
                refine w_p tok rfl rfl rfl ?_
                obtain ⟨x60, ex60, H⟩ := H
                refine w_pe tok rfl (congrArg (fun z => (.int .i64 z : Value)) ex60) rfl rfl ?_
                refine w_end ?_
                refine x_seq ?_
                refine c_block ?_
                obtain ⟨I7, μ7, H0, HI⟩ := H
                refine c_loop (σ := Int) (fun (s : Int) => [(19, .int .i64 s), (9, Slc.v (⟨some ⟨b31, 0, none⟩, 3, 3⟩ : Slc)), (16, .int .i64 t16_5), (17, Slc.v r55), (18, Slc.v r58)]) I7 μ7 x60 H0 ⟨rfl, rfl, rfl, rfl, rfl, trivial⟩ ?_
                rintro t19_7 h_7 H
                replace H := HI t19_7 h_7 H
                unfold law23_RlogMatches_l7b at H
                refine c_weak [(19, .int .i64 t19_7), (9, Slc.v (⟨some ⟨b31, 0, none⟩, 3, 3⟩ : Slc)), (16, .int .i64 t16_5), (17, Slc.v r55), (18, Slc.v r58)] ⟨rfl, rfl, rfl, rfl, rfl, trivial⟩ ?_
                refine c_seq ?_
                refine c_seq ?_
                refine c_region ?_
                refine w_p tok rfl rfl rfl ?_
                refine w_p tok rfl rfl rfl ?_
                refine w_end ?_
                refine x_seq ?_
                refine c_if H rfl (fun H => ?_) (fun H => ?_)
                ·
                  refine c_skip ?_
                  refine x_seq ?_
                  refine c_seq ?_
                  refine c_block ?_
                  refine c_seq ?_
                  refine c_draw (by kernel_rfl) (by kernel_rfl) ?_
                  refine q_p tok rfl rfl rfl ?_
                  refine q_p tok rfl rfl rfl ?_
                  obtain ⟨a61, ha61, la61, ua61, H⟩ := H
                  refine q_y (y_ixa' tok rfl rfl ha61 rfl rfl rfl la61 ua61) rfl rfl ?_
                  refine q_p tok rfl rfl rfl ?_
                  obtain ⟨v62, hv62, H⟩ := H
                  refine q_y (y_ld tok rfl rfl rfl rfl hv62) rfl rfl ?_
                  refine q_p tok rfl rfl rfl ?_
                  refine q_p tok rfl rfl rfl ?_
                  obtain ⟨a63, ha63, la63, ua63, H⟩ := H
                  refine q_y (y_ixa' tok rfl rfl ha63 rfl rfl rfl la63 ua63) rfl rfl ?_
                  refine q_p tok rfl rfl rfl ?_
                  obtain ⟨v64, hv64, H⟩ := H
                  refine q_y (y_ld tok rfl rfl rfl rfl hv64) rfl rfl ?_
                  refine q_p tok rfl rfl rfl ?_
                  refine q_end ?_
                  refine x_seq ?_
                  refine c_weak [(19, .int .i64 t19_7), (9, Slc.v (⟨some ⟨b31, 0, none⟩, 3, 3⟩ : Slc)), (16, .int .i64 t16_5), (17, Slc.v r55), (18, Slc.v r58), (172, .bool (v62 == v64))] ⟨rfl, rfl, rfl, rfl, rfl, rfl, trivial⟩ ?_
                  refine c_if H rfl (fun H => ?_) (fun H => ?_)
                  ·
                    refine c_seq ?_
                    refine c_seq ?_
                    refine c_sim [(9, Slc.v (⟨some ⟨b31, 0, none⟩, 3, 3⟩ : Slc)), (16, .int .i64 t16_5), (17, Slc.v r55), (18, Slc.v r58), (19, .int .i64 t19_7)] (by kernel_rfl) (by kernel_rfl) ⟨rfl, rfl, rfl, rfl, rfl, trivial⟩ (fun wf => ?_)
                    refine sim_p 0 (ei := [(17, Slc.v r55)]) (d := (some 173)) wf (by kernel_rfl) ⟨rfl, trivial⟩ (by kernel_rfl) (by kernel_rfl) (fun _ => pf_p tok rfl rfl rfl rfl) (fun P_0 => ?_)
                    refine sim_p 1 (ei := [(19, .int .i64 t19_7)]) (d := (some 174)) wf (by kernel_rfl) ⟨rfl, trivial⟩ (by kernel_rfl) (by kernel_rfl) (fun _ => pf_p tok rfl rfl rfl rfl) (fun P_1 => ?_)
                    refine sim_p 2 (ei := [(174, .int .i64 t19_7)]) (d := (some 175)) wf (by kernel_rfl) ⟨rfl, trivial⟩ (by kernel_rfl) (by kernel_rfl) (fun _ => pf_p tok rfl rfl rfl rfl) (fun P_2 => ?_)
                    obtain ⟨s65, ps65, qs65, rs65, ts65, es65, H⟩ := H
                    refine sim_p 3 (ei := [(173, Slc.v r55), (175, .int .i64 (IntKind.i64.wrap (t19_7 + 1)))]) (d := (some 176)) wf (by kernel_rfl) ⟨rfl, rfl, trivial⟩ (by kernel_rfl) (by kernel_rfl) (fun _ => pf_ye rfl rfl rfl (y_sl (s := r55) (L := 0) (H := (IntKind.i64.wrap (t19_7 + 1))) (M := (r55.cap : Int)) tok rfl rfl rfl rfl rfl rfl rfl (by simp) ps65 qs65 rs65 ts65) (congrArg Slc.v es65)) (fun P_3 => ?_)
                    refine sim_p 4 (ei := [(18, Slc.v r58)]) (d := (some 177)) wf (by kernel_rfl) ⟨rfl, trivial⟩ (by kernel_rfl) (by kernel_rfl) (fun _ => pf_p tok rfl rfl rfl rfl) (fun P_4 => ?_)
                    refine sim_p 5 (ei := [(19, .int .i64 t19_7)]) (d := (some 178)) wf (by kernel_rfl) ⟨rfl, trivial⟩ (by kernel_rfl) (by kernel_rfl) (fun _ => pf_p tok rfl rfl rfl rfl) (fun P_5 => ?_)
                    refine sim_p 6 (ei := [(178, .int .i64 t19_7)]) (d := (some 179)) wf (by kernel_rfl) ⟨rfl, trivial⟩ (by kernel_rfl) (by kernel_rfl) (fun _ => pf_p tok rfl rfl rfl rfl) (fun P_6 => ?_)
                    obtain ⟨s66, ps66, qs66, rs66, ts66, es66, H⟩ := H
                    refine sim_p 7 (ei := [(177, Slc.v r58), (179, .int .i64 (IntKind.i64.wrap (t19_7 + 1)))]) (d := (some 180)) wf (by kernel_rfl) ⟨rfl, rfl, trivial⟩ (by kernel_rfl) (by kernel_rfl) (fun _ => pf_ye rfl rfl rfl (y_sl (s := r58) (L := 0) (H := (IntKind.i64.wrap (t19_7 + 1))) (M := (r58.cap : Int)) tok rfl rfl rfl rfl rfl rfl rfl (by simp) ps66 qs66 rs66 ts66) (congrArg Slc.v es66)) (fun P_7 => ?_)
                    refine sim_c 8 [0, 1, 2, 3, 4, 5, 6, 7] [0, 1, 2, 3, 4, 5, 6, 7] (ei := [(176, Slc.v s65), (180, Slc.v s66)]) ref23_Same_ok (ref23_Same_ref _ _ _ _ H) wf ⟨P_7 _, P_6 _, P_5 _, P_4 _, P_3 _, P_2 _, P_1 _, P_0 _, trivial⟩ (by kernel_rfl) ⟨rfl, rfl, trivial⟩ (by kernel_rfl) rfl rfl rfl rfl rfl ?_
                    rintro _ h68 ⟨r67, rfl, H⟩
                    refine sim_p 9 (ei := [(181, .bool r67)]) (d := (some 182)) wf (by kernel_rfl) ⟨rfl, trivial⟩ (by kernel_rfl) (by kernel_rfl) (fun _ => pf_p tok rfl rfl rfl rfl) (fun P_9 => ?_)
                    refine sim_end wf ⟨P_9 _, trivial, trivial, trivial, trivial, trivial, trivial, trivial, trivial, trivial⟩ (by kernel_rfl) ?_
                    clear wf P_0 P_1 P_2 P_3 P_4 P_5 P_6 P_7 P_9
                    refine x_seq ?_
                    refine c_weak [(9, Slc.v (⟨some ⟨b31, 0, none⟩, 3, 3⟩ : Slc)), (16, .int .i64 t16_5), (182, .bool (!r67))] ⟨rfl, rfl, rfl, trivial⟩ ?_
                    refine c_if H rfl (fun H => ?_) (fun H => ?_)
                    ·
                      refine c_seq ?_
                      refine c_region ?_
                      refine w_p tok rfl rfl rfl ?_
                      refine w_end ?_
                      refine x_seq ?_
                      refine c_ret ?_
                      refine x_tr ?_
                      refine x_br ?_
                      refine x_tr ?_
                      refine x_tr ?_
                      refine x_br ?_
                      refine x_br ?_
                      refine x_tr ?_
                      refine x_tr ?_
                      refine x_br ?_
                      refine x_tr ?_
                      exact x_ret _ rfl _ rfl ⟨false, rfl, H⟩
                    ·
                      refine c_skip ?_
                      refine x_seq ?_
                      refine c_exit ?_
                      refine x_bm rfl ?_
                      refine x_te ?_
                      refine x_te ?_
                      refine x_bh ?_
                      refine x_blk ?_
                      exact x_join () H ⟨rfl, rfl, trivial⟩
                  ·
                    refine c_skip ?_
                    refine x_blk ?_
                    refine x_seq ?_
                    refine c_region ?_
                    refine w_p tok rfl rfl rfl ?_
                    refine w_p tok rfl rfl rfl ?_
                    obtain ⟨x69, ex69, H⟩ := H
                    refine w_pe tok rfl (congrArg (fun z => (.int .i64 z : Value)) ex69) rfl rfl ?_
                    refine w_end ?_
                    exact x_join x69 H ⟨rfl, rfl, rfl, rfl, rfl, trivial⟩
                ·
                  refine c_exit ?_
                  refine x_te ?_
                  refine x_te ?_
                  refine x_bh ?_
                  refine x_blk ?_
                  exact x_join () H ⟨rfl, rfl, trivial⟩
            ·
              refine c_exit ?_
              refine x_te ?_
              refine x_te ?_
              refine x_bh ?_
              refine x_seq ?_
              refine c_seq ?_
              refine c_region ?_
              refine w_p tok rfl rfl rfl ?_
              refine w_end ?_
              refine x_seq ?_
              refine c_seq ?_
              refine c_region ?_
              refine w_p tok rfl rfl rfl ?_
              refine w_call rlog_Log_Append_ok (rlog_Log_Append_ref _ _ _ _ _ _ H) rfl rfl rfl rfl ?_
              rintro _ h71 ⟨r70, rfl, H⟩
              refine w_p tok rfl rfl rfl ?_
              refine w_p tok rfl rfl rfl ?_
              refine w_p tok rfl rfl rfl ?_
              refine w_p tok rfl rfl rfl ?_
              refine w_p tok rfl rfl rfl ?_
              refine w_end ?_
              refine x_seq ?_
              refine c_weak [(20, .pointer none), (22, .int .i64 r70.2)] ⟨rfl, rfl, trivial⟩ ?_
              refine c_seq ?_
              refine c_region ?_
              refine w_p tok rfl rfl rfl ?_
              refine w_p tok rfl rfl rfl ?_
              refine w_p tok rfl rfl rfl ?_
              refine w_cut 4 (α := Bool) (fun (s : Bool) => [(194, .bool s), (20, .pointer none)]) (fun (s : Bool) h => law23_RlogMatches_g8 none s k (fun s h' => I1 s h' ∧ μ1 s h' < μ1 (t5_1, t6_1, t7_1) h_1) (fun s h' => I3 s h' ∧ μ3 s h' < μ3 t10_3 h_3) (fun s h' => I5 s h' ∧ μ5 s h' < μ5 t16_5 h_5) h) ?_ ?_
              ·
                rintro t194_8 h_8 H
                replace H : law23_RlogMatches_g8 none t194_8 k (fun s h' => I1 s h' ∧ μ1 s h' < μ1 (t5_1, t6_1, t7_1) h_1) (fun s h' => I3 s h' ∧ μ3 s h' < μ3 t10_3 h_3) (fun s h' => I5 s h' ∧ μ5 s h' < μ5 t16_5 h_5) h_8 := H
                unfold law23_RlogMatches_g8 at H
                refine w_weak [(194, .bool t194_8), (20, .pointer none)] ⟨rfl, rfl, trivial⟩ ?_
                refine w_p tok rfl rfl rfl ?_
                refine w_cut 5 (α := Bool) (fun (s : Bool) => [(200, .bool s), (20, .pointer none)]) (fun (s : Bool) h => law23_RlogMatches_g9 none s k (fun s h' => I1 s h' ∧ μ1 s h' < μ1 (t5_1, t6_1, t7_1) h_1) (fun s h' => I3 s h' ∧ μ3 s h' < μ3 t10_3 h_3) (fun s h' => I5 s h' ∧ μ5 s h' < μ5 t16_5 h_5) h) ?_ ?_
                ·
                  rintro t200_9 h_9 H
                  replace H : law23_RlogMatches_g9 none t200_9 k (fun s h' => I1 s h' ∧ μ1 s h' < μ1 (t5_1, t6_1, t7_1) h_1) (fun s h' => I3 s h' ∧ μ3 s h' < μ3 t10_3 h_3) (fun s h' => I5 s h' ∧ μ5 s h' < μ5 t16_5 h_5) h_9 := H
                  unfold law23_RlogMatches_g9 at H
                  refine w_weak [(200, .bool t200_9), (20, .pointer none)] ⟨rfl, rfl, trivial⟩ ?_
                  refine w_p tok rfl rfl rfl ?_
                  refine w_cut 3 (α := Bool) (fun (s : Bool) => [(204, .bool s)]) (fun (s : Bool) h => law23_RlogMatches_g10 s k (fun s h' => I1 s h' ∧ μ1 s h' < μ1 (t5_1, t6_1, t7_1) h_1) (fun s h' => I3 s h' ∧ μ3 s h' < μ3 t10_3 h_3) (fun s h' => I5 s h' ∧ μ5 s h' < μ5 t16_5 h_5) h) ?_ ?_
                  ·
                    rintro t204_10 h_10 H
                    replace H : law23_RlogMatches_g10 t204_10 k (fun s h' => I1 s h' ∧ μ1 s h' < μ1 (t5_1, t6_1, t7_1) h_1) (fun s h' => I3 s h' ∧ μ3 s h' < μ3 t10_3 h_3) (fun s h' => I5 s h' ∧ μ5 s h' < μ5 t16_5 h_5) h_10 := H
                    unfold law23_RlogMatches_g10 at H
                    refine w_weak [(204, .bool t204_10)] ⟨rfl, trivial⟩ ?_
                    refine w_p tok rfl rfl rfl ?_
                    refine w_cut 2 (α := Bool) (fun (s : Bool) => [(207, .bool s)]) (fun (s : Bool) h => law23_RlogMatches_g11 s k (fun s h' => I1 s h' ∧ μ1 s h' < μ1 (t5_1, t6_1, t7_1) h_1) (fun s h' => I3 s h' ∧ μ3 s h' < μ3 t10_3 h_3) (fun s h' => I5 s h' ∧ μ5 s h' < μ5 t16_5 h_5) h) ?_ ?_
                    ·
                      rintro t207_11 h_11 H
                      replace H : law23_RlogMatches_g11 t207_11 k (fun s h' => I1 s h' ∧ μ1 s h' < μ1 (t5_1, t6_1, t7_1) h_1) (fun s h' => I3 s h' ∧ μ3 s h' < μ3 t10_3 h_3) (fun s h' => I5 s h' ∧ μ5 s h' < μ5 t16_5 h_5) h_11 := H
                      unfold law23_RlogMatches_g11 at H
                      refine w_weak [(207, .bool t207_11)] ⟨rfl, trivial⟩ ?_
                      refine w_p tok rfl rfl rfl ?_
                      refine w_end ?_
                      refine x_seq ?_
                      refine c_ret ?_
                      exact x_ret _ rfl _ rfl ⟨t207_11, rfl, H⟩
                    ·
                      refine w_gif (d := 205) H rfl (fun H => ?_) (fun H => ?_)
                      ·
                        refine w_call law23_awake_ok (law23_awake_ref  _ _ H) rfl rfl rfl rfl ?_
                        rintro _ h73 ⟨r72, rfl, H⟩
                        refine w_p tok rfl rfl rfl ?_
                        exact w_jn r72 H ⟨rfl, trivial⟩
                      ·
                        refine w_skip rfl rfl ?_
                        refine w_p tok rfl rfl rfl ?_
                        exact w_jn false H ⟨rfl, trivial⟩
                  ·
                    refine w_gif (d := 201) H rfl (fun H => ?_) (fun H => ?_)
                    ·
                      refine w_p tok rfl rfl rfl ?_
                      refine w_call rlog_Log_Newer_ok (rlog_Log_Newer_ref _ _ _ _ _ H) rfl rfl rfl rfl ?_
                      rintro _ h75 ⟨r74, rfl, H⟩
                      refine w_p tok rfl rfl rfl ?_
                      exact w_jn r74 H ⟨rfl, trivial⟩
                    ·
                      refine w_skip rfl rfl ?_
                      refine w_skip rfl rfl ?_
                      refine w_p tok rfl rfl rfl ?_
                      exact w_jn false H ⟨rfl, trivial⟩
                ·
                  refine w_gif (d := 195) H rfl (fun H => ?_) (fun H => ?_)
                  ·
                    refine w_p tok rfl rfl rfl ?_
                    refine w_call rlog_Log_Entries_ok (rlog_Log_Entries_ref _ _ _ H) rfl rfl rfl rfl ?_
                    rintro _ h77 ⟨r76, rfl, H⟩
                    refine w_p tok rfl rfl rfl ?_
                    refine w_p tok rfl rfl rfl ?_
                    refine w_p tok rfl rfl rfl ?_
                    exact w_jn ((r76.len : Int) == 0) H ⟨rfl, rfl, trivial⟩
                  ·
                    refine w_skip rfl rfl ?_
                    refine w_skip rfl rfl ?_
                    refine w_skip rfl rfl ?_
                    refine w_skip rfl rfl ?_
                    refine w_p tok rfl rfl rfl ?_
                    exact w_jn false H ⟨rfl, rfl, trivial⟩
              ·
                refine w_gif (d := 190) H rfl (fun H => ?_) (fun H => ?_)
                ·
                  refine w_p tok rfl rfl rfl ?_
                  refine w_call rlog_Log_Cut_ok (rlog_Log_Cut_ref _ _ _ _ H) rfl rfl rfl rfl ?_
                  rintro _ h79 ⟨r78, rfl, H⟩
                  refine w_p tok rfl rfl rfl ?_
                  refine w_p tok rfl rfl rfl ?_
                  exact w_jn (r78 == 1) H ⟨rfl, rfl, trivial⟩
                ·
                  refine w_skip rfl rfl ?_
                  refine w_skip rfl rfl ?_
                  refine w_skip rfl rfl ?_
                  refine w_p tok rfl rfl rfl ?_
                  exact w_jn false H ⟨rfl, rfl, trivial⟩
        ·
          refine w_gs (d := 79) rfl (fun hb => ?_) (fun hb => ?_)
          ·
            refine w_p tok rfl rfl rfl ?_
            refine w_p tok rfl rfl rfl ?_
            refine w_p tok rfl rfl rfl ?_
            refine w_p tok rfl rfl rfl ?_
            refine w_jn () rfl ⟨?_, rfl, rfl, rfl, rfl, trivial⟩
            exact congrArg (fun b => some (Value.bool b)) (and_t hb)
          ·
            refine w_skip rfl rfl ?_
            refine w_skip rfl rfl ?_
            refine w_skip rfl rfl ?_
            refine w_p tok rfl rfl rfl ?_
            refine w_jn () rfl ⟨?_, rfl, rfl, rfl, rfl, trivial⟩
            exact congrArg (fun b => some (Value.bool b)) (and_f hb)
  ·
    refine w_gs (d := 26) rfl (fun hb => ?_) (fun hb => ?_)
    ·
      refine w_skip rfl rfl ?_
      refine w_skip rfl rfl ?_
      refine w_skip rfl rfl ?_
      refine w_p tok rfl rfl rfl ?_
      refine w_jn () rfl ⟨?_, rfl, rfl, trivial⟩
      exact congrArg (fun b => some (Value.bool b)) (or_t hb)
    ·
      refine w_p tok rfl rfl rfl ?_
      refine w_p tok rfl rfl rfl ?_
      refine w_p tok rfl rfl rfl ?_
      refine w_p tok rfl rfl rfl ?_
      refine w_jn () rfl ⟨?_, rfl, rfl, trivial⟩
      exact congrArg (fun b => some (Value.bool b)) (or_f hb)

end Go.Q.Ya
