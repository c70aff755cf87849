/- A part of the proof of statements of this seat: lemmas, no statement of their own. -/
import Derived.Test.YtgldbcbnficihaaYaRlog
set_option linter.unusedVariables false
set_option maxRecDepth 100000
set_option maxHeartbeats 1000000
namespace Go.Q.Ya
theorem law23_RlogPlays_ok : CallOk Go.Proofs.Try.prog 8 := ⟨_, Go.Proofs.Try.func8, by kernel_rfl, by kernel_rfl⟩
theorem law23_RlogPlays_ref (p0 : Int) (p1 : Int) (p2 : Slc) (p3 : Slc) (p4 : Int) (p5 : Int) (k : (Bool) → Heap → Prop) (h : Heap) (H : law23_RlogPlays p0 p1 p2 p3 p4 p5 k h) : CallsH Go.Proofs.Try.prog 8 #[.int .u64 p0, .int .u64 p1, Slc.v p2, Slc.v p3, .int .u64 p4, .int .i64 p5] h (fun v h' => ∃ r : Bool, v = .bool r ∧ k r h') := by
  refine f_enter (N := 261) Go.Proofs.Try.func8 rfl rfl rfl (fun w0 => ?_)
  unfold law23_RlogPlays at H
  refine c_weak [(0, .int .u64 p0), (1, .int .u64 p1), (2, Slc.v p2), (3, Slc.v p3), (4, .int .u64 p4), (5, .int .i64 p5)] ⟨rfl, rfl, rfl, rfl, rfl, rfl, trivial⟩ ?_
  refine c_seq ?_
  refine c_region ?_
  refine w_p tok rfl rfl rfl ?_
  refine w_end ?_
  refine x_seq ?_
  refine c_seq ?_
  refine c_seq ?_
  refine c_region ?_
  refine w_p tok rfl rfl rfl ?_
  refine w_call ref23_Great_ok (ref23_Great_ref _ _ _ H) rfl rfl rfl rfl ?_
  rintro _ h2 ⟨r1, rfl, H⟩
  refine w_p tok rfl rfl rfl ?_
  refine w_cutU 3 [(41, .bool (r1 || (decide (p0 > 1152921504606846976)))), (0, .int .u64 p0), (1, .int .u64 p1), (2, Slc.v p2), (3, Slc.v p3), (4, .int .u64 p4), (5, .int .i64 p5)] ?_ ?_
  ·
    refine w_p tok rfl rfl rfl ?_
    refine w_cutU 3 [(45, .bool ((r1 || (decide (p0 > 1152921504606846976))) || (decide (p4 > 2305843009213693952)))), (0, .int .u64 p0), (1, .int .u64 p1), (2, Slc.v p2), (3, Slc.v p3), (4, .int .u64 p4), (5, .int .i64 p5)] ?_ ?_
    ·
      refine w_end ?_
      refine x_seq ?_
      refine c_if H rfl (fun H => ?_) (fun H => ?_)
      ·
        refine c_seq ?_
        refine c_region ?_
        refine w_call law23_awake_ok (law23_awake_ref  _ _ H) rfl rfl rfl rfl ?_
        rintro _ h4 ⟨r3, rfl, H⟩
        refine w_p tok rfl rfl rfl ?_
        refine w_end ?_
        refine x_seq ?_
        refine c_weak [(12, .bool r3)] ⟨rfl, trivial⟩ ?_
        refine c_ret ?_
        refine x_tr ?_
        exact x_ret _ rfl _ rfl ⟨r3, rfl, H⟩
      ·
        refine c_skip ?_
        refine x_seq ?_
        refine c_seq ?_
        refine c_seq ?_
        refine c_region ?_
        refine w_p tok rfl rfl rfl ?_
        refine w_end ?_
        refine x_seq ?_
        refine c_block ?_
        obtain ⟨I1, μ1, H0, HI⟩ := H
        refine c_loop (σ := Int) (fun (s : Int) => [(13, .int .i64 s), (0, .int .u64 p0), (1, .int .u64 p1), (2, Slc.v p2), (3, Slc.v p3), (4, .int .u64 p4), (5, .int .i64 p5)]) I1 μ1 0 H0 ⟨rfl, rfl, rfl, rfl, rfl, rfl, rfl, trivial⟩ ?_
        rintro t13_1 h_1 H
        replace H := HI t13_1 h_1 H
        unfold law23_RlogPlays_l1b at H
        refine c_weak [(13, .int .i64 t13_1), (0, .int .u64 p0), (1, .int .u64 p1), (2, Slc.v p2), (3, Slc.v p3), (4, .int .u64 p4), (5, .int .i64 p5)] ⟨rfl, rfl, rfl, rfl, rfl, rfl, rfl, trivial⟩ ?_
        refine c_seq ?_
        refine c_seq ?_
        refine c_region ?_
        refine w_p tok rfl rfl rfl ?_
        refine w_p tok rfl rfl rfl ?_
        refine w_p tok rfl rfl rfl ?_
        refine w_p tok rfl rfl rfl ?_
        refine w_p tok rfl rfl rfl ?_
        refine w_cutU 3 [(54, .bool ((decide (t13_1 < (p3.len : Int))) && (decide (t13_1 < 20)))), (0, .int .u64 p0), (1, .int .u64 p1), (2, Slc.v p2), (3, Slc.v p3), (4, .int .u64 p4), (5, .int .i64 p5), (13, .int .i64 t13_1)] ?_ ?_
        ·
          refine w_end ?_
          refine x_seq ?_
          refine c_if H rfl (fun H => ?_) (fun H => ?_)
          ·
            refine c_skip ?_
            refine x_seq ?_
            refine c_seq ?_
            refine c_block ?_
            refine c_seq ?_
            refine c_region ?_
            refine w_p tok rfl rfl rfl ?_
            refine w_p tok rfl rfl rfl ?_
            obtain ⟨a5, ha5, la5, ua5, H⟩ := H
            refine w_y (y_ixa' tok rfl rfl ha5 rfl rfl rfl la5 ua5) rfl rfl ?_
            refine w_p tok rfl rfl rfl ?_
            obtain ⟨v6, hv6, H⟩ := H
            refine w_y (y_ld tok rfl rfl rfl rfl hv6) rfl rfl ?_
            refine w_call ref23_Great_ok (ref23_Great_ref _ _ _ H) rfl rfl rfl rfl ?_
            rintro _ h8 ⟨r7, rfl, H⟩
            refine w_p tok rfl rfl rfl ?_
            refine w_cut 7 (α := Bool) (fun (s : Bool) => [(70, .bool s), (0, .int .u64 p0), (1, .int .u64 p1), (2, Slc.v p2), (3, Slc.v p3), (4, .int .u64 p4), (5, .int .i64 p5), (13, .int .i64 t13_1)]) (fun (s : Bool) h => law23_RlogPlays_g2 p0 p1 p2 p3 p4 p5 t13_1 s k (fun s h' => I1 s h' ∧ μ1 s h' < μ1 t13_1 h_1) h) ?_ ?_
            ·
              rintro t70_2 h_2 H
              replace H : law23_RlogPlays_g2 p0 p1 p2 p3 p4 p5 t13_1 t70_2 k (fun s h' => I1 s h' ∧ μ1 s h' < μ1 t13_1 h_1) h_2 := H
              unfold law23_RlogPlays_g2 at H
              refine w_weak [(70, .bool t70_2), (0, .int .u64 p0), (1, .int .u64 p1), (2, Slc.v p2), (3, Slc.v p3), (4, .int .u64 p4), (5, .int .i64 p5), (13, .int .i64 t13_1)] ⟨rfl, rfl, rfl, rfl, rfl, rfl, rfl, rfl, trivial⟩ ?_
              refine w_end ?_
              refine x_seq ?_
              refine c_if H rfl (fun H => ?_) (fun H => ?_)
              ·
                refine c_seq ?_
                refine c_region ?_
                refine w_call law23_awake_ok (law23_awake_ref  _ _ H) rfl rfl rfl rfl ?_
                rintro _ h10 ⟨r9, rfl, H⟩
                refine w_p tok rfl rfl rfl ?_
                refine w_end ?_
                refine x_seq ?_
                refine c_weak [(12, .bool r9)] ⟨rfl, trivial⟩ ?_
                refine c_ret ?_
                refine x_br ?_
                refine x_tr ?_
                refine x_tr ?_
                refine x_br ?_
                refine x_tr ?_
                exact x_ret _ rfl _ rfl ⟨r9, rfl, H⟩
              ·
                refine c_skip ?_
                refine x_blk ?_
                refine x_seq ?_
                refine c_region ?_
                refine w_p tok rfl rfl rfl ?_
                refine w_p tok rfl rfl rfl ?_
                obtain ⟨x11, ex11, H⟩ := H
                refine w_pe tok rfl (congrArg (fun z => (.int .i64 z : Value)) ex11) rfl rfl ?_
                refine w_end ?_
                exact x_join x11 H ⟨rfl, rfl, rfl, rfl, rfl, rfl, rfl, trivial⟩
            ·
              refine w_gif (d := 63) H rfl (fun H => ?_) (fun H => ?_)
              ·
                refine w_skip rfl rfl ?_
                refine w_skip rfl rfl ?_
                refine w_skip rfl rfl ?_
                refine w_skip rfl rfl ?_
                refine w_skip rfl rfl ?_
                refine w_skip rfl rfl ?_
                refine w_p tok rfl rfl rfl ?_
                exact w_jn true H ⟨rfl, rfl, rfl, rfl, rfl, rfl, rfl, rfl, trivial⟩
              ·
                refine w_p tok rfl rfl rfl ?_
                refine w_p tok rfl rfl rfl ?_
                obtain ⟨a12, ha12, la12, ua12, H⟩ := H
                refine w_y (y_ixa' tok rfl rfl ha12 rfl rfl rfl la12 ua12) rfl rfl ?_
                refine w_p tok rfl rfl rfl ?_
                obtain ⟨v13, hv13, H⟩ := H
                refine w_y (y_ld tok rfl rfl rfl rfl hv13) rfl rfl ?_
                refine w_p tok rfl rfl rfl ?_
                refine w_p tok rfl rfl rfl ?_
                exact w_jn (decide (v13 > 2305843009213693952)) H ⟨rfl, rfl, rfl, rfl, rfl, rfl, rfl, rfl, trivial⟩
          ·
            refine c_exit ?_
            refine x_te ?_
            refine x_te ?_
            refine x_bh ?_
            refine x_seq ?_
            refine c_seq ?_
            refine c_region ?_
            refine w_p tok rfl rfl rfl ?_
            refine w_p tok rfl rfl rfl ?_
            refine w_p tok rfl rfl rfl ?_
            refine w_call rlog_New_ok (rlog_New_ref _ _ _ _ _ H) rfl rfl rfl rfl ?_
            rintro _ h15 ⟨r14, rfl, H⟩
            refine w_p tok rfl rfl rfl ?_
            refine w_p tok rfl rfl rfl ?_
            refine w_p tok rfl rfl rfl ?_
            refine w_y (y_build tok rfl rfl rfl rfl rfl) rfl rfl ?_
            obtain ⟨b16, h17, eb16, eh17, H⟩ := H
            refine w_h (h_box rfl rfl eb16 eh17) rfl rfl ?_
            refine w_p tok rfl rfl rfl ?_
            refine w_p tok rfl rfl rfl ?_
            refine w_end ?_
            refine x_seq ?_
            refine c_weak [(1, .int .u64 p1), (3, Slc.v p3), (4, .int .u64 p4), (5, .int .i64 p5), (14, .pointer r14), (15, .pointer (some (⟨b16, 0, none⟩ : Addr)))] ⟨rfl, rfl, rfl, rfl, rfl, rfl, trivial⟩ ?_
            refine c_seq ?_
            refine c_seq ?_
            refine c_region ?_
            refine w_p tok rfl rfl rfl ?_
            refine w_end ?_
            refine x_seq ?_
            refine c_block ?_
            obtain ⟨I3, μ3, H0, HI⟩ := H
            refine c_loop (σ := Int) (fun (s : Int) => [(16, .int .i64 s), (1, .int .u64 p1), (3, Slc.v p3), (4, .int .u64 p4), (5, .int .i64 p5), (14, .pointer r14), (15, .pointer (some (⟨b16, 0, none⟩ : Addr)))]) I3 μ3 0 H0 ⟨rfl, rfl, rfl, rfl, rfl, rfl, rfl, trivial⟩ ?_
            rintro t16_3 h_3 H
            replace H := HI t16_3 h_3 H
            unfold law23_RlogPlays_l3b at H
            refine c_weak [(16, .int .i64 t16_3), (1, .int .u64 p1), (3, Slc.v p3), (4, .int .u64 p4), (5, .int .i64 p5), (14, .pointer r14), (15, .pointer (some (⟨b16, 0, none⟩ : Addr)))] ⟨rfl, rfl, rfl, rfl, rfl, rfl, rfl, trivial⟩ ?_
            refine c_seq ?_
            refine c_seq ?_
            refine c_region ?_
            refine w_p tok rfl rfl rfl ?_
            refine w_p tok rfl rfl rfl ?_
            refine w_p tok rfl rfl rfl ?_
            refine w_p tok rfl rfl rfl ?_
            refine w_p tok rfl rfl rfl ?_
            refine w_cutU 3 [(88, .bool ((decide (t16_3 ≤ (p3.len : Int))) && (decide (t16_3 ≤ 20)))), (1, .int .u64 p1), (3, Slc.v p3), (4, .int .u64 p4), (5, .int .i64 p5), (14, .pointer r14), (15, .pointer (some (⟨b16, 0, none⟩ : Addr))), (16, .int .i64 t16_3)] ?_ ?_
            ·
              refine w_end ?_
              refine x_seq ?_
              refine c_if H rfl (fun H => ?_) (fun H => ?_)
              ·
                refine c_skip ?_
                refine x_seq ?_
                refine c_seq ?_
                refine c_block ?_
                refine c_seqJ (α := Unit) (fun (s : Unit) => [(1, .int .u64 p1), (3, Slc.v p3), (4, .int .u64 p4), (5, .int .i64 p5), (14, .pointer r14), (15, .pointer (some (⟨b16, 0, none⟩ : Addr))), (16, .int .i64 t16_3)]) (fun (s : Unit) h => law23_RlogPlays_j4 p1 p3 p4 p5 r14 (⟨b16, 0, none⟩ : Addr) t16_3 k (fun s h' => I1 s h' ∧ μ1 s h' < μ1 t13_1 h_1) (fun s h' => I3 s h' ∧ μ3 s h' < μ3 t16_3 h_3) h) ?_ ?_
                ·
                  rintro _ h_4 H
                  replace H : law23_RlogPlays_j4 p1 p3 p4 p5 r14 (⟨b16, 0, none⟩ : Addr) t16_3 k (fun s h' => I1 s h' ∧ μ1 s h' < μ1 t13_1 h_1) (fun s h' => I3 s h' ∧ μ3 s h' < μ3 t16_3 h_3) h_4 := H
                  unfold law23_RlogPlays_j4 at H
                  refine c_weak [(1, .int .u64 p1), (3, Slc.v p3), (4, .int .u64 p4), (5, .int .i64 p5), (14, .pointer r14), (15, .pointer (some (⟨b16, 0, none⟩ : Addr))), (16, .int .i64 t16_3)] ⟨rfl, rfl, rfl, rfl, rfl, rfl, rfl, trivial⟩ ?_
                  refine c_seq ?_
                  refine c_region ?_
                  refine w_p tok rfl rfl rfl ?_
                  refine w_call rlog_Log_Base_ok (rlog_Log_Base_ref _ _ _ H) rfl rfl rfl rfl ?_
                  rintro _ h19 ⟨r18, rfl, H⟩
                  refine w_p tok rfl rfl rfl ?_
                  refine w_p tok rfl rfl rfl ?_
                  refine w_p tok rfl rfl rfl ?_
                  refine w_p tok rfl rfl rfl ?_
                  refine w_p tok rfl rfl rfl ?_
                  refine w_end ?_
                  refine x_seq ?_
                  refine c_seq ?_
                  refine c_region ?_
                  refine w_p tok rfl rfl rfl ?_
                  refine w_call rlog_Log_Last_ok (rlog_Log_Last_ref _ _ _ H) rfl rfl rfl rfl ?_
                  rintro _ h21 ⟨r20, rfl, H⟩
                  refine w_p tok rfl rfl rfl ?_
                  refine w_p tok rfl rfl rfl ?_
                  refine w_p tok rfl rfl rfl ?_
                  refine w_p tok rfl rfl rfl ?_
                  refine w_p tok rfl rfl rfl ?_
                  refine w_end ?_
                  refine x_seq ?_
                  refine c_weak [(1, .int .u64 p1), (3, Slc.v p3), (4, .int .u64 p4), (5, .int .i64 p5), (14, .pointer r14), (15, .pointer (some (⟨b16, 0, none⟩ : Addr))), (16, .int .i64 t16_3), (22, .int .u64 r18.1), (23, .int .u64 r18.2), (24, .int .u64 r20.1), (25, .int .u64 r20.2)] ⟨rfl, rfl, rfl, rfl, rfl, rfl, rfl, rfl, rfl, rfl, rfl, trivial⟩ ?_
                  refine c_seq ?_
                  refine c_region ?_
                  refine w_p tok rfl rfl rfl ?_
                  refine w_call ref23_Log_Last_ok (ref23_Log_Last_ref _ _ _ H) rfl rfl rfl rfl ?_
                  rintro _ h23 ⟨r22, rfl, H⟩
                  refine w_p tok rfl rfl rfl ?_
                  refine w_p tok rfl rfl rfl ?_
                  refine w_p tok rfl rfl rfl ?_
                  refine w_p tok rfl rfl rfl ?_
                  refine w_p tok rfl rfl rfl ?_
                  refine w_end ?_
                  refine x_seq ?_
                  refine c_seq ?_
                  refine c_seqJ (α := Bool) (fun (s : Bool) => [(189, .bool s), (1, .int .u64 p1), (3, Slc.v p3), (4, .int .u64 p4), (5, .int .i64 p5), (14, .pointer r14), (15, .pointer (some (⟨b16, 0, none⟩ : Addr))), (16, .int .i64 t16_3)]) (fun (s : Bool) h => law23_RlogPlays_j5 p1 p3 p4 p5 r14 (⟨b16, 0, none⟩ : Addr) t16_3 s k (fun s h' => I1 s h' ∧ μ1 s h' < μ1 t13_1 h_1) (fun s h' => I3 s h' ∧ μ3 s h' < μ3 t16_3 h_3) h) ?_ ?_
                  ·
                    rintro t189_5 h_5 H
                    replace H : law23_RlogPlays_j5 p1 p3 p4 p5 r14 (⟨b16, 0, none⟩ : Addr) t16_3 t189_5 k (fun s h' => I1 s h' ∧ μ1 s h' < μ1 t13_1 h_1) (fun s h' => I3 s h' ∧ μ3 s h' < μ3 t16_3 h_3) h_5 := H
                    unfold law23_RlogPlays_j5 at H
                    refine c_weak [(189, .bool t189_5), (1, .int .u64 p1), (3, Slc.v p3), (4, .int .u64 p4), (5, .int .i64 p5), (14, .pointer r14), (15, .pointer (some (⟨b16, 0, none⟩ : Addr))), (16, .int .i64 t16_3)] ⟨rfl, rfl, rfl, rfl, rfl, rfl, rfl, rfl, trivial⟩ ?_
                    refine c_if H rfl (fun H => ?_) (fun H => ?_)
                    ·
                      refine c_seq ?_
                      refine c_region ?_
                      refine w_p tok rfl rfl rfl ?_
                      refine w_end ?_
                      refine x_seq ?_
                      refine c_weak [(12, .bool false)] ⟨rfl, trivial⟩ ?_
                      refine c_ret ?_
                      refine x_tr ?_
                      refine x_br ?_
                      refine x_tr ?_
                      refine x_tr ?_
                      refine x_br ?_
                      refine x_tr ?_
                      exact x_ret _ rfl _ rfl ⟨false, rfl, H⟩
                    ·
                      refine c_skip ?_
                      refine x_seq ?_
                      refine c_seq ?_
                      refine c_region ?_
                      refine w_p tok rfl rfl rfl ?_
                      refine w_p tok rfl rfl rfl ?_
                      refine w_call rlog_Log_Term_ok (rlog_Log_Term_ref _ _ _ _ H) rfl rfl rfl rfl ?_
                      rintro _ h25 ⟨r24, rfl, H⟩
                      refine w_p tok rfl rfl rfl ?_
                      refine w_p tok rfl rfl rfl ?_
                      refine w_p tok rfl rfl rfl ?_
                      refine w_p tok rfl rfl rfl ?_
                      refine w_p tok rfl rfl rfl ?_
                      refine w_end ?_
                      refine x_seq ?_
                      refine c_weak [(1, .int .u64 p1), (3, Slc.v p3), (4, .int .u64 p4), (5, .int .i64 p5), (14, .pointer r14), (15, .pointer (some (⟨b16, 0, none⟩ : Addr))), (16, .int .i64 t16_3), (28, .int .u64 r24.1), (29, .int .i64 r24.2)] ⟨rfl, rfl, rfl, rfl, rfl, rfl, rfl, rfl, rfl, trivial⟩ ?_
                      refine c_seq ?_
                      refine c_region ?_
                      refine w_p tok rfl rfl rfl ?_
                      refine w_p tok rfl rfl rfl ?_
                      refine w_call ref23_Log_TermOf_ok (ref23_Log_TermOf_ref _ _ _ _ H) rfl rfl rfl rfl ?_
                      rintro _ h27 ⟨r26, rfl, H⟩
                      refine w_p tok rfl rfl rfl ?_
                      refine w_p tok rfl rfl rfl ?_
                      refine w_p tok rfl rfl rfl ?_
                      refine w_p tok rfl rfl rfl ?_
                      refine w_p tok rfl rfl rfl ?_
                      refine w_end ?_
                      refine x_seq ?_
                      refine c_seq ?_
                      refine c_region ?_
                      refine w_p tok rfl rfl rfl ?_
                      refine w_p tok rfl rfl rfl ?_
                      refine w_p tok rfl rfl rfl ?_
                      refine w_call rlog_Log_From_ok (rlog_Log_From_ref _ _ _ _ _ H) rfl rfl rfl rfl ?_
                      rintro _ h29 ⟨r28, rfl, H⟩
                      refine w_p tok rfl rfl rfl ?_
                      refine w_p tok rfl rfl rfl ?_
                      refine w_p tok rfl rfl rfl ?_
                      refine w_p tok rfl rfl rfl ?_
                      refine w_p tok rfl rfl rfl ?_
                      refine w_end ?_
                      refine x_seq ?_
                      refine c_weak [(1, .int .u64 p1), (3, Slc.v p3), (4, .int .u64 p4), (5, .int .i64 p5), (14, .pointer r14), (15, .pointer (some (⟨b16, 0, none⟩ : Addr))), (16, .int .i64 t16_3), (28, .int .u64 r24.1), (29, .int .i64 r24.2), (30, .int .u64 r26.1), (31, .int .i64 r26.2), (32, Slc.v r28.1), (33, .int .i64 r28.2)] ⟨rfl, rfl, rfl, rfl, rfl, rfl, rfl, rfl, rfl, rfl, rfl, rfl, rfl, trivial⟩ ?_
                      refine c_seq ?_
                      refine c_region ?_
                      refine w_p tok rfl rfl rfl ?_
                      refine w_p tok rfl rfl rfl ?_
                      refine w_p tok rfl rfl rfl ?_
                      refine w_call ref23_Log_From_ok (ref23_Log_From_ref _ _ _ _ _ H) rfl rfl rfl rfl ?_
                      rintro _ h31 ⟨r30, rfl, H⟩
                      refine w_p tok rfl rfl rfl ?_
                      refine w_p tok rfl rfl rfl ?_
                      refine w_p tok rfl rfl rfl ?_
                      refine w_p tok rfl rfl rfl ?_
                      refine w_p tok rfl rfl rfl ?_
                      refine w_end ?_
                      refine x_seq ?_
                      refine c_weak [(1, .int .u64 p1), (3, Slc.v p3), (4, .int .u64 p4), (5, .int .i64 p5), (14, .pointer r14), (15, .pointer (some (⟨b16, 0, none⟩ : Addr))), (16, .int .i64 t16_3), (28, .int .u64 r24.1), (29, .int .i64 r24.2), (30, .int .u64 r26.1), (31, .int .i64 r26.2), (32, Slc.v r28.1), (33, .int .i64 r28.2), (34, Slc.v r30.1), (35, .int .i64 r30.2)] ⟨rfl, rfl, rfl, rfl, rfl, rfl, rfl, rfl, rfl, rfl, rfl, rfl, rfl, rfl, rfl, trivial⟩ ?_
                      refine c_seq ?_
                      refine c_region ?_
                      refine w_p tok rfl rfl rfl ?_
                      refine w_p tok rfl rfl rfl ?_
                      refine w_p tok rfl rfl rfl ?_
                      refine w_p tok rfl rfl rfl ?_
                      refine w_cutU 4 [(223, .bool ((r24.1 != r26.1) || (r24.2 != r26.2))), (1, .int .u64 p1), (3, Slc.v p3), (4, .int .u64 p4), (5, .int .i64 p5), (14, .pointer r14), (15, .pointer (some (⟨b16, 0, none⟩ : Addr))), (16, .int .i64 t16_3), (30, .int .u64 r26.1), (31, .int .i64 r26.2), (32, Slc.v r28.1), (33, .int .i64 r28.2), (34, Slc.v r30.1), (35, .int .i64 r30.2)] ?_ ?_
                      ·
                        refine w_p tok rfl rfl rfl ?_
                        refine w_cutU 4 [(228, .bool (((r24.1 != r26.1) || (r24.2 != r26.2)) || (r28.2 != r30.2))), (1, .int .u64 p1), (3, Slc.v p3), (4, .int .u64 p4), (5, .int .i64 p5), (14, .pointer r14), (15, .pointer (some (⟨b16, 0, none⟩ : Addr))), (16, .int .i64 t16_3), (30, .int .u64 r26.1), (31, .int .i64 r26.2), (32, Slc.v r28.1), (34, Slc.v r30.1)] ?_ ?_
                        ·
                          refine w_p tok rfl rfl rfl ?_
                          refine w_cut 5 (α := Bool) (fun (s : Bool) => [(234, .bool s), (1, .int .u64 p1), (3, Slc.v p3), (4, .int .u64 p4), (5, .int .i64 p5), (14, .pointer r14), (15, .pointer (some (⟨b16, 0, none⟩ : Addr))), (16, .int .i64 t16_3), (30, .int .u64 r26.1), (31, .int .i64 r26.2)]) (fun (s : Bool) h => law23_RlogPlays_g6 p1 p3 p4 p5 r14 (⟨b16, 0, none⟩ : Addr) t16_3 r26.1 r26.2 s k (fun s h' => I1 s h' ∧ μ1 s h' < μ1 t13_1 h_1) (fun s h' => I3 s h' ∧ μ3 s h' < μ3 t16_3 h_3) h) ?_ ?_
                          ·
                            rintro t234_6 h_6 H
                            replace H : law23_RlogPlays_g6 p1 p3 p4 p5 r14 (⟨b16, 0, none⟩ : Addr) t16_3 r26.1 r26.2 t234_6 k (fun s h' => I1 s h' ∧ μ1 s h' < μ1 t13_1 h_1) (fun s h' => I3 s h' ∧ μ3 s h' < μ3 t16_3 h_3) h_6 := H
                            unfold law23_RlogPlays_g6 at H
                            refine w_weak [(234, .bool t234_6), (1, .int .u64 p1), (3, Slc.v p3), (4, .int .u64 p4), (5, .int .i64 p5), (14, .pointer r14), (15, .pointer (some (⟨b16, 0, none⟩ : Addr))), (16, .int .i64 t16_3), (30, .int .u64 r26.1), (31, .int .i64 r26.2)] ⟨rfl, rfl, rfl, rfl, rfl, rfl, rfl, rfl, rfl, rfl, trivial⟩ ?_
                            refine w_p tok rfl rfl rfl ?_
                            refine w_cut 10 (α := Bool) (fun (s : Bool) => [(245, .bool s), (1, .int .u64 p1), (3, Slc.v p3), (4, .int .u64 p4), (5, .int .i64 p5), (14, .pointer r14), (15, .pointer (some (⟨b16, 0, none⟩ : Addr))), (16, .int .i64 t16_3), (30, .int .u64 r26.1), (31, .int .i64 r26.2)]) (fun (s : Bool) h => law23_RlogPlays_g7 p1 p3 p4 p5 r14 (⟨b16, 0, none⟩ : Addr) t16_3 r26.1 r26.2 s k (fun s h' => I1 s h' ∧ μ1 s h' < μ1 t13_1 h_1) (fun s h' => I3 s h' ∧ μ3 s h' < μ3 t16_3 h_3) h) ?_ ?_
                            ·
                              rintro t245_7 h_7 H
                              replace H : law23_RlogPlays_g7 p1 p3 p4 p5 r14 (⟨b16, 0, none⟩ : Addr) t16_3 r26.1 r26.2 t245_7 k (fun s h' => I1 s h' ∧ μ1 s h' < μ1 t13_1 h_1) (fun s h' => I3 s h' ∧ μ3 s h' < μ3 t16_3 h_3) h_7 := H
                              unfold law23_RlogPlays_g7 at H
                              refine w_weak [(245, .bool t245_7), (1, .int .u64 p1), (3, Slc.v p3), (4, .int .u64 p4), (5, .int .i64 p5), (14, .pointer r14), (15, .pointer (some (⟨b16, 0, none⟩ : Addr))), (16, .int .i64 t16_3), (30, .int .u64 r26.1), (31, .int .i64 r26.2)] ⟨rfl, rfl, rfl, rfl, rfl, rfl, rfl, rfl, rfl, rfl, trivial⟩ ?_
                              refine w_p tok rfl rfl rfl ?_
                              refine w_cut 13 (α := Bool) (fun (s : Bool) => [(259, .bool s), (1, .int .u64 p1), (3, Slc.v p3), (4, .int .u64 p4), (5, .int .i64 p5), (14, .pointer r14), (15, .pointer (some (⟨b16, 0, none⟩ : Addr))), (16, .int .i64 t16_3)]) (fun (s : Bool) h => law23_RlogPlays_g8 p1 p3 p4 p5 r14 (⟨b16, 0, none⟩ : Addr) t16_3 s k (fun s h' => I1 s h' ∧ μ1 s h' < μ1 t13_1 h_1) (fun s h' => I3 s h' ∧ μ3 s h' < μ3 t16_3 h_3) h) ?_ ?_
                              ·
                                rintro t259_8 h_8 H
                                replace H : law23_RlogPlays_g8 p1 p3 p4 p5 r14 (⟨b16, 0, none⟩ : Addr) t16_3 t259_8 k (fun s h' => I1 s h' ∧ μ1 s h' < μ1 t13_1 h_1) (fun s h' => I3 s h' ∧ μ3 s h' < μ3 t16_3 h_3) h_8 := H
                                unfold law23_RlogPlays_g8 at H
                                refine w_weak [(259, .bool t259_8), (1, .int .u64 p1), (3, Slc.v p3), (4, .int .u64 p4), (5, .int .i64 p5), (14, .pointer r14), (15, .pointer (some (⟨b16, 0, none⟩ : Addr))), (16, .int .i64 t16_3)] ⟨rfl, rfl, rfl, rfl, rfl, rfl, rfl, rfl, trivial⟩ ?_
                                refine w_end ?_
                                refine x_seq ?_
                                refine c_if H rfl (fun H => ?_) (fun H => ?_)
                                ·
                                  refine c_seq ?_
                                  refine c_region ?_
                                  refine w_p tok rfl rfl rfl ?_
                                  refine w_end ?_
                                  refine x_seq ?_
                                  refine c_weak [(12, .bool false)] ⟨rfl, trivial⟩ ?_
                                  refine c_ret ?_
                                  refine x_br ?_
                                  refine x_tr ?_
                                  refine x_tr ?_
                                  refine x_br ?_
                                  refine x_tr ?_
                                  exact x_ret _ rfl _ rfl ⟨false, rfl, H⟩
                                ·
                                  refine c_skip ?_
                                  refine x_blk ?_
                                  refine x_seq ?_
                                  refine c_region ?_
                                  refine w_p tok rfl rfl rfl ?_
                                  refine w_p tok rfl rfl rfl ?_
                                  obtain ⟨x32, ex32, H⟩ := H
                                  refine w_pe tok rfl (congrArg (fun z => (.int .i64 z : Value)) ex32) rfl rfl ?_
                                  refine w_end ?_
                                  exact x_join x32 H ⟨rfl, rfl, rfl, rfl, rfl, rfl, rfl, trivial⟩
                              ·
                                refine w_gif (d := 246) H rfl (fun H => ?_) (fun H => ?_)
                                ·
                                  refine w_skip rfl rfl ?_
                                  refine w_skip rfl rfl ?_
                                  refine w_skip rfl rfl ?_
                                  refine w_skip rfl rfl ?_
                                  refine w_skip rfl rfl ?_
                                  refine w_skip rfl rfl ?_
                                  refine w_skip rfl rfl ?_
                                  refine w_skip rfl rfl ?_
                                  refine w_skip rfl rfl ?_
                                  refine w_skip rfl rfl ?_
                                  refine w_skip rfl rfl ?_
                                  refine w_skip rfl rfl ?_
                                  refine w_p tok rfl rfl rfl ?_
                                  exact w_jn true H ⟨rfl, rfl, rfl, rfl, rfl, rfl, rfl, rfl, trivial⟩
                                ·
                                  refine w_p tok rfl rfl rfl ?_
                                  refine w_p tok rfl rfl rfl ?_
                                  refine w_p tok rfl rfl rfl ?_
                                  refine w_call rlog_Log_Match_ok (rlog_Log_Match_ref _ _ _ _ _ H) rfl rfl rfl rfl ?_
                                  rintro _ h34 ⟨r33, rfl, H⟩
                                  refine w_p tok rfl rfl rfl ?_
                                  refine w_p tok rfl rfl rfl ?_
                                  refine w_p tok rfl rfl rfl ?_
                                  refine w_cutU 4 [(257, .bool ((r26.2 == 0) && (r26.1 == p1))), (1, .int .u64 p1), (3, Slc.v p3), (4, .int .u64 p4), (5, .int .i64 p5), (14, .pointer r14), (15, .pointer (some (⟨b16, 0, none⟩ : Addr))), (16, .int .i64 t16_3), (246, .bool false), (250, .bool r33)] ?_ ?_
                                  ·
                                    refine w_p tok rfl rfl rfl ?_
                                    refine w_p tok rfl rfl rfl ?_
                                    exact w_jn (!(r33 == ((r26.2 == 0) && (r26.1 == p1)))) H ⟨rfl, rfl, rfl, rfl, rfl, rfl, rfl, rfl, trivial⟩
                                  ·
                                    refine w_gs (d := 253) rfl (fun hb => ?_) (fun hb => ?_)
                                    ·
                                      refine w_p tok rfl rfl rfl ?_
                                      refine w_p tok rfl rfl rfl ?_
                                      refine w_p tok rfl rfl rfl ?_
                                      refine w_p tok rfl rfl rfl ?_
                                      refine w_jn () rfl ⟨?_, rfl, rfl, rfl, rfl, rfl, rfl, rfl, rfl, rfl, trivial⟩
                                      exact congrArg (fun b => some (Value.bool b)) (and_t hb)
                                    ·
                                      refine w_skip rfl rfl ?_
                                      refine w_skip rfl rfl ?_
                                      refine w_skip rfl rfl ?_
                                      refine w_p tok rfl rfl rfl ?_
                                      refine w_jn () rfl ⟨?_, rfl, rfl, rfl, rfl, rfl, rfl, rfl, rfl, rfl, trivial⟩
                                      exact congrArg (fun b => some (Value.bool b)) (and_f hb)
                            ·
                              refine w_gif (d := 235) H rfl (fun H => ?_) (fun H => ?_)
                              ·
                                refine w_skip rfl rfl ?_
                                refine w_skip rfl rfl ?_
                                refine w_skip rfl rfl ?_
                                refine w_skip rfl rfl ?_
                                refine w_skip rfl rfl ?_
                                refine w_skip rfl rfl ?_
                                refine w_skip rfl rfl ?_
                                refine w_skip rfl rfl ?_
                                refine w_skip rfl rfl ?_
                                refine w_p tok rfl rfl rfl ?_
                                exact w_jn true H ⟨rfl, rfl, rfl, rfl, rfl, rfl, rfl, rfl, rfl, rfl, trivial⟩
                              ·
                                refine w_p tok rfl rfl rfl ?_
                                refine w_p tok rfl rfl rfl ?_
                                refine w_p tok rfl rfl rfl ?_
                                refine w_call rlog_Log_Newer_ok (rlog_Log_Newer_ref _ _ _ _ _ H) rfl rfl rfl rfl ?_
                                rintro _ h36 ⟨r35, rfl, H⟩
                                refine w_p tok rfl rfl rfl ?_
                                refine w_p tok rfl rfl rfl ?_
                                refine w_p tok rfl rfl rfl ?_
                                refine w_call ref23_Log_Newer_ok (ref23_Log_Newer_ref _ _ _ _ _ H) rfl rfl rfl rfl ?_
                                rintro _ h38 ⟨r37, rfl, H⟩
                                refine w_p tok rfl rfl rfl ?_
                                refine w_p tok rfl rfl rfl ?_
                                exact w_jn (!(r35 == r37)) H ⟨rfl, rfl, rfl, rfl, rfl, rfl, rfl, rfl, rfl, rfl, trivial⟩
                          ·
                            refine w_gif (d := 229) H rfl (fun H => ?_) (fun H => ?_)
                            ·
                              refine w_skip rfl rfl ?_
                              refine w_skip rfl rfl ?_
                              refine w_skip rfl rfl ?_
                              refine w_skip rfl rfl ?_
                              refine w_p tok rfl rfl rfl ?_
                              exact w_jn true H ⟨rfl, rfl, rfl, rfl, rfl, rfl, rfl, rfl, rfl, rfl, trivial⟩
                            ·
                              refine w_p tok rfl rfl rfl ?_
                              refine w_p tok rfl rfl rfl ?_
                              refine w_call ref23_Same_ok (ref23_Same_ref _ _ _ _ H) rfl rfl rfl rfl ?_
                              rintro _ h40 ⟨r39, rfl, H⟩
                              refine w_p tok rfl rfl rfl ?_
                              refine w_p tok rfl rfl rfl ?_
                              exact w_jn (!r39) H ⟨rfl, rfl, rfl, rfl, rfl, rfl, rfl, rfl, rfl, rfl, trivial⟩
                        ·
                          refine w_gs (d := 224) rfl (fun hb => ?_) (fun hb => ?_)
                          ·
                            refine w_skip rfl rfl ?_
                            refine w_skip rfl rfl ?_
                            refine w_skip rfl rfl ?_
                            refine w_p tok rfl rfl rfl ?_
                            refine w_jn () rfl ⟨?_, rfl, rfl, rfl, rfl, rfl, rfl, rfl, rfl, rfl, rfl, rfl, trivial⟩
                            exact congrArg (fun b => some (Value.bool b)) (or_t hb)
                          ·
                            refine w_p tok rfl rfl rfl ?_
                            refine w_p tok rfl rfl rfl ?_
                            refine w_p tok rfl rfl rfl ?_
                            refine w_p tok rfl rfl rfl ?_
                            refine w_jn () rfl ⟨?_, rfl, rfl, rfl, rfl, rfl, rfl, rfl, rfl, rfl, rfl, rfl, trivial⟩
                            exact congrArg (fun b => some (Value.bool b)) (or_f hb)
                      ·
                        refine w_gs (d := 219) rfl (fun hb => ?_) (fun hb => ?_)
                        ·
                          refine w_skip rfl rfl ?_
                          refine w_skip rfl rfl ?_
                          refine w_skip rfl rfl ?_
                          refine w_p tok rfl rfl rfl ?_
                          refine w_jn () rfl ⟨?_, rfl, rfl, rfl, rfl, rfl, rfl, rfl, rfl, rfl, rfl, rfl, rfl, rfl, trivial⟩
                          exact congrArg (fun b => some (Value.bool b)) (or_t hb)
                        ·
                          refine w_p tok rfl rfl rfl ?_
                          refine w_p tok rfl rfl rfl ?_
                          refine w_p tok rfl rfl rfl ?_
                          refine w_p tok rfl rfl rfl ?_
                          refine w_jn () rfl ⟨?_, rfl, rfl, rfl, rfl, rfl, rfl, rfl, rfl, rfl, rfl, rfl, rfl, rfl, trivial⟩
                          exact congrArg (fun b => some (Value.bool b)) (or_f hb)
                  ·
                    refine c_sim [(1, .int .u64 p1), (3, Slc.v p3), (4, .int .u64 p4), (5, .int .i64 p5), (14, .pointer r14), (15, .pointer (some (⟨b16, 0, none⟩ : Addr))), (16, .int .i64 t16_3), (22, .int .u64 r18.1), (23, .int .u64 r18.2), (24, .int .u64 r20.1), (25, .int .u64 r20.2), (26, .int .u64 r22.1), (27, .int .u64 r22.2)] (by kernel_rfl) (by kernel_rfl) ⟨rfl, rfl, rfl, rfl, rfl, rfl, rfl, rfl, rfl, rfl, rfl, rfl, rfl, trivial⟩ (fun wf => ?_)
                    refine sim_p 0 (ei := [(22, .int .u64 r18.1)]) (d := (some 156)) wf (by kernel_rfl) ⟨rfl, trivial⟩ (by kernel_rfl) (by kernel_rfl) (fun _ => pf_p tok rfl rfl rfl rfl) (fun P_0 => ?_)
                    refine sim_p 1 (ei := [(15, .pointer (some (⟨b16, 0, none⟩ : Addr)))]) (d := (some 157)) wf (by kernel_rfl) ⟨rfl, trivial⟩ (by kernel_rfl) (by kernel_rfl) (fun _ => pf_p tok rfl rfl rfl rfl) (fun P_1 => ?_)
                    refine sim_p 2 (ei := [(157, .pointer (some (⟨b16, 0, none⟩ : Addr)))]) (d := (some 158)) wf (by kernel_rfl) ⟨rfl, trivial⟩ (by kernel_rfl) (by kernel_rfl) (fun _ => pf_y rfl rfl rfl (y_nil rfl rfl)) (fun P_2 => ?_)
                    refine sim_p 3 (ei := [(158, .pointer (some (⟨b16, 0, none⟩ : Addr)))]) (d := (some 159)) wf (by kernel_rfl) ⟨rfl, trivial⟩ (by kernel_rfl) (by kernel_rfl) (fun _ => pf_p tok rfl rfl rfl rfl) (fun P_3 => ?_)
                    obtain ⟨v41, hv41, H⟩ := H
                    refine sim_l 4 (ei := [(159, .pointer (some (⟨b16, 0, none⟩ : Addr)))]) (d := (some 160)) wf (by kernel_rfl) ⟨rfl, trivial⟩ (by kernel_rfl) (by kernel_rfl) (pf_y rfl rfl rfl (y_ld tok rfl rfl rfl rfl hv41)) (fun P_4 => ?_)
                    refine sim_p 5 (ei := [(156, .int .u64 r18.1), (160, .int .u64 v41)]) (d := (some 161)) wf (by kernel_rfl) ⟨rfl, rfl, trivial⟩ (by kernel_rfl) (by kernel_rfl) (fun _ => pf_p tok rfl rfl rfl rfl) (fun P_5 => ?_)
                    refine sim_p 6 (ei := [(161, .bool (r18.1 != v41))]) (d := (some 162)) wf (by kernel_rfl) ⟨rfl, trivial⟩ (by kernel_rfl) (by kernel_rfl) (fun _ => pf_p tok rfl rfl rfl rfl) (fun P_6 => ?_)
                    refine sim_gif 162 H rfl (fun hb H => ?_) (fun hb H => ?_)
                    ·
                      refine sim_p 7 (v := undef) (ei := [(23, .int .u64 r18.2), (162, .bool true)]) (d := (some 163)) wf (by kernel_rfl) ⟨rfl, rfl, trivial⟩ (by kernel_rfl) (by kernel_rfl) (fun _ => pf_s rfl rfl rfl) (fun P_7 => ?_)
                      refine sim_p 8 (v := undef) (ei := [(15, .pointer (some (⟨b16, 0, none⟩ : Addr))), (162, .bool true)]) (d := (some 164)) wf (by kernel_rfl) ⟨rfl, rfl, trivial⟩ (by kernel_rfl) (by kernel_rfl) (fun _ => pf_s rfl rfl rfl) (fun P_8 => ?_)
                      refine sim_p 9 (v := undef) (ei := [(162, .bool true)]) (d := (some 165)) wf (by kernel_rfl) ⟨rfl, trivial⟩ (by kernel_rfl) (by kernel_rfl) (fun _ => pf_s rfl rfl rfl) (fun P_9 => ?_)
                      refine sim_p 10 (v := undef) (ei := [(162, .bool true)]) (d := (some 166)) wf (by kernel_rfl) ⟨rfl, trivial⟩ (by kernel_rfl) (by kernel_rfl) (fun _ => pf_s rfl rfl rfl) (fun P_10 => ?_)
                      refine sim_p 11 (v := undef) (ei := [(162, .bool true)]) (d := (some 167)) wf (by kernel_rfl) ⟨rfl, trivial⟩ (by kernel_rfl) (by kernel_rfl) (fun _ => pf_s rfl rfl rfl) (fun P_11 => ?_)
                      refine sim_p 12 (v := undef) (ei := [(162, .bool true)]) (d := (some 168)) wf (by kernel_rfl) ⟨rfl, trivial⟩ (by kernel_rfl) (by kernel_rfl) (fun _ => pf_s rfl rfl rfl) (fun P_12 => ?_)
                      refine sim_p 13 (ei := [(162, .bool true)]) (d := (some 169)) wf (by kernel_rfl) ⟨rfl, trivial⟩ (by kernel_rfl) (by kernel_rfl) (fun _ => pf_p tok rfl rfl rfl rfl) (fun P_13 => ?_)
                      refine sim_p 14 (ei := [(169, .bool true)]) (d := (some 170)) wf (by kernel_rfl) ⟨rfl, trivial⟩ (by kernel_rfl) (by kernel_rfl) (fun _ => pf_p tok rfl rfl rfl rfl) (fun P_14 => ?_)
                      refine sim_gif 170 H rfl (fun hb H => ?_) (fun hb H => ?_)
                      ·
                        refine sim_p 15 (v := undef) (ei := [(24, .int .u64 r20.1), (170, .bool true)]) (d := (some 171)) wf (by kernel_rfl) ⟨rfl, rfl, trivial⟩ (by kernel_rfl) (by kernel_rfl) (fun _ => pf_s rfl rfl rfl) (fun P_15 => ?_)
                        refine sim_p 16 (v := undef) (ei := [(26, .int .u64 r22.1), (170, .bool true)]) (d := (some 172)) wf (by kernel_rfl) ⟨rfl, rfl, trivial⟩ (by kernel_rfl) (by kernel_rfl) (fun _ => pf_s rfl rfl rfl) (fun P_16 => ?_)
                        refine sim_p 17 (v := undef) (ei := [(170, .bool true)]) (d := (some 173)) wf (by kernel_rfl) ⟨rfl, trivial⟩ (by kernel_rfl) (by kernel_rfl) (fun _ => pf_s rfl rfl rfl) (fun P_17 => ?_)
                        refine sim_p 18 (ei := [(170, .bool true)]) (d := (some 174)) wf (by kernel_rfl) ⟨rfl, trivial⟩ (by kernel_rfl) (by kernel_rfl) (fun _ => pf_p tok rfl rfl rfl rfl) (fun P_18 => ?_)
                        refine sim_p 19 (ei := [(174, .bool true)]) (d := (some 175)) wf (by kernel_rfl) ⟨rfl, trivial⟩ (by kernel_rfl) (by kernel_rfl) (fun _ => pf_p tok rfl rfl rfl rfl) (fun P_19 => ?_)
                        refine sim_gif 175 H rfl (fun hb H => ?_) (fun hb H => ?_)
                        ·
                          refine sim_p 20 (v := undef) (ei := [(25, .int .u64 r20.2), (175, .bool true)]) (d := (some 176)) wf (by kernel_rfl) ⟨rfl, rfl, trivial⟩ (by kernel_rfl) (by kernel_rfl) (fun _ => pf_s rfl rfl rfl) (fun P_20 => ?_)
                          refine sim_p 21 (v := undef) (ei := [(27, .int .u64 r22.2), (175, .bool true)]) (d := (some 177)) wf (by kernel_rfl) ⟨rfl, rfl, trivial⟩ (by kernel_rfl) (by kernel_rfl) (fun _ => pf_s rfl rfl rfl) (fun P_21 => ?_)
                          refine sim_p 22 (v := undef) (ei := [(175, .bool true)]) (d := (some 178)) wf (by kernel_rfl) ⟨rfl, trivial⟩ (by kernel_rfl) (by kernel_rfl) (fun _ => pf_s rfl rfl rfl) (fun P_22 => ?_)
                          refine sim_p 23 (ei := [(175, .bool true)]) (d := (some 179)) wf (by kernel_rfl) ⟨rfl, trivial⟩ (by kernel_rfl) (by kernel_rfl) (fun _ => pf_p tok rfl rfl rfl rfl) (fun P_23 => ?_)
                          refine sim_p 24 (ei := [(179, .bool true)]) (d := (some 180)) wf (by kernel_rfl) ⟨rfl, trivial⟩ (by kernel_rfl) (by kernel_rfl) (fun _ => pf_p tok rfl rfl rfl rfl) (fun P_24 => ?_)
                          refine sim_gif 180 H rfl (fun hb H => ?_) (fun hb H => ?_)
                          ·
                            refine sim_p 25 (v := undef) (ei := [(14, .pointer r14), (180, .bool true)]) (d := (some 181)) wf (by kernel_rfl) ⟨rfl, rfl, trivial⟩ (by kernel_rfl) (by kernel_rfl) (fun _ => pf_s rfl rfl rfl) (fun P_25 => ?_)
                            refine sim_p 26 (v := undef) (ei := [(180, .bool true)]) (d := (some 182)) wf (by kernel_rfl) ⟨rfl, trivial⟩ (by kernel_rfl) (by kernel_rfl) (fun _ => pf_s rfl rfl rfl) (fun P_26 => ?_)
                            refine sim_p 27 (v := undef) (ei := [(15, .pointer (some (⟨b16, 0, none⟩ : Addr))), (180, .bool true)]) (d := (some 183)) wf (by kernel_rfl) ⟨rfl, rfl, trivial⟩ (by kernel_rfl) (by kernel_rfl) (fun _ => pf_s rfl rfl rfl) (fun P_27 => ?_)
                            refine sim_p 28 (v := undef) (ei := [(180, .bool true)]) (d := (some 184)) wf (by kernel_rfl) ⟨rfl, trivial⟩ (by kernel_rfl) (by kernel_rfl) (fun _ => pf_s rfl rfl rfl) (fun P_28 => ?_)
                            refine sim_p 29 (v := undef) (ei := [(180, .bool true)]) (d := (some 185)) wf (by kernel_rfl) ⟨rfl, trivial⟩ (by kernel_rfl) (by kernel_rfl) (fun _ => pf_s rfl rfl rfl) (fun P_29 => ?_)
                            refine sim_p 30 (v := undef) (ei := [(180, .bool true)]) (d := (some 186)) wf (by kernel_rfl) ⟨rfl, trivial⟩ (by kernel_rfl) (by kernel_rfl) (fun _ => pf_s rfl rfl rfl) (fun P_30 => ?_)
                            refine sim_p 31 (v := undef) (ei := [(180, .bool true)]) (d := (some 187)) wf (by kernel_rfl) ⟨rfl, trivial⟩ (by kernel_rfl) (by kernel_rfl) (fun _ => pf_s rfl rfl rfl) (fun P_31 => ?_)
                            refine sim_p 32 (v := undef) (ei := [(180, .bool true)]) (d := (some 188)) wf (by kernel_rfl) ⟨rfl, trivial⟩ (by kernel_rfl) (by kernel_rfl) (fun _ => pf_s rfl rfl rfl) (fun P_32 => ?_)
                            refine sim_p 33 (ei := [(180, .bool true)]) (d := (some 189)) wf (by kernel_rfl) ⟨rfl, trivial⟩ (by kernel_rfl) (by kernel_rfl) (fun _ => pf_p tok rfl rfl rfl rfl) (fun P_33 => ?_)
                            refine sim_end wf ⟨P_33 _, P_32 _, P_31 _, P_30 _, P_29 _, P_28 _, P_27 _, P_26 _, P_25 _, P_24 _, P_23 _, P_22 _, P_21 _, P_20 _, P_19 _, P_18 _, P_17 _, P_16 _, P_15 _, P_14 _, P_13 _, P_12 _, P_11 _, P_10 _, P_9 _, P_8 _, P_7 _, P_6 _, P_5 _, P_4, P_3 _, P_2 _, P_1 _, P_0 _, trivial⟩ (by kernel_rfl) ?_
                            clear wf P_0 P_1 P_10 P_11 P_12 P_13 P_14 P_15 P_16 P_17 P_18 P_19 P_2 P_20 P_21 P_22 P_23 P_24 P_25 P_26 P_27 P_28 P_29 P_3 P_30 P_31 P_32 P_33 P_4 P_5 P_6 P_7 P_8 P_9
                            exact x_join true H ⟨rfl, rfl, rfl, rfl, rfl, rfl, rfl, rfl, trivial⟩
                          ·
                            refine sim_p 25 (ei := [(14, .pointer r14), (180, .bool false)]) (d := (some 181)) wf (by kernel_rfl) ⟨rfl, rfl, trivial⟩ (by kernel_rfl) (by kernel_rfl) (fun _ => pf_p tok rfl rfl rfl rfl) (fun P_25 => ?_)
                            refine sim_p 27 (ei := [(15, .pointer (some (⟨b16, 0, none⟩ : Addr))), (180, .bool false)]) (d := (some 183)) wf (by kernel_rfl) ⟨rfl, rfl, trivial⟩ (by kernel_rfl) (by kernel_rfl) (fun _ => pf_p tok rfl rfl rfl rfl) (fun P_27 => ?_)
                            refine sim_p 28 (ei := [(180, .bool false), (183, .pointer (some (⟨b16, 0, none⟩ : Addr)))]) (d := (some 184)) wf (by kernel_rfl) ⟨rfl, rfl, trivial⟩ (by kernel_rfl) (by kernel_rfl) (fun _ => pf_y rfl rfl rfl (y_nil rfl rfl)) (fun P_28 => ?_)
                            refine sim_p 29 (ei := [(180, .bool false), (184, .pointer (some (⟨b16, 0, none⟩ : Addr)))]) (d := (some 185)) wf (by kernel_rfl) ⟨rfl, rfl, trivial⟩ (by kernel_rfl) (by kernel_rfl) (fun _ => pf_p tok rfl rfl rfl rfl) (fun P_29 => ?_)
                            obtain ⟨v42, hv42, H⟩ := H
                            refine sim_l 30 (ei := [(180, .bool false), (185, .pointer (some ((⟨b16, 0, none⟩ : Addr).add 2)))]) (d := (some 186)) wf (by kernel_rfl) ⟨rfl, rfl, trivial⟩ (by kernel_rfl) (by kernel_rfl) (pf_y rfl rfl rfl (y_ld tok rfl rfl rfl rfl hv42)) (fun P_30 => ?_)
                            refine sim_c 26 [0, 1, 2, 3, 4, 5, 6, 7, 8, 9, 10, 11, 12, 13, 14, 15, 16, 17, 18, 19, 20, 21, 22, 23, 24, 25] [0, 1, 2, 3, 4, 5, 6, 7, 8, 9, 10, 11, 12, 13, 14, 15, 16, 17, 18, 19, 20, 21, 22, 23, 24, 25] (ei := [(180, .bool false), (181, .pointer r14)]) rlog_Log_Entries_ok (rlog_Log_Entries_ref _ _ _ H) wf ⟨P_30, P_29 _, P_28 _, P_27 _, P_25 _, P_24 _, P_23 _, P_22 _, P_21 _, P_20 _, P_19 _, P_18 _, P_17 _, P_16 _, P_15 _, P_14 _, P_13 _, P_12 _, P_11 _, P_10 _, P_9 _, P_8 _, P_7 _, P_6 _, P_5 _, P_4, P_3 _, P_2 _, P_1 _, P_0 _, trivial⟩ (by kernel_rfl) ⟨rfl, rfl, trivial⟩ (by kernel_rfl) rfl rfl rfl rfl rfl ?_
                            rintro _ h44 ⟨r43, rfl, H⟩
                            obtain ⟨hy45, H⟩ := H
                            refine sim_re (x := ⟨30, Slc.v v42, [(180, .bool false), (185, .pointer (some ((⟨b16, 0, none⟩ : Addr).add 2)))]⟩) (pf_y rfl rfl rfl (y_ld tok rfl rfl rfl rfl hy45)) (fun P_30 => ?_)
                            refine sim_c 31 [0, 1, 2, 3, 4, 5, 6, 7, 8, 9, 10, 11, 12, 13, 14, 15, 16, 17, 18, 19, 20, 21, 22, 23, 24, 25, 26, 27, 28, 29, 30] [0, 1, 2, 3, 4, 5, 6, 7, 8, 9, 10, 11, 12, 13, 14, 15, 16, 17, 18, 19, 20, 21, 22, 23, 24, 25, 27, 28, 29, 30] (ei := [(180, .bool false), (182, Slc.v r43), (186, Slc.v v42)]) ref23_Same_ok (ref23_Same_ref _ _ _ _ H) wf ⟨P_30, P_29 _, P_28 _, P_27 _, trivial, trivial, trivial, trivial, trivial, trivial, trivial, trivial, trivial, trivial, trivial, trivial, trivial, trivial, trivial, trivial, trivial, trivial, trivial, trivial, trivial, trivial, trivial, trivial, trivial, trivial, trivial⟩ (by kernel_rfl) ⟨rfl, rfl, rfl, trivial⟩ (by kernel_rfl) rfl rfl rfl rfl rfl ?_
                            rintro _ h47 ⟨r46, rfl, H⟩
                            refine sim_p 32 (ei := [(180, .bool false), (187, .bool r46)]) (d := (some 188)) wf (by kernel_rfl) ⟨rfl, rfl, trivial⟩ (by kernel_rfl) (by kernel_rfl) (fun _ => pf_p tok rfl rfl rfl rfl) (fun P_32 => ?_)
                            refine sim_p 33 (ei := [(180, .bool false), (188, .bool (!r46))]) (d := (some 189)) wf (by kernel_rfl) ⟨rfl, rfl, trivial⟩ (by kernel_rfl) (by kernel_rfl) (fun _ => pf_p tok rfl rfl rfl rfl) (fun P_33 => ?_)
                            refine sim_end wf ⟨P_33 _, P_32 _, trivial, trivial, trivial, trivial, trivial, trivial, trivial, trivial, trivial, trivial, trivial, trivial, trivial, trivial, trivial, trivial, trivial, trivial, trivial, trivial, trivial, trivial, trivial, trivial, trivial, trivial, trivial, trivial, trivial, trivial, trivial⟩ (by kernel_rfl) ?_
                            clear wf P_0 P_1 P_10 P_11 P_12 P_13 P_14 P_15 P_16 P_17 P_18 P_19 P_2 P_20 P_21 P_22 P_23 P_24 P_25 P_27 P_28 P_29 P_3 P_30 P_32 P_33 P_4 P_5 P_6 P_7 P_8 P_9
                            exact x_join (!r46) H ⟨rfl, rfl, rfl, rfl, rfl, rfl, rfl, rfl, trivial⟩
                        ·
                          refine sim_p 20 (ei := [(25, .int .u64 r20.2), (175, .bool false)]) (d := (some 176)) wf (by kernel_rfl) ⟨rfl, rfl, trivial⟩ (by kernel_rfl) (by kernel_rfl) (fun _ => pf_p tok rfl rfl rfl rfl) (fun P_20 => ?_)
                          refine sim_p 21 (ei := [(27, .int .u64 r22.2), (175, .bool false)]) (d := (some 177)) wf (by kernel_rfl) ⟨rfl, rfl, trivial⟩ (by kernel_rfl) (by kernel_rfl) (fun _ => pf_p tok rfl rfl rfl rfl) (fun P_21 => ?_)
                          refine sim_p 22 (ei := [(175, .bool false), (176, .int .u64 r20.2), (177, .int .u64 r22.2)]) (d := (some 178)) wf (by kernel_rfl) ⟨rfl, rfl, rfl, trivial⟩ (by kernel_rfl) (by kernel_rfl) (fun _ => pf_p tok rfl rfl rfl rfl) (fun P_22 => ?_)
                          refine sim_p 23 (ei := [(175, .bool false), (178, .bool (r20.2 != r22.2))]) (d := (some 179)) wf (by kernel_rfl) ⟨rfl, rfl, trivial⟩ (by kernel_rfl) (by kernel_rfl) (fun _ => pf_p tok rfl rfl rfl rfl) (fun P_23 => ?_)
                          refine sim_p 24 (ei := [(179, .bool (r20.2 != r22.2))]) (d := (some 180)) wf (by kernel_rfl) ⟨rfl, trivial⟩ (by kernel_rfl) (by kernel_rfl) (fun _ => pf_p tok rfl rfl rfl rfl) (fun P_24 => ?_)
                          refine sim_gif 180 H rfl (fun hb H => ?_) (fun hb H => ?_)
                          ·
                            refine sim_p 25 (v := undef) (ei := [(14, .pointer r14), (180, .bool true)]) (d := (some 181)) wf (by kernel_rfl) ⟨rfl, rfl, trivial⟩ (by kernel_rfl) (by kernel_rfl) (fun _ => pf_s rfl rfl rfl) (fun P_25 => ?_)
                            refine sim_p 26 (v := undef) (ei := [(180, .bool true)]) (d := (some 182)) wf (by kernel_rfl) ⟨rfl, trivial⟩ (by kernel_rfl) (by kernel_rfl) (fun _ => pf_s rfl rfl rfl) (fun P_26 => ?_)
                            refine sim_p 27 (v := undef) (ei := [(15, .pointer (some (⟨b16, 0, none⟩ : Addr))), (180, .bool true)]) (d := (some 183)) wf (by kernel_rfl) ⟨rfl, rfl, trivial⟩ (by kernel_rfl) (by kernel_rfl) (fun _ => pf_s rfl rfl rfl) (fun P_27 => ?_)
                            refine sim_p 28 (v := undef) (ei := [(180, .bool true)]) (d := (some 184)) wf (by kernel_rfl) ⟨rfl, trivial⟩ (by kernel_rfl) (by kernel_rfl) (fun _ => pf_s rfl rfl rfl) (fun P_28 => ?_)
                            refine sim_p 29 (v := undef) (ei := [(180, .bool true)]) (d := (some 185)) wf (by kernel_rfl) ⟨rfl, trivial⟩ (by kernel_rfl) (by kernel_rfl) (fun _ => pf_s rfl rfl rfl) (fun P_29 => ?_)
                            refine sim_p 30 (v := undef) (ei := [(180, .bool true)]) (d := (some 186)) wf (by kernel_rfl) ⟨rfl, trivial⟩ (by kernel_rfl) (by kernel_rfl) (fun _ => pf_s rfl rfl rfl) (fun P_30 => ?_)
                            refine sim_p 31 (v := undef) (ei := [(180, .bool true)]) (d := (some 187)) wf (by kernel_rfl) ⟨rfl, trivial⟩ (by kernel_rfl) (by kernel_rfl) (fun _ => pf_s rfl rfl rfl) (fun P_31 => ?_)
                            refine sim_p 32 (v := undef) (ei := [(180, .bool true)]) (d := (some 188)) wf (by kernel_rfl) ⟨rfl, trivial⟩ (by kernel_rfl) (by kernel_rfl) (fun _ => pf_s rfl rfl rfl) (fun P_32 => ?_)
                            refine sim_p 33 (ei := [(180, .bool true)]) (d := (some 189)) wf (by kernel_rfl) ⟨rfl, trivial⟩ (by kernel_rfl) (by kernel_rfl) (fun _ => pf_p tok rfl rfl rfl rfl) (fun P_33 => ?_)
                            refine sim_end wf ⟨P_33 _, P_32 _, P_31 _, P_30 _, P_29 _, P_28 _, P_27 _, P_26 _, P_25 _, P_24 _, P_23 _, P_22 _, P_21 _, P_20 _, P_19 _, P_18 _, P_17 _, P_16 _, P_15 _, P_14 _, P_13 _, P_12 _, P_11 _, P_10 _, P_9 _, P_8 _, P_7 _, P_6 _, P_5 _, P_4, P_3 _, P_2 _, P_1 _, P_0 _, trivial⟩ (by kernel_rfl) ?_
                            clear wf P_0 P_1 P_10 P_11 P_12 P_13 P_14 P_15 P_16 P_17 P_18 P_19 P_2 P_20 P_21 P_22 P_23 P_24 P_25 P_26 P_27 P_28 P_29 P_3 P_30 P_31 P_32 P_33 P_4 P_5 P_6 P_7 P_8 P_9
                            exact x_join true H ⟨rfl, rfl, rfl, rfl, rfl, rfl, rfl, rfl, trivial⟩
                          ·
                            refine sim_p 25 (ei := [(14, .pointer r14), (180, .bool false)]) (d := (some 181)) wf (by kernel_rfl) ⟨rfl, rfl, trivial⟩ (by kernel_rfl) (by kernel_rfl) (fun _ => pf_p tok rfl rfl rfl rfl) (fun P_25 => ?_)
                            refine sim_p 27 (ei := [(15, .pointer (some (⟨b16, 0, none⟩ : Addr))), (180, .bool false)]) (d := (some 183)) wf (by kernel_rfl) ⟨rfl, rfl, trivial⟩ (by kernel_rfl) (by kernel_rfl) (fun _ => pf_p tok rfl rfl rfl rfl) (fun P_27 => ?_)
                            refine sim_p 28 (ei := [(180, .bool false), (183, .pointer (some (⟨b16, 0, none⟩ : Addr)))]) (d := (some 184)) wf (by kernel_rfl) ⟨rfl, rfl, trivial⟩ (by kernel_rfl) (by kernel_rfl) (fun _ => pf_y rfl rfl rfl (y_nil rfl rfl)) (fun P_28 => ?_)
                            refine sim_p 29 (ei := [(180, .bool false), (184, .pointer (some (⟨b16, 0, none⟩ : Addr)))]) (d := (some 185)) wf (by kernel_rfl) ⟨rfl, rfl, trivial⟩ (by kernel_rfl) (by kernel_rfl) (fun _ => pf_p tok rfl rfl rfl rfl) (fun P_29 => ?_)
                            obtain ⟨v48, hv48, H⟩ := H
                            refine sim_l 30 (ei := [(180, .bool false), (185, .pointer (some ((⟨b16, 0, none⟩ : Addr).add 2)))]) (d := (some 186)) wf (by kernel_rfl) ⟨rfl, rfl, trivial⟩ (by kernel_rfl) (by kernel_rfl) (pf_y rfl rfl rfl (y_ld tok rfl rfl rfl rfl hv48)) (fun P_30 => ?_)
                            refine sim_c 26 [0, 1, 2, 3, 4, 5, 6, 7, 8, 9, 10, 11, 12, 13, 14, 15, 16, 17, 18, 19, 20, 21, 22, 23, 24, 25] [0, 1, 2, 3, 4, 5, 6, 7, 8, 9, 10, 11, 12, 13, 14, 15, 16, 17, 18, 19, 20, 21, 22, 23, 24, 25] (ei := [(180, .bool false), (181, .pointer r14)]) rlog_Log_Entries_ok (rlog_Log_Entries_ref _ _ _ H) wf ⟨P_30, P_29 _, P_28 _, P_27 _, P_25 _, P_24 _, P_23 _, P_22 _, P_21 _, P_20 _, P_19 _, P_18 _, P_17 _, P_16 _, P_15 _, P_14 _, P_13 _, P_12 _, P_11 _, P_10 _, P_9 _, P_8 _, P_7 _, P_6 _, P_5 _, P_4, P_3 _, P_2 _, P_1 _, P_0 _, trivial⟩ (by kernel_rfl) ⟨rfl, rfl, trivial⟩ (by kernel_rfl) rfl rfl rfl rfl rfl ?_
                            rintro _ h50 ⟨r49, rfl, H⟩
                            obtain ⟨hy51, H⟩ := H
                            refine sim_re (x := ⟨30, Slc.v v48, [(180, .bool false), (185, .pointer (some ((⟨b16, 0, none⟩ : Addr).add 2)))]⟩) (pf_y rfl rfl rfl (y_ld tok rfl rfl rfl rfl hy51)) (fun P_30 => ?_)
                            refine sim_c 31 [0, 1, 2, 3, 4, 5, 6, 7, 8, 9, 10, 11, 12, 13, 14, 15, 16, 17, 18, 19, 20, 21, 22, 23, 24, 25, 26, 27, 28, 29, 30] [0, 1, 2, 3, 4, 5, 6, 7, 8, 9, 10, 11, 12, 13, 14, 15, 16, 17, 18, 19, 20, 21, 22, 23, 24, 25, 27, 28, 29, 30] (ei := [(180, .bool false), (182, Slc.v r49), (186, Slc.v v48)]) ref23_Same_ok (ref23_Same_ref _ _ _ _ H) wf ⟨P_30, P_29 _, P_28 _, P_27 _, trivial, trivial, trivial, trivial, trivial, trivial, trivial, trivial, trivial, trivial, trivial, trivial, trivial, trivial, trivial, trivial, trivial, trivial, trivial, trivial, trivial, trivial, trivial, trivial, trivial, trivial, trivial⟩ (by kernel_rfl) ⟨rfl, rfl, rfl, trivial⟩ (by kernel_rfl) rfl rfl rfl rfl rfl ?_
                            rintro _ h53 ⟨r52, rfl, H⟩
                            refine sim_p 32 (ei := [(180, .bool false), (187, .bool r52)]) (d := (some 188)) wf (by kernel_rfl) ⟨rfl, rfl, trivial⟩ (by kernel_rfl) (by kernel_rfl) (fun _ => pf_p tok rfl rfl rfl rfl) (fun P_32 => ?_)
                            refine sim_p 33 (ei := [(180, .bool false), (188, .bool (!r52))]) (d := (some 189)) wf (by kernel_rfl) ⟨rfl, rfl, trivial⟩ (by kernel_rfl) (by kernel_rfl) (fun _ => pf_p tok rfl rfl rfl rfl) (fun P_33 => ?_)
                            refine sim_end wf ⟨P_33 _, P_32 _, trivial, trivial, trivial, trivial, trivial, trivial, trivial, trivial, trivial, trivial, trivial, trivial, trivial, trivial, trivial, trivial, trivial, trivial, trivial, trivial, trivial, trivial, trivial, trivial, trivial, trivial, trivial, trivial, trivial, trivial, trivial⟩ (by kernel_rfl) ?_
                            clear wf P_0 P_1 P_10 P_11 P_12 P_13 P_14 P_15 P_16 P_17 P_18 P_19 P_2 P_20 P_21 P_22 P_23 P_24 P_25 P_27 P_28 P_29 P_3 P_30 P_32 P_33 P_4 P_5 P_6 P_7 P_8 P_9
                            exact x_join (!r52) H ⟨rfl, rfl, rfl, rfl, rfl, rfl, rfl, rfl, trivial⟩
                      ·
                        refine sim_p 15 (ei := [(24, .int .u64 r20.1), (170, .bool false)]) (d := (some 171)) wf (by kernel_rfl) ⟨rfl, rfl, trivial⟩ (by kernel_rfl) (by kernel_rfl) (fun _ => pf_p tok rfl rfl rfl rfl) (fun P_15 => ?_)
                        refine sim_p 16 (ei := [(26, .int .u64 r22.1), (170, .bool false)]) (d := (some 172)) wf (by kernel_rfl) ⟨rfl, rfl, trivial⟩ (by kernel_rfl) (by kernel_rfl) (fun _ => pf_p tok rfl rfl rfl rfl) (fun P_16 => ?_)
                        refine sim_p 17 (ei := [(170, .bool false), (171, .int .u64 r20.1), (172, .int .u64 r22.1)]) (d := (some 173)) wf (by kernel_rfl) ⟨rfl, rfl, rfl, trivial⟩ (by kernel_rfl) (by kernel_rfl) (fun _ => pf_p tok rfl rfl rfl rfl) (fun P_17 => ?_)
                        refine sim_p 18 (ei := [(170, .bool false), (173, .bool (r20.1 != r22.1))]) (d := (some 174)) wf (by kernel_rfl) ⟨rfl, rfl, trivial⟩ (by kernel_rfl) (by kernel_rfl) (fun _ => pf_p tok rfl rfl rfl rfl) (fun P_18 => ?_)
                        refine sim_p 19 (ei := [(174, .bool (r20.1 != r22.1))]) (d := (some 175)) wf (by kernel_rfl) ⟨rfl, trivial⟩ (by kernel_rfl) (by kernel_rfl) (fun _ => pf_p tok rfl rfl rfl rfl) (fun P_19 => ?_)
                        refine sim_gif 175 H rfl (fun hb H => ?_) (fun hb H => ?_)
                        ·
                          refine sim_p 20 (v := undef) (ei := [(25, .int .u64 r20.2), (175, .bool true)]) (d := (some 176)) wf (by kernel_rfl) ⟨rfl, rfl, trivial⟩ (by kernel_rfl) (by kernel_rfl) (fun _ => pf_s rfl rfl rfl) (fun P_20 => ?_)
                          refine sim_p 21 (v := undef) (ei := [(27, .int .u64 r22.2), (175, .bool true)]) (d := (some 177)) wf (by kernel_rfl) ⟨rfl, rfl, trivial⟩ (by kernel_rfl) (by kernel_rfl) (fun _ => pf_s rfl rfl rfl) (fun P_21 => ?_)
                          refine sim_p 22 (v := undef) (ei := [(175, .bool true)]) (d := (some 178)) wf (by kernel_rfl) ⟨rfl, trivial⟩ (by kernel_rfl) (by kernel_rfl) (fun _ => pf_s rfl rfl rfl) (fun P_22 => ?_)
                          refine sim_p 23 (ei := [(175, .bool true)]) (d := (some 179)) wf (by kernel_rfl) ⟨rfl, trivial⟩ (by kernel_rfl) (by kernel_rfl) (fun _ => pf_p tok rfl rfl rfl rfl) (fun P_23 => ?_)
                          refine sim_p 24 (ei := [(179, .bool true)]) (d := (some 180)) wf (by kernel_rfl) ⟨rfl, trivial⟩ (by kernel_rfl) (by kernel_rfl) (fun _ => pf_p tok rfl rfl rfl rfl) (fun P_24 => ?_)
                          refine sim_gif 180 H rfl (fun hb H => ?_) (fun hb H => ?_)
                          ·
                            refine sim_p 25 (v := undef) (ei := [(14, .pointer r14), (180, .bool true)]) (d := (some 181)) wf (by kernel_rfl) ⟨rfl, rfl, trivial⟩ (by kernel_rfl) (by kernel_rfl) (fun _ => pf_s rfl rfl rfl) (fun P_25 => ?_)
                            refine sim_p 26 (v := undef) (ei := [(180, .bool true)]) (d := (some 182)) wf (by kernel_rfl) ⟨rfl, trivial⟩ (by kernel_rfl) (by kernel_rfl) (fun _ => pf_s rfl rfl rfl) (fun P_26 => ?_)
                            refine sim_p 27 (v := undef) (ei := [(15, .pointer (some (⟨b16, 0, none⟩ : Addr))), (180, .bool true)]) (d := (some 183)) wf (by kernel_rfl) ⟨rfl, rfl, trivial⟩ (by kernel_rfl) (by kernel_rfl) (fun _ => pf_s rfl rfl rfl) (fun P_27 => ?_)
                            refine sim_p 28 (v := undef) (ei := [(180, .bool true)]) (d := (some 184)) wf (by kernel_rfl) ⟨rfl, trivial⟩ (by kernel_rfl) (by kernel_rfl) (fun _ => pf_s rfl rfl rfl) (fun P_28 => ?_)
                            refine sim_p 29 (v := undef) (ei := [(180, .bool true)]) (d := (some 185)) wf (by kernel_rfl) ⟨rfl, trivial⟩ (by kernel_rfl) (by kernel_rfl) (fun _ => pf_s rfl rfl rfl) (fun P_29 => ?_)
                            refine sim_p 30 (v := undef) (ei := [(180, .bool true)]) (d := (some 186)) wf (by kernel_rfl) ⟨rfl, trivial⟩ (by kernel_rfl) (by kernel_rfl) (fun _ => pf_s rfl rfl rfl) (fun P_30 => ?_)
                            refine sim_p 31 (v := undef) (ei := [(180, .bool true)]) (d := (some 187)) wf (by kernel_rfl) ⟨rfl, trivial⟩ (by kernel_rfl) (by kernel_rfl) (fun _ => pf_s rfl rfl rfl) (fun P_31 => ?_)
                            refine sim_p 32 (v := undef) (ei := [(180, .bool true)]) (d := (some 188)) wf (by kernel_rfl) ⟨rfl, trivial⟩ (by kernel_rfl) (by kernel_rfl) (fun _ => pf_s rfl rfl rfl) (fun P_32 => ?_)
                            refine sim_p 33 (ei := [(180, .bool true)]) (d := (some 189)) wf (by kernel_rfl) ⟨rfl, trivial⟩ (by kernel_rfl) (by kernel_rfl) (fun _ => pf_p tok rfl rfl rfl rfl) (fun P_33 => ?_)
                            refine sim_end wf ⟨P_33 _, P_32 _, P_31 _, P_30 _, P_29 _, P_28 _, P_27 _, P_26 _, P_25 _, P_24 _, P_23 _, P_22 _, P_21 _, P_20 _, P_19 _, P_18 _, P_17 _, P_16 _, P_15 _, P_14 _, P_13 _, P_12 _, P_11 _, P_10 _, P_9 _, P_8 _, P_7 _, P_6 _, P_5 _, P_4, P_3 _, P_2 _, P_1 _, P_0 _, trivial⟩ (by kernel_rfl) ?_
                            clear wf P_0 P_1 P_10 P_11 P_12 P_13 P_14 P_15 P_16 P_17 P_18 P_19 P_2 P_20 P_21 P_22 P_23 P_24 P_25 P_26 P_27 P_28 P_29 P_3 P_30 P_31 P_32 P_33 P_4 P_5 P_6 P_7 P_8 P_9
                            exact x_join true H ⟨rfl, rfl, rfl, rfl, rfl, rfl, rfl, rfl, trivial⟩
                          ·
                            refine sim_p 25 (ei := [(14, .pointer r14), (180, .bool false)]) (d := (some 181)) wf (by kernel_rfl) ⟨rfl, rfl, trivial⟩ (by kernel_rfl) (by kernel_rfl) (fun _ => pf_p tok rfl rfl rfl rfl) (fun P_25 => ?_)
                            refine sim_p 27 (ei := [(15, .pointer (some (⟨b16, 0, none⟩ : Addr))), (180, .bool false)]) (d := (some 183)) wf (by kernel_rfl) ⟨rfl, rfl, trivial⟩ (by kernel_rfl) (by kernel_rfl) (fun _ => pf_p tok rfl rfl rfl rfl) (fun P_27 => ?_)
                            refine sim_p 28 (ei := [(180, .bool false), (183, .pointer (some (⟨b16, 0, none⟩ : Addr)))]) (d := (some 184)) wf (by kernel_rfl) ⟨rfl, rfl, trivial⟩ (by kernel_rfl) (by kernel_rfl) (fun _ => pf_y rfl rfl rfl (y_nil rfl rfl)) (fun P_28 => ?_)
                            refine sim_p 29 (ei := [(180, .bool false), (184, .pointer (some (⟨b16, 0, none⟩ : Addr)))]) (d := (some 185)) wf (by kernel_rfl) ⟨rfl, rfl, trivial⟩ (by kernel_rfl) (by kernel_rfl) (fun _ => pf_p tok rfl rfl rfl rfl) (fun P_29 => ?_)
                            obtain ⟨v54, hv54, H⟩ := H
                            refine sim_l 30 (ei := [(180, .bool false), (185, .pointer (some ((⟨b16, 0, none⟩ : Addr).add 2)))]) (d := (some 186)) wf (by kernel_rfl) ⟨rfl, rfl, trivial⟩ (by kernel_rfl) (by kernel_rfl) (pf_y rfl rfl rfl (y_ld tok rfl rfl rfl rfl hv54)) (fun P_30 => ?_)
                            refine sim_c 26 [0, 1, 2, 3, 4, 5, 6, 7, 8, 9, 10, 11, 12, 13, 14, 15, 16, 17, 18, 19, 20, 21, 22, 23, 24, 25] [0, 1, 2, 3, 4, 5, 6, 7, 8, 9, 10, 11, 12, 13, 14, 15, 16, 17, 18, 19, 20, 21, 22, 23, 24, 25] (ei := [(180, .bool false), (181, .pointer r14)]) rlog_Log_Entries_ok (rlog_Log_Entries_ref _ _ _ H) wf ⟨P_30, P_29 _, P_28 _, P_27 _, P_25 _, P_24 _, P_23 _, P_22 _, P_21 _, P_20 _, P_19 _, P_18 _, P_17 _, P_16 _, P_15 _, P_14 _, P_13 _, P_12 _, P_11 _, P_10 _, P_9 _, P_8 _, P_7 _, P_6 _, P_5 _, P_4, P_3 _, P_2 _, P_1 _, P_0 _, trivial⟩ (by kernel_rfl) ⟨rfl, rfl, trivial⟩ (by kernel_rfl) rfl rfl rfl rfl rfl ?_
                            rintro _ h56 ⟨r55, rfl, H⟩
                            obtain ⟨hy57, H⟩ := H
                            refine sim_re (x := ⟨30, Slc.v v54, [(180, .bool false), (185, .pointer (some ((⟨b16, 0, none⟩ : Addr).add 2)))]⟩) (pf_y rfl rfl rfl (y_ld tok rfl rfl rfl rfl hy57)) (fun P_30 => ?_)
                            refine sim_c 31 [0, 1, 2, 3, 4, 5, 6, 7, 8, 9, 10, 11, 12, 13, 14, 15, 16, 17, 18, 19, 20, 21, 22, 23, 24, 25, 26, 27, 28, 29, 30] [0, 1, 2, 3, 4, 5, 6, 7, 8, 9, 10, 11, 12, 13, 14, 15, 16, 17, 18, 19, 20, 21, 22, 23, 24, 25, 27, 28, 29, 30] (ei := [(180, .bool false), (182, Slc.v r55), (186, Slc.v v54)]) ref23_Same_ok (ref23_Same_ref _ _ _ _ H) wf ⟨P_30, P_29 _, P_28 _, P_27 _, trivial, trivial, trivial, trivial, trivial, trivial, trivial, trivial, trivial, trivial, trivial, trivial, trivial, trivial, trivial, trivial, trivial, trivial, trivial, trivial, trivial, trivial, trivial, trivial, trivial, trivial, trivial⟩ (by kernel_rfl) ⟨rfl, rfl, rfl, trivial⟩ (by kernel_rfl) rfl rfl rfl rfl rfl ?_
                            rintro _ h59 ⟨r58, rfl, H⟩
                            refine sim_p 32 (ei := [(180, .bool false), (187, .bool r58)]) (d := (some 188)) wf (by kernel_rfl) ⟨rfl, rfl, trivial⟩ (by kernel_rfl) (by kernel_rfl) (fun _ => pf_p tok rfl rfl rfl rfl) (fun P_32 => ?_)
                            refine sim_p 33 (ei := [(180, .bool false), (188, .bool (!r58))]) (d := (some 189)) wf (by kernel_rfl) ⟨rfl, rfl, trivial⟩ (by kernel_rfl) (by kernel_rfl) (fun _ => pf_p tok rfl rfl rfl rfl) (fun P_33 => ?_)
                            refine sim_end wf ⟨P_33 _, P_32 _, trivial, trivial, trivial, trivial, trivial, trivial, trivial, trivial, trivial, trivial, trivial, trivial, trivial, trivial, trivial, trivial, trivial, trivial, trivial, trivial, trivial, trivial, trivial, trivial, trivial, trivial, trivial, trivial, trivial, trivial, trivial⟩ (by kernel_rfl) ?_
                            clear wf P_0 P_1 P_10 P_11 P_12 P_13 P_14 P_15 P_16 P_17 P_18 P_19 P_2 P_20 P_21 P_22 P_23 P_24 P_25 P_27 P_28 P_29 P_3 P_30 P_32 P_33 P_4 P_5 P_6 P_7 P_8 P_9
                            exact x_join (!r58) H ⟨rfl, rfl, rfl, rfl, rfl, rfl, rfl, rfl, trivial⟩
                        ·
                          refine sim_p 20 (ei := [(25, .int .u64 r20.2), (175, .bool false)]) (d := (some 176)) wf (by kernel_rfl) ⟨rfl, rfl, trivial⟩ (by kernel_rfl) (by kernel_rfl) (fun _ => pf_p tok rfl rfl rfl rfl) (fun P_20 => ?_)
                          refine sim_p 21 (ei := [(27, .int .u64 r22.2), (175, .bool false)]) (d := (some 177)) wf (by kernel_rfl) ⟨rfl, rfl, trivial⟩ (by kernel_rfl) (by kernel_rfl) (fun _ => pf_p tok rfl rfl rfl rfl) (fun P_21 => ?_)
                          refine sim_p 22 (ei := [(175, .bool false), (176, .int .u64 r20.2), (177, .int .u64 r22.2)]) (d := (some 178)) wf (by kernel_rfl) ⟨rfl, rfl, rfl, trivial⟩ (by kernel_rfl) (by kernel_rfl) (fun _ => pf_p tok rfl rfl rfl rfl) (fun P_22 => ?_)
                          refine sim_p 23 (ei := [(175, .bool false), (178, .bool (r20.2 != r22.2))]) (d := (some 179)) wf (by kernel_rfl) ⟨rfl, rfl, trivial⟩ (by kernel_rfl) (by kernel_rfl) (fun _ => pf_p tok rfl rfl rfl rfl) (fun P_23 => ?_)
                          refine sim_p 24 (ei := [(179, .bool (r20.2 != r22.2))]) (d := (some 180)) wf (by kernel_rfl) ⟨rfl, trivial⟩ (by kernel_rfl) (by kernel_rfl) (fun _ => pf_p tok rfl rfl rfl rfl) (fun P_24 => ?_)
                          refine sim_gif 180 H rfl (fun hb H => ?_) (fun hb H => ?_)
                          ·
                            refine sim_p 25 (v := undef) (ei := [(14, .pointer r14), (180, .bool true)]) (d := (some 181)) wf (by kernel_rfl) ⟨rfl, rfl, trivial⟩ (by kernel_rfl) (by kernel_rfl) (fun _ => pf_s rfl rfl rfl) (fun P_25 => ?_)
                            refine sim_p 26 (v := undef) (ei := [(180, .bool true)]) (d := (some 182)) wf (by kernel_rfl) ⟨rfl, trivial⟩ (by kernel_rfl) (by kernel_rfl) (fun _ => pf_s rfl rfl rfl) (fun P_26 => ?_)
                            refine sim_p 27 (v := undef) (ei := [(15, .pointer (some (⟨b16, 0, none⟩ : Addr))), (180, .bool true)]) (d := (some 183)) wf (by kernel_rfl) ⟨rfl, rfl, trivial⟩ (by kernel_rfl) (by kernel_rfl) (fun _ => pf_s rfl rfl rfl) (fun P_27 => ?_)
                            refine sim_p 28 (v := undef) (ei := [(180, .bool true)]) (d := (some 184)) wf (by kernel_rfl) ⟨rfl, trivial⟩ (by kernel_rfl) (by kernel_rfl) (fun _ => pf_s rfl rfl rfl) (fun P_28 => ?_)
                            refine sim_p 29 (v := undef) (ei := [(180, .bool true)]) (d := (some 185)) wf (by kernel_rfl) ⟨rfl, trivial⟩ (by kernel_rfl) (by kernel_rfl) (fun _ => pf_s rfl rfl rfl) (fun P_29 => ?_)
                            refine sim_p 30 (v := undef) (ei := [(180, .bool true)]) (d := (some 186)) wf (by kernel_rfl) ⟨rfl, trivial⟩ (by kernel_rfl) (by kernel_rfl) (fun _ => pf_s rfl rfl rfl) (fun P_30 => ?_)
                            refine sim_p 31 (v := undef) (ei := [(180, .bool true)]) (d := (some 187)) wf (by kernel_rfl) ⟨rfl, trivial⟩ (by kernel_rfl) (by kernel_rfl) (fun _ => pf_s rfl rfl rfl) (fun P_31 => ?_)
                            refine sim_p 32 (v := undef) (ei := [(180, .bool true)]) (d := (some 188)) wf (by kernel_rfl) ⟨rfl, trivial⟩ (by kernel_rfl) (by kernel_rfl) (fun _ => pf_s rfl rfl rfl) (fun P_32 => ?_)
                            refine sim_p 33 (ei := [(180, .bool true)]) (d := (some 189)) wf (by kernel_rfl) ⟨rfl, trivial⟩ (by kernel_rfl) (by kernel_rfl) (fun _ => pf_p tok rfl rfl rfl rfl) (fun P_33 => ?_)
                            refine sim_end wf ⟨P_33 _, P_32 _, P_31 _, P_30 _, P_29 _, P_28 _, P_27 _, P_26 _, P_25 _, P_24 _, P_23 _, P_22 _, P_21 _, P_20 _, P_19 _, P_18 _, P_17 _, P_16 _, P_15 _, P_14 _, P_13 _, P_12 _, P_11 _, P_10 _, P_9 _, P_8 _, P_7 _, P_6 _, P_5 _, P_4, P_3 _, P_2 _, P_1 _, P_0 _, trivial⟩ (by kernel_rfl) ?_
                            clear wf P_0 P_1 P_10 P_11 P_12 P_13 P_14 P_15 P_16 P_17 P_18 P_19 P_2 P_20 P_21 P_22 P_23 P_24 P_25 P_26 P_27 P_28 P_29 P_3 P_30 P_31 P_32 P_33 P_4 P_5 P_6 P_7 P_8 P_9
                            exact x_join true H ⟨rfl, rfl, rfl, rfl, rfl, rfl, rfl, rfl, trivial⟩
                          ·
                            refine sim_p 25 (ei := [(14, .pointer r14), (180, .bool false)]) (d := (some 181)) wf (by kernel_rfl) ⟨rfl, rfl, trivial⟩ (by kernel_rfl) (by kernel_rfl) (fun _ => pf_p tok rfl rfl rfl rfl) (fun P_25 => ?_)
                            refine sim_p 27 (ei := [(15, .pointer (some (⟨b16, 0, none⟩ : Addr))), (180, .bool false)]) (d := (some 183)) wf (by kernel_rfl) ⟨rfl, rfl, trivial⟩ (by kernel_rfl) (by kernel_rfl) (fun _ => pf_p tok rfl rfl rfl rfl) (fun P_27 => ?_)
                            refine sim_p 28 (ei := [(180, .bool false), (183, .pointer (some (⟨b16, 0, none⟩ : Addr)))]) (d := (some 184)) wf (by kernel_rfl) ⟨rfl, rfl, trivial⟩ (by kernel_rfl) (by kernel_rfl) (fun _ => pf_y rfl rfl rfl (y_nil rfl rfl)) (fun P_28 => ?_)
                            refine sim_p 29 (ei := [(180, .bool false), (184, .pointer (some (⟨b16, 0, none⟩ : Addr)))]) (d := (some 185)) wf (by kernel_rfl) ⟨rfl, rfl, trivial⟩ (by kernel_rfl) (by kernel_rfl) (fun _ => pf_p tok rfl rfl rfl rfl) (fun P_29 => ?_)
                            obtain ⟨v60, hv60, H⟩ := H
                            refine sim_l 30 (ei := [(180, .bool false), (185, .pointer (some ((⟨b16, 0, none⟩ : Addr).add 2)))]) (d := (some 186)) wf (by kernel_rfl) ⟨rfl, rfl, trivial⟩ (by kernel_rfl) (by kernel_rfl) (pf_y rfl rfl rfl (y_ld tok rfl rfl rfl rfl hv60)) (fun P_30 => ?_)
                            refine sim_c 26 [0, 1, 2, 3, 4, 5, 6, 7, 8, 9, 10, 11, 12, 13, 14, 15, 16, 17, 18, 19, 20, 21, 22, 23, 24, 25] [0, 1, 2, 3, 4, 5, 6, 7, 8, 9, 10, 11, 12, 13, 14, 15, 16, 17, 18, 19, 20, 21, 22, 23, 24, 25] (ei := [(180, .bool false), (181, .pointer r14)]) rlog_Log_Entries_ok (rlog_Log_Entries_ref _ _ _ H) wf ⟨P_30, P_29 _, P_28 _, P_27 _, P_25 _, P_24 _, P_23 _, P_22 _, P_21 _, P_20 _, P_19 _, P_18 _, P_17 _, P_16 _, P_15 _, P_14 _, P_13 _, P_12 _, P_11 _, P_10 _, P_9 _, P_8 _, P_7 _, P_6 _, P_5 _, P_4, P_3 _, P_2 _, P_1 _, P_0 _, trivial⟩ (by kernel_rfl) ⟨rfl, rfl, trivial⟩ (by kernel_rfl) rfl rfl rfl rfl rfl ?_
                            rintro _ h62 ⟨r61, rfl, H⟩
                            obtain ⟨hy63, H⟩ := H
                            refine sim_re (x := ⟨30, Slc.v v60, [(180, .bool false), (185, .pointer (some ((⟨b16, 0, none⟩ : Addr).add 2)))]⟩) (pf_y rfl rfl rfl (y_ld tok rfl rfl rfl rfl hy63)) (fun P_30 => ?_)
                            refine sim_c 31 [0, 1, 2, 3, 4, 5, 6, 7, 8, 9, 10, 11, 12, 13, 14, 15, 16, 17, 18, 19, 20, 21, 22, 23, 24, 25, 26, 27, 28, 29, 30] [0, 1, 2, 3, 4, 5, 6, 7, 8, 9, 10, 11, 12, 13, 14, 15, 16, 17, 18, 19, 20, 21, 22, 23, 24, 25, 27, 28, 29, 30] (ei := [(180, .bool false), (182, Slc.v r61), (186, Slc.v v60)]) ref23_Same_ok (ref23_Same_ref _ _ _ _ H) wf ⟨P_30, P_29 _, P_28 _, P_27 _, trivial, trivial, trivial, trivial, trivial, trivial, trivial, trivial, trivial, trivial, trivial, trivial, trivial, trivial, trivial, trivial, trivial, trivial, trivial, trivial, trivial, trivial, trivial, trivial, trivial, trivial, trivial⟩ (by kernel_rfl) ⟨rfl, rfl, rfl, trivial⟩ (by kernel_rfl) rfl rfl rfl rfl rfl ?_
                            rintro _ h65 ⟨r64, rfl, H⟩
                            refine sim_p 32 (ei := [(180, .bool false), (187, .bool r64)]) (d := (some 188)) wf (by kernel_rfl) ⟨rfl, rfl, trivial⟩ (by kernel_rfl) (by kernel_rfl) (fun _ => pf_p tok rfl rfl rfl rfl) (fun P_32 => ?_)
                            refine sim_p 33 (ei := [(180, .bool false), (188, .bool (!r64))]) (d := (some 189)) wf (by kernel_rfl) ⟨rfl, rfl, trivial⟩ (by kernel_rfl) (by kernel_rfl) (fun _ => pf_p tok rfl rfl rfl rfl) (fun P_33 => ?_)
                            refine sim_end wf ⟨P_33 _, P_32 _, trivial, trivial, trivial, trivial, trivial, trivial, trivial, trivial, trivial, trivial, trivial, trivial, trivial, trivial, trivial, trivial, trivial, trivial, trivial, trivial, trivial, trivial, trivial, trivial, trivial, trivial, trivial, trivial, trivial, trivial, trivial⟩ (by kernel_rfl) ?_
                            clear wf P_0 P_1 P_10 P_11 P_12 P_13 P_14 P_15 P_16 P_17 P_18 P_19 P_2 P_20 P_21 P_22 P_23 P_24 P_25 P_27 P_28 P_29 P_3 P_30 P_32 P_33 P_4 P_5 P_6 P_7 P_8 P_9
                            exact x_join (!r64) H ⟨rfl, rfl, rfl, rfl, rfl, rfl, rfl, rfl, trivial⟩
                    ·
                      refine sim_p 7 (ei := [(23, .int .u64 r18.2), (162, .bool false)]) (d := (some 163)) wf (by kernel_rfl) ⟨rfl, rfl, trivial⟩ (by kernel_rfl) (by kernel_rfl) (fun _ => pf_p tok rfl rfl rfl rfl) (fun P_7 => ?_)
                      refine sim_p 8 (ei := [(15, .pointer (some (⟨b16, 0, none⟩ : Addr))), (162, .bool false)]) (d := (some 164)) wf (by kernel_rfl) ⟨rfl, rfl, trivial⟩ (by kernel_rfl) (by kernel_rfl) (fun _ => pf_p tok rfl rfl rfl rfl) (fun P_8 => ?_)
                      refine sim_p 9 (ei := [(162, .bool false), (164, .pointer (some (⟨b16, 0, none⟩ : Addr)))]) (d := (some 165)) wf (by kernel_rfl) ⟨rfl, rfl, trivial⟩ (by kernel_rfl) (by kernel_rfl) (fun _ => pf_y rfl rfl rfl (y_nil rfl rfl)) (fun P_9 => ?_)
                      refine sim_p 10 (ei := [(162, .bool false), (165, .pointer (some (⟨b16, 0, none⟩ : Addr)))]) (d := (some 166)) wf (by kernel_rfl) ⟨rfl, rfl, trivial⟩ (by kernel_rfl) (by kernel_rfl) (fun _ => pf_p tok rfl rfl rfl rfl) (fun P_10 => ?_)
                      obtain ⟨v66, hv66, H⟩ := H
                      refine sim_l 11 (ei := [(162, .bool false), (166, .pointer (some ((⟨b16, 0, none⟩ : Addr).add 1)))]) (d := (some 167)) wf (by kernel_rfl) ⟨rfl, rfl, trivial⟩ (by kernel_rfl) (by kernel_rfl) (pf_y rfl rfl rfl (y_ld tok rfl rfl rfl rfl hv66)) (fun P_11 => ?_)
                      refine sim_p 12 (ei := [(162, .bool false), (163, .int .u64 r18.2), (167, .int .u64 v66)]) (d := (some 168)) wf (by kernel_rfl) ⟨rfl, rfl, rfl, trivial⟩ (by kernel_rfl) (by kernel_rfl) (fun _ => pf_p tok rfl rfl rfl rfl) (fun P_12 => ?_)
                      refine sim_p 13 (ei := [(162, .bool false), (168, .bool (r18.2 != v66))]) (d := (some 169)) wf (by kernel_rfl) ⟨rfl, rfl, trivial⟩ (by kernel_rfl) (by kernel_rfl) (fun _ => pf_p tok rfl rfl rfl rfl) (fun P_13 => ?_)
                      refine sim_p 14 (ei := [(169, .bool (r18.2 != v66))]) (d := (some 170)) wf (by kernel_rfl) ⟨rfl, trivial⟩ (by kernel_rfl) (by kernel_rfl) (fun _ => pf_p tok rfl rfl rfl rfl) (fun P_14 => ?_)
                      refine sim_gif 170 H rfl (fun hb H => ?_) (fun hb H => ?_)
                      ·
                        refine sim_p 15 (v := undef) (ei := [(24, .int .u64 r20.1), (170, .bool true)]) (d := (some 171)) wf (by kernel_rfl) ⟨rfl, rfl, trivial⟩ (by kernel_rfl) (by kernel_rfl) (fun _ => pf_s rfl rfl rfl) (fun P_15 => ?_)
                        refine sim_p 16 (v := undef) (ei := [(26, .int .u64 r22.1), (170, .bool true)]) (d := (some 172)) wf (by kernel_rfl) ⟨rfl, rfl, trivial⟩ (by kernel_rfl) (by kernel_rfl) (fun _ => pf_s rfl rfl rfl) (fun P_16 => ?_)
                        refine sim_p 17 (v := undef) (ei := [(170, .bool true)]) (d := (some 173)) wf (by kernel_rfl) ⟨rfl, trivial⟩ (by kernel_rfl) (by kernel_rfl) (fun _ => pf_s rfl rfl rfl) (fun P_17 => ?_)
                        refine sim_p 18 (ei := [(170, .bool true)]) (d := (some 174)) wf (by kernel_rfl) ⟨rfl, trivial⟩ (by kernel_rfl) (by kernel_rfl) (fun _ => pf_p tok rfl rfl rfl rfl) (fun P_18 => ?_)
                        refine sim_p 19 (ei := [(174, .bool true)]) (d := (some 175)) wf (by kernel_rfl) ⟨rfl, trivial⟩ (by kernel_rfl) (by kernel_rfl) (fun _ => pf_p tok rfl rfl rfl rfl) (fun P_19 => ?_)
                        refine sim_gif 175 H rfl (fun hb H => ?_) (fun hb H => ?_)
                        ·
                          refine sim_p 20 (v := undef) (ei := [(25, .int .u64 r20.2), (175, .bool true)]) (d := (some 176)) wf (by kernel_rfl) ⟨rfl, rfl, trivial⟩ (by kernel_rfl) (by kernel_rfl) (fun _ => pf_s rfl rfl rfl) (fun P_20 => ?_)
                          refine sim_p 21 (v := undef) (ei := [(27, .int .u64 r22.2), (175, .bool true)]) (d := (some 177)) wf (by kernel_rfl) ⟨rfl, rfl, trivial⟩ (by kernel_rfl) (by kernel_rfl) (fun _ => pf_s rfl rfl rfl) (fun P_21 => ?_)
                          refine sim_p 22 (v := undef) (ei := [(175, .bool true)]) (d := (some 178)) wf (by kernel_rfl) ⟨rfl, trivial⟩ (by kernel_rfl) (by kernel_rfl) (fun _ => pf_s rfl rfl rfl) (fun P_22 => ?_)
                          refine sim_p 23 (ei := [(175, .bool true)]) (d := (some 179)) wf (by kernel_rfl) ⟨rfl, trivial⟩ (by kernel_rfl) (by kernel_rfl) (fun _ => pf_p tok rfl rfl rfl rfl) (fun P_23 => ?_)
                          refine sim_p 24 (ei := [(179, .bool true)]) (d := (some 180)) wf (by kernel_rfl) ⟨rfl, trivial⟩ (by kernel_rfl) (by kernel_rfl) (fun _ => pf_p tok rfl rfl rfl rfl) (fun P_24 => ?_)
                          refine sim_gif 180 H rfl (fun hb H => ?_) (fun hb H => ?_)
                          ·
                            refine sim_p 25 (v := undef) (ei := [(14, .pointer r14), (180, .bool true)]) (d := (some 181)) wf (by kernel_rfl) ⟨rfl, rfl, trivial⟩ (by kernel_rfl) (by kernel_rfl) (fun _ => pf_s rfl rfl rfl) (fun P_25 => ?_)
                            refine sim_p 26 (v := undef) (ei := [(180, .bool true)]) (d := (some 182)) wf (by kernel_rfl) ⟨rfl, trivial⟩ (by kernel_rfl) (by kernel_rfl) (fun _ => pf_s rfl rfl rfl) (fun P_26 => ?_)
                            refine sim_p 27 (v := undef) (ei := [(15, .pointer (some (⟨b16, 0, none⟩ : Addr))), (180, .bool true)]) (d := (some 183)) wf (by kernel_rfl) ⟨rfl, rfl, trivial⟩ (by kernel_rfl) (by kernel_rfl) (fun _ => pf_s rfl rfl rfl) (fun P_27 => ?_)
                            refine sim_p 28 (v := undef) (ei := [(180, .bool true)]) (d := (some 184)) wf (by kernel_rfl) ⟨rfl, trivial⟩ (by kernel_rfl) (by kernel_rfl) (fun _ => pf_s rfl rfl rfl) (fun P_28 => ?_)
                            refine sim_p 29 (v := undef) (ei := [(180, .bool true)]) (d := (some 185)) wf (by kernel_rfl) ⟨rfl, trivial⟩ (by kernel_rfl) (by kernel_rfl) (fun _ => pf_s rfl rfl rfl) (fun P_29 => ?_)
                            refine sim_p 30 (v := undef) (ei := [(180, .bool true)]) (d := (some 186)) wf (by kernel_rfl) ⟨rfl, trivial⟩ (by kernel_rfl) (by kernel_rfl) (fun _ => pf_s rfl rfl rfl) (fun P_30 => ?_)
                            refine sim_p 31 (v := undef) (ei := [(180, .bool true)]) (d := (some 187)) wf (by kernel_rfl) ⟨rfl, trivial⟩ (by kernel_rfl) (by kernel_rfl) (fun _ => pf_s rfl rfl rfl) (fun P_31 => ?_)
                            refine sim_p 32 (v := undef) (ei := [(180, .bool true)]) (d := (some 188)) wf (by kernel_rfl) ⟨rfl, trivial⟩ (by kernel_rfl) (by kernel_rfl) (fun _ => pf_s rfl rfl rfl) (fun P_32 => ?_)
                            refine sim_p 33 (ei := [(180, .bool true)]) (d := (some 189)) wf (by kernel_rfl) ⟨rfl, trivial⟩ (by kernel_rfl) (by kernel_rfl) (fun _ => pf_p tok rfl rfl rfl rfl) (fun P_33 => ?_)
                            refine sim_end wf ⟨P_33 _, P_32 _, P_31 _, P_30 _, P_29 _, P_28 _, P_27 _, P_26 _, P_25 _, P_24 _, P_23 _, P_22 _, P_21 _, P_20 _, P_19 _, P_18 _, P_17 _, P_16 _, P_15 _, P_14 _, P_13 _, P_12 _, P_11, P_10 _, P_9 _, P_8 _, P_7 _, P_6 _, P_5 _, P_4, P_3 _, P_2 _, P_1 _, P_0 _, trivial⟩ (by kernel_rfl) ?_
                            clear wf P_0 P_1 P_10 P_11 P_12 P_13 P_14 P_15 P_16 P_17 P_18 P_19 P_2 P_20 P_21 P_22 P_23 P_24 P_25 P_26 P_27 P_28 P_29 P_3 P_30 P_31 P_32 P_33 P_4 P_5 P_6 P_7 P_8 P_9
                            exact x_join true H ⟨rfl, rfl, rfl, rfl, rfl, rfl, rfl, rfl, trivial⟩
                          ·
                            refine sim_p 25 (ei := [(14, .pointer r14), (180, .bool false)]) (d := (some 181)) wf (by kernel_rfl) ⟨rfl, rfl, trivial⟩ (by kernel_rfl) (by kernel_rfl) (fun _ => pf_p tok rfl rfl rfl rfl) (fun P_25 => ?_)
                            refine sim_p 27 (ei := [(15, .pointer (some (⟨b16, 0, none⟩ : Addr))), (180, .bool false)]) (d := (some 183)) wf (by kernel_rfl) ⟨rfl, rfl, trivial⟩ (by kernel_rfl) (by kernel_rfl) (fun _ => pf_p tok rfl rfl rfl rfl) (fun P_27 => ?_)
                            refine sim_p 28 (ei := [(180, .bool false), (183, .pointer (some (⟨b16, 0, none⟩ : Addr)))]) (d := (some 184)) wf (by kernel_rfl) ⟨rfl, rfl, trivial⟩ (by kernel_rfl) (by kernel_rfl) (fun _ => pf_y rfl rfl rfl (y_nil rfl rfl)) (fun P_28 => ?_)
                            refine sim_p 29 (ei := [(180, .bool false), (184, .pointer (some (⟨b16, 0, none⟩ : Addr)))]) (d := (some 185)) wf (by kernel_rfl) ⟨rfl, rfl, trivial⟩ (by kernel_rfl) (by kernel_rfl) (fun _ => pf_p tok rfl rfl rfl rfl) (fun P_29 => ?_)
                            obtain ⟨v67, hv67, H⟩ := H
                            refine sim_l 30 (ei := [(180, .bool false), (185, .pointer (some ((⟨b16, 0, none⟩ : Addr).add 2)))]) (d := (some 186)) wf (by kernel_rfl) ⟨rfl, rfl, trivial⟩ (by kernel_rfl) (by kernel_rfl) (pf_y rfl rfl rfl (y_ld tok rfl rfl rfl rfl hv67)) (fun P_30 => ?_)
                            refine sim_c 26 [0, 1, 2, 3, 4, 5, 6, 7, 8, 9, 10, 11, 12, 13, 14, 15, 16, 17, 18, 19, 20, 21, 22, 23, 24, 25] [0, 1, 2, 3, 4, 5, 6, 7, 8, 9, 10, 11, 12, 13, 14, 15, 16, 17, 18, 19, 20, 21, 22, 23, 24, 25] (ei := [(180, .bool false), (181, .pointer r14)]) rlog_Log_Entries_ok (rlog_Log_Entries_ref _ _ _ H) wf ⟨P_30, P_29 _, P_28 _, P_27 _, P_25 _, P_24 _, P_23 _, P_22 _, P_21 _, P_20 _, P_19 _, P_18 _, P_17 _, P_16 _, P_15 _, P_14 _, P_13 _, P_12 _, P_11, P_10 _, P_9 _, P_8 _, P_7 _, P_6 _, P_5 _, P_4, P_3 _, P_2 _, P_1 _, P_0 _, trivial⟩ (by kernel_rfl) ⟨rfl, rfl, trivial⟩ (by kernel_rfl) rfl rfl rfl rfl rfl ?_
                            rintro _ h69 ⟨r68, rfl, H⟩
                            obtain ⟨hy70, H⟩ := H
                            refine sim_re (x := ⟨30, Slc.v v67, [(180, .bool false), (185, .pointer (some ((⟨b16, 0, none⟩ : Addr).add 2)))]⟩) (pf_y rfl rfl rfl (y_ld tok rfl rfl rfl rfl hy70)) (fun P_30 => ?_)
                            refine sim_c 31 [0, 1, 2, 3, 4, 5, 6, 7, 8, 9, 10, 11, 12, 13, 14, 15, 16, 17, 18, 19, 20, 21, 22, 23, 24, 25, 26, 27, 28, 29, 30] [0, 1, 2, 3, 4, 5, 6, 7, 8, 9, 10, 11, 12, 13, 14, 15, 16, 17, 18, 19, 20, 21, 22, 23, 24, 25, 27, 28, 29, 30] (ei := [(180, .bool false), (182, Slc.v r68), (186, Slc.v v67)]) ref23_Same_ok (ref23_Same_ref _ _ _ _ H) wf ⟨P_30, P_29 _, P_28 _, P_27 _, trivial, trivial, trivial, trivial, trivial, trivial, trivial, trivial, trivial, trivial, trivial, trivial, trivial, trivial, trivial, trivial, trivial, trivial, trivial, trivial, trivial, trivial, trivial, trivial, trivial, trivial, trivial⟩ (by kernel_rfl) ⟨rfl, rfl, rfl, trivial⟩ (by kernel_rfl) rfl rfl rfl rfl rfl ?_
                            rintro _ h72 ⟨r71, rfl, H⟩
                            refine sim_p 32 (ei := [(180, .bool false), (187, .bool r71)]) (d := (some 188)) wf (by kernel_rfl) ⟨rfl, rfl, trivial⟩ (by kernel_rfl) (by kernel_rfl) (fun _ => pf_p tok rfl rfl rfl rfl) (fun P_32 => ?_)
                            refine sim_p 33 (ei := [(180, .bool false), (188, .bool (!r71))]) (d := (some 189)) wf (by kernel_rfl) ⟨rfl, rfl, trivial⟩ (by kernel_rfl) (by kernel_rfl) (fun _ => pf_p tok rfl rfl rfl rfl) (fun P_33 => ?_)
                            refine sim_end wf ⟨P_33 _, P_32 _, trivial, trivial, trivial, trivial, trivial, trivial, trivial, trivial, trivial, trivial, trivial, trivial, trivial, trivial, trivial, trivial, trivial, trivial, trivial, trivial, trivial, trivial, trivial, trivial, trivial, trivial, trivial, trivial, trivial, trivial, trivial⟩ (by kernel_rfl) ?_
                            clear wf P_0 P_1 P_10 P_11 P_12 P_13 P_14 P_15 P_16 P_17 P_18 P_19 P_2 P_20 P_21 P_22 P_23 P_24 P_25 P_27 P_28 P_29 P_3 P_30 P_32 P_33 P_4 P_5 P_6 P_7 P_8 P_9
                            exact x_join (!r71) H ⟨rfl, rfl, rfl, rfl, rfl, rfl, rfl, rfl, trivial⟩
                        ·
                          refine sim_p 20 (ei := [(25, .int .u64 r20.2), (175, .bool false)]) (d := (some 176)) wf (by kernel_rfl) ⟨rfl, rfl, trivial⟩ (by kernel_rfl) (by kernel_rfl) (fun _ => pf_p tok rfl rfl rfl rfl) (fun P_20 => ?_)
                          refine sim_p 21 (ei := [(27, .int .u64 r22.2), (175, .bool false)]) (d := (some 177)) wf (by kernel_rfl) ⟨rfl, rfl, trivial⟩ (by kernel_rfl) (by kernel_rfl) (fun _ => pf_p tok rfl rfl rfl rfl) (fun P_21 => ?_)
                          refine sim_p 22 (ei := [(175, .bool false), (176, .int .u64 r20.2), (177, .int .u64 r22.2)]) (d := (some 178)) wf (by kernel_rfl) ⟨rfl, rfl, rfl, trivial⟩ (by kernel_rfl) (by kernel_rfl) (fun _ => pf_p tok rfl rfl rfl rfl) (fun P_22 => ?_)
                          refine sim_p 23 (ei := [(175, .bool false), (178, .bool (r20.2 != r22.2))]) (d := (some 179)) wf (by kernel_rfl) ⟨rfl, rfl, trivial⟩ (by kernel_rfl) (by kernel_rfl) (fun _ => pf_p tok rfl rfl rfl rfl) (fun P_23 => ?_)
                          refine sim_p 24 (ei := [(179, .bool (r20.2 != r22.2))]) (d := (some 180)) wf (by kernel_rfl) ⟨rfl, trivial⟩ (by kernel_rfl) (by kernel_rfl) (fun _ => pf_p tok rfl rfl rfl rfl) (fun P_24 => ?_)
                          refine sim_gif 180 H rfl (fun hb H => ?_) (fun hb H => ?_)
                          ·
                            refine sim_p 25 (v := undef) (ei := [(14, .pointer r14), (180, .bool true)]) (d := (some 181)) wf (by kernel_rfl) ⟨rfl, rfl, trivial⟩ (by kernel_rfl) (by kernel_rfl) (fun _ => pf_s rfl rfl rfl) (fun P_25 => ?_)
                            refine sim_p 26 (v := undef) (ei := [(180, .bool true)]) (d := (some 182)) wf (by kernel_rfl) ⟨rfl, trivial⟩ (by kernel_rfl) (by kernel_rfl) (fun _ => pf_s rfl rfl rfl) (fun P_26 => ?_)
                            refine sim_p 27 (v := undef) (ei := [(15, .pointer (some (⟨b16, 0, none⟩ : Addr))), (180, .bool true)]) (d := (some 183)) wf (by kernel_rfl) ⟨rfl, rfl, trivial⟩ (by kernel_rfl) (by kernel_rfl) (fun _ => pf_s rfl rfl rfl) (fun P_27 => ?_)
                            refine sim_p 28 (v := undef) (ei := [(180, .bool true)]) (d := (some 184)) wf (by kernel_rfl) ⟨rfl, trivial⟩ (by kernel_rfl) (by kernel_rfl) (fun _ => pf_s rfl rfl rfl) (fun P_28 => ?_)
                            refine sim_p 29 (v := undef) (ei := [(180, .bool true)]) (d := (some 185)) wf (by kernel_rfl) ⟨rfl, trivial⟩ (by kernel_rfl) (by kernel_rfl) (fun _ => pf_s rfl rfl rfl) (fun P_29 => ?_)
                            refine sim_p 30 (v := undef) (ei := [(180, .bool true)]) (d := (some 186)) wf (by kernel_rfl) ⟨rfl, trivial⟩ (by kernel_rfl) (by kernel_rfl) (fun _ => pf_s rfl rfl rfl) (fun P_30 => ?_)
                            refine sim_p 31 (v := undef) (ei := [(180, .bool true)]) (d := (some 187)) wf (by kernel_rfl) ⟨rfl, trivial⟩ (by kernel_rfl) (by kernel_rfl) (fun _ => pf_s rfl rfl rfl) (fun P_31 => ?_)
                            refine sim_p 32 (v := undef) (ei := [(180, .bool true)]) (d := (some 188)) wf (by kernel_rfl) ⟨rfl, trivial⟩ (by kernel_rfl) (by kernel_rfl) (fun _ => pf_s rfl rfl rfl) (fun P_32 => ?_)
                            refine sim_p 33 (ei := [(180, .bool true)]) (d := (some 189)) wf (by kernel_rfl) ⟨rfl, trivial⟩ (by kernel_rfl) (by kernel_rfl) (fun _ => pf_p tok rfl rfl rfl rfl) (fun P_33 => ?_)
                            refine sim_end wf ⟨P_33 _, P_32 _, P_31 _, P_30 _, P_29 _, P_28 _, P_27 _, P_26 _, P_25 _, P_24 _, P_23 _, P_22 _, P_21 _, P_20 _, P_19 _, P_18 _, P_17 _, P_16 _, P_15 _, P_14 _, P_13 _, P_12 _, P_11, P_10 _, P_9 _, P_8 _, P_7 _, P_6 _, P_5 _, P_4, P_3 _, P_2 _, P_1 _, P_0 _, trivial⟩ (by kernel_rfl) ?_
                            clear wf P_0 P_1 P_10 P_11 P_12 P_13 P_14 P_15 P_16 P_17 P_18 P_19 P_2 P_20 P_21 P_22 P_23 P_24 P_25 P_26 P_27 P_28 P_29 P_3 P_30 P_31 P_32 P_33 P_4 P_5 P_6 P_7 P_8 P_9
                            exact x_join true H ⟨rfl, rfl, rfl, rfl, rfl, rfl, rfl, rfl, trivial⟩
                          ·
                            refine sim_p 25 (ei := [(14, .pointer r14), (180, .bool false)]) (d := (some 181)) wf (by kernel_rfl) ⟨rfl, rfl, trivial⟩ (by kernel_rfl) (by kernel_rfl) (fun _ => pf_p tok rfl rfl rfl rfl) (fun P_25 => ?_)
                            refine sim_p 27 (ei := [(15, .pointer (some (⟨b16, 0, none⟩ : Addr))), (180, .bool false)]) (d := (some 183)) wf (by kernel_rfl) ⟨rfl, rfl, trivial⟩ (by kernel_rfl) (by kernel_rfl) (fun _ => pf_p tok rfl rfl rfl rfl) (fun P_27 => ?_)
                            refine sim_p 28 (ei := [(180, .bool false), (183, .pointer (some (⟨b16, 0, none⟩ : Addr)))]) (d := (some 184)) wf (by kernel_rfl) ⟨rfl, rfl, trivial⟩ (by kernel_rfl) (by kernel_rfl) (fun _ => pf_y rfl rfl rfl (y_nil rfl rfl)) (fun P_28 => ?_)
                            refine sim_p 29 (ei := [(180, .bool false), (184, .pointer (some (⟨b16, 0, none⟩ : Addr)))]) (d := (some 185)) wf (by kernel_rfl) ⟨rfl, rfl, trivial⟩ (by kernel_rfl) (by kernel_rfl) (fun _ => pf_p tok rfl rfl rfl rfl) (fun P_29 => ?_)
                            obtain ⟨v73, hv73, H⟩ := H
                            refine sim_l 30 (ei := [(180, .bool false), (185, .pointer (some ((⟨b16, 0, none⟩ : Addr).add 2)))]) (d := (some 186)) wf (by kernel_rfl) ⟨rfl, rfl, trivial⟩ (by kernel_rfl) (by kernel_rfl) (pf_y rfl rfl rfl (y_ld tok rfl rfl rfl rfl hv73)) (fun P_30 => ?_)
                            refine sim_c 26 [0, 1, 2, 3, 4, 5, 6, 7, 8, 9, 10, 11, 12, 13, 14, 15, 16, 17, 18, 19, 20, 21, 22, 23, 24, 25] [0, 1, 2, 3, 4, 5, 6, 7, 8, 9, 10, 11, 12, 13, 14, 15, 16, 17, 18, 19, 20, 21, 22, 23, 24, 25] (ei := [(180, .bool false), (181, .pointer r14)]) rlog_Log_Entries_ok (rlog_Log_Entries_ref _ _ _ H) wf ⟨P_30, P_29 _, P_28 _, P_27 _, P_25 _, P_24 _, P_23 _, P_22 _, P_21 _, P_20 _, P_19 _, P_18 _, P_17 _, P_16 _, P_15 _, P_14 _, P_13 _, P_12 _, P_11, P_10 _, P_9 _, P_8 _, P_7 _, P_6 _, P_5 _, P_4, P_3 _, P_2 _, P_1 _, P_0 _, trivial⟩ (by kernel_rfl) ⟨rfl, rfl, trivial⟩ (by kernel_rfl) rfl rfl rfl rfl rfl ?_
                            rintro _ h75 ⟨r74, rfl, H⟩
                            obtain ⟨hy76, H⟩ := H
                            refine sim_re (x := ⟨30, Slc.v v73, [(180, .bool false), (185, .pointer (some ((⟨b16, 0, none⟩ : Addr).add 2)))]⟩) (pf_y rfl rfl rfl (y_ld tok rfl rfl rfl rfl hy76)) (fun P_30 => ?_)
                            refine sim_c 31 [0, 1, 2, 3, 4, 5, 6, 7, 8, 9, 10, 11, 12, 13, 14, 15, 16, 17, 18, 19, 20, 21, 22, 23, 24, 25, 26, 27, 28, 29, 30] [0, 1, 2, 3, 4, 5, 6, 7, 8, 9, 10, 11, 12, 13, 14, 15, 16, 17, 18, 19, 20, 21, 22, 23, 24, 25, 27, 28, 29, 30] (ei := [(180, .bool false), (182, Slc.v r74), (186, Slc.v v73)]) ref23_Same_ok (ref23_Same_ref _ _ _ _ H) wf ⟨P_30, P_29 _, P_28 _, P_27 _, trivial, trivial, trivial, trivial, trivial, trivial, trivial, trivial, trivial, trivial, trivial, trivial, trivial, trivial, trivial, trivial, trivial, trivial, trivial, trivial, trivial, trivial, trivial, trivial, trivial, trivial, trivial⟩ (by kernel_rfl) ⟨rfl, rfl, rfl, trivial⟩ (by kernel_rfl) rfl rfl rfl rfl rfl ?_
                            rintro _ h78 ⟨r77, rfl, H⟩
                            refine sim_p 32 (ei := [(180, .bool false), (187, .bool r77)]) (d := (some 188)) wf (by kernel_rfl) ⟨rfl, rfl, trivial⟩ (by kernel_rfl) (by kernel_rfl) (fun _ => pf_p tok rfl rfl rfl rfl) (fun P_32 => ?_)
                            refine sim_p 33 (ei := [(180, .bool false), (188, .bool (!r77))]) (d := (some 189)) wf (by kernel_rfl) ⟨rfl, rfl, trivial⟩ (by kernel_rfl) (by kernel_rfl) (fun _ => pf_p tok rfl rfl rfl rfl) (fun P_33 => ?_)
                            refine sim_end wf ⟨P_33 _, P_32 _, trivial, trivial, trivial, trivial, trivial, trivial, trivial, trivial, trivial, trivial, trivial, trivial, trivial, trivial, trivial, trivial, trivial, trivial, trivial, trivial, trivial, trivial, trivial, trivial, trivial, trivial, trivial, trivial, trivial, trivial, trivial⟩ (by kernel_rfl) ?_
                            clear wf P_0 P_1 P_10 P_11 P_12 P_13 P_14 P_15 P_16 P_17 P_18 P_19 P_2 P_20 P_21 P_22 P_23 P_24 P_25 P_27 P_28 P_29 P_3 P_30 P_32 P_33 P_4 P_5 P_6 P_7 P_8 P_9
                            exact x_join (!r77) H ⟨rfl, rfl, rfl, rfl, rfl, rfl, rfl, rfl, trivial⟩
                      ·
                        refine sim_p 15 (ei := [(24, .int .u64 r20.1), (170, .bool false)]) (d := (some 171)) wf (by kernel_rfl) ⟨rfl, rfl, trivial⟩ (by kernel_rfl) (by kernel_rfl) (fun _ => pf_p tok rfl rfl rfl rfl) (fun P_15 => ?_)
                        refine sim_p 16 (ei := [(26, .int .u64 r22.1), (170, .bool false)]) (d := (some 172)) wf (by kernel_rfl) ⟨rfl, rfl, trivial⟩ (by kernel_rfl) (by kernel_rfl) (fun _ => pf_p tok rfl rfl rfl rfl) (fun P_16 => ?_)
                        refine sim_p 17 (ei := [(170, .bool false), (171, .int .u64 r20.1), (172, .int .u64 r22.1)]) (d := (some 173)) wf (by kernel_rfl) ⟨rfl, rfl, rfl, trivial⟩ (by kernel_rfl) (by kernel_rfl) (fun _ => pf_p tok rfl rfl rfl rfl) (fun P_17 => ?_)
                        refine sim_p 18 (ei := [(170, .bool false), (173, .bool (r20.1 != r22.1))]) (d := (some 174)) wf (by kernel_rfl) ⟨rfl, rfl, trivial⟩ (by kernel_rfl) (by kernel_rfl) (fun _ => pf_p tok rfl rfl rfl rfl) (fun P_18 => ?_)
                        refine sim_p 19 (ei := [(174, .bool (r20.1 != r22.1))]) (d := (some 175)) wf (by kernel_rfl) ⟨rfl, trivial⟩ (by kernel_rfl) (by kernel_rfl) (fun _ => pf_p tok rfl rfl rfl rfl) (fun P_19 => ?_)
                        refine sim_gif 175 H rfl (fun hb H => ?_) (fun hb H => ?_)
                        ·
                          refine sim_p 20 (v := undef) (ei := [(25, .int .u64 r20.2), (175, .bool true)]) (d := (some 176)) wf (by kernel_rfl) ⟨rfl, rfl, trivial⟩ (by kernel_rfl) (by kernel_rfl) (fun _ => pf_s rfl rfl rfl) (fun P_20 => ?_)
                          refine sim_p 21 (v := undef) (ei := [(27, .int .u64 r22.2), (175, .bool true)]) (d := (some 177)) wf (by kernel_rfl) ⟨rfl, rfl, trivial⟩ (by kernel_rfl) (by kernel_rfl) (fun _ => pf_s rfl rfl rfl) (fun P_21 => ?_)
                          refine sim_p 22 (v := undef) (ei := [(175, .bool true)]) (d := (some 178)) wf (by kernel_rfl) ⟨rfl, trivial⟩ (by kernel_rfl) (by kernel_rfl) (fun _ => pf_s rfl rfl rfl) (fun P_22 => ?_)
                          refine sim_p 23 (ei := [(175, .bool true)]) (d := (some 179)) wf (by kernel_rfl) ⟨rfl, trivial⟩ (by kernel_rfl) (by kernel_rfl) (fun _ => pf_p tok rfl rfl rfl rfl) (fun P_23 => ?_)
                          refine sim_p 24 (ei := [(179, .bool true)]) (d := (some 180)) wf (by kernel_rfl) ⟨rfl, trivial⟩ (by kernel_rfl) (by kernel_rfl) (fun _ => pf_p tok rfl rfl rfl rfl) (fun P_24 => ?_)
                          refine sim_gif 180 H rfl (fun hb H => ?_) (fun hb H => ?_)
                          ·
                            refine sim_p 25 (v := undef) (ei := [(14, .pointer r14), (180, .bool true)]) (d := (some 181)) wf (by kernel_rfl) ⟨rfl, rfl, trivial⟩ (by kernel_rfl) (by kernel_rfl) (fun _ => pf_s rfl rfl rfl) (fun P_25 => ?_)
                            refine sim_p 26 (v := undef) (ei := [(180, .bool true)]) (d := (some 182)) wf (by kernel_rfl) ⟨rfl, trivial⟩ (by kernel_rfl) (by kernel_rfl) (fun _ => pf_s rfl rfl rfl) (fun P_26 => ?_)
                            refine sim_p 27 (v := undef) (ei := [(15, .pointer (some (⟨b16, 0, none⟩ : Addr))), (180, .bool true)]) (d := (some 183)) wf (by kernel_rfl) ⟨rfl, rfl, trivial⟩ (by kernel_rfl) (by kernel_rfl) (fun _ => pf_s rfl rfl rfl) (fun P_27 => ?_)
                            refine sim_p 28 (v := undef) (ei := [(180, .bool true)]) (d := (some 184)) wf (by kernel_rfl) ⟨rfl, trivial⟩ (by kernel_rfl) (by kernel_rfl) (fun _ => pf_s rfl rfl rfl) (fun P_28 => ?_)
                            refine sim_p 29 (v := undef) (ei := [(180, .bool true)]) (d := (some 185)) wf (by kernel_rfl) ⟨rfl, trivial⟩ (by kernel_rfl) (by kernel_rfl) (fun _ => pf_s rfl rfl rfl) (fun P_29 => ?_)
                            refine sim_p 30 (v := undef) (ei := [(180, .bool true)]) (d := (some 186)) wf (by kernel_rfl) ⟨rfl, trivial⟩ (by kernel_rfl) (by kernel_rfl) (fun _ => pf_s rfl rfl rfl) (fun P_30 => ?_)
                            refine sim_p 31 (v := undef) (ei := [(180, .bool true)]) (d := (some 187)) wf (by kernel_rfl) ⟨rfl, trivial⟩ (by kernel_rfl) (by kernel_rfl) (fun _ => pf_s rfl rfl rfl) (fun P_31 => ?_)
                            refine sim_p 32 (v := undef) (ei := [(180, .bool true)]) (d := (some 188)) wf (by kernel_rfl) ⟨rfl, trivial⟩ (by kernel_rfl) (by kernel_rfl) (fun _ => pf_s rfl rfl rfl) (fun P_32 => ?_)
                            refine sim_p 33 (ei := [(180, .bool true)]) (d := (some 189)) wf (by kernel_rfl) ⟨rfl, trivial⟩ (by kernel_rfl) (by kernel_rfl) (fun _ => pf_p tok rfl rfl rfl rfl) (fun P_33 => ?_)
                            refine sim_end wf ⟨P_33 _, P_32 _, P_31 _, P_30 _, P_29 _, P_28 _, P_27 _, P_26 _, P_25 _, P_24 _, P_23 _, P_22 _, P_21 _, P_20 _, P_19 _, P_18 _, P_17 _, P_16 _, P_15 _, P_14 _, P_13 _, P_12 _, P_11, P_10 _, P_9 _, P_8 _, P_7 _, P_6 _, P_5 _, P_4, P_3 _, P_2 _, P_1 _, P_0 _, trivial⟩ (by kernel_rfl) ?_
                            clear wf P_0 P_1 P_10 P_11 P_12 P_13 P_14 P_15 P_16 P_17 P_18 P_19 P_2 P_20 P_21 P_22 P_23 P_24 P_25 P_26 P_27 P_28 P_29 P_3 P_30 P_31 P_32 P_33 P_4 P_5 P_6 P_7 P_8 P_9
                            exact x_join true H ⟨rfl, rfl, rfl, rfl, rfl, rfl, rfl, rfl, trivial⟩
                          ·
                            refine sim_p 25 (ei := [(14, .pointer r14), (180, .bool false)]) (d := (some 181)) wf (by kernel_rfl) ⟨rfl, rfl, trivial⟩ (by kernel_rfl) (by kernel_rfl) (fun _ => pf_p tok rfl rfl rfl rfl) (fun P_25 => ?_)
                            refine sim_p 27 (ei := [(15, .pointer (some (⟨b16, 0, none⟩ : Addr))), (180, .bool false)]) (d := (some 183)) wf (by kernel_rfl) ⟨rfl, rfl, trivial⟩ (by kernel_rfl) (by kernel_rfl) (fun _ => pf_p tok rfl rfl rfl rfl) (fun P_27 => ?_)
                            refine sim_p 28 (ei := [(180, .bool false), (183, .pointer (some (⟨b16, 0, none⟩ : Addr)))]) (d := (some 184)) wf (by kernel_rfl) ⟨rfl, rfl, trivial⟩ (by kernel_rfl) (by kernel_rfl) (fun _ => pf_y rfl rfl rfl (y_nil rfl rfl)) (fun P_28 => ?_)
                            refine sim_p 29 (ei := [(180, .bool false), (184, .pointer (some (⟨b16, 0, none⟩ : Addr)))]) (d := (some 185)) wf (by kernel_rfl) ⟨rfl, rfl, trivial⟩ (by kernel_rfl) (by kernel_rfl) (fun _ => pf_p tok rfl rfl rfl rfl) (fun P_29 => ?_)
                            obtain ⟨v79, hv79, H⟩ := H
                            refine sim_l 30 (ei := [(180, .bool false), (185, .pointer (some ((⟨b16, 0, none⟩ : Addr).add 2)))]) (d := (some 186)) wf (by kernel_rfl) ⟨rfl, rfl, trivial⟩ (by kernel_rfl) (by kernel_rfl) (pf_y rfl rfl rfl (y_ld tok rfl rfl rfl rfl hv79)) (fun P_30 => ?_)
                            refine sim_c 26 [0, 1, 2, 3, 4, 5, 6, 7, 8, 9, 10, 11, 12, 13, 14, 15, 16, 17, 18, 19, 20, 21, 22, 23, 24, 25] [0, 1, 2, 3, 4, 5, 6, 7, 8, 9, 10, 11, 12, 13, 14, 15, 16, 17, 18, 19, 20, 21, 22, 23, 24, 25] (ei := [(180, .bool false), (181, .pointer r14)]) rlog_Log_Entries_ok (rlog_Log_Entries_ref _ _ _ H) wf ⟨P_30, P_29 _, P_28 _, P_27 _, P_25 _, P_24 _, P_23 _, P_22 _, P_21 _, P_20 _, P_19 _, P_18 _, P_17 _, P_16 _, P_15 _, P_14 _, P_13 _, P_12 _, P_11, P_10 _, P_9 _, P_8 _, P_7 _, P_6 _, P_5 _, P_4, P_3 _, P_2 _, P_1 _, P_0 _, trivial⟩ (by kernel_rfl) ⟨rfl, rfl, trivial⟩ (by kernel_rfl) rfl rfl rfl rfl rfl ?_
                            rintro _ h81 ⟨r80, rfl, H⟩
                            obtain ⟨hy82, H⟩ := H
                            refine sim_re (x := ⟨30, Slc.v v79, [(180, .bool false), (185, .pointer (some ((⟨b16, 0, none⟩ : Addr).add 2)))]⟩) (pf_y rfl rfl rfl (y_ld tok rfl rfl rfl rfl hy82)) (fun P_30 => ?_)
                            refine sim_c 31 [0, 1, 2, 3, 4, 5, 6, 7, 8, 9, 10, 11, 12, 13, 14, 15, 16, 17, 18, 19, 20, 21, 22, 23, 24, 25, 26, 27, 28, 29, 30] [0, 1, 2, 3, 4, 5, 6, 7, 8, 9, 10, 11, 12, 13, 14, 15, 16, 17, 18, 19, 20, 21, 22, 23, 24, 25, 27, 28, 29, 30] (ei := [(180, .bool false), (182, Slc.v r80), (186, Slc.v v79)]) ref23_Same_ok (ref23_Same_ref _ _ _ _ H) wf ⟨P_30, P_29 _, P_28 _, P_27 _, trivial, trivial, trivial, trivial, trivial, trivial, trivial, trivial, trivial, trivial, trivial, trivial, trivial, trivial, trivial, trivial, trivial, trivial, trivial, trivial, trivial, trivial, trivial, trivial, trivial, trivial, trivial⟩ (by kernel_rfl) ⟨rfl, rfl, rfl, trivial⟩ (by kernel_rfl) rfl rfl rfl rfl rfl ?_
                            rintro _ h84 ⟨r83, rfl, H⟩
                            refine sim_p 32 (ei := [(180, .bool false), (187, .bool r83)]) (d := (some 188)) wf (by kernel_rfl) ⟨rfl, rfl, trivial⟩ (by kernel_rfl) (by kernel_rfl) (fun _ => pf_p tok rfl rfl rfl rfl) (fun P_32 => ?_)
                            refine sim_p 33 (ei := [(180, .bool false), (188, .bool (!r83))]) (d := (some 189)) wf (by kernel_rfl) ⟨rfl, rfl, trivial⟩ (by kernel_rfl) (by kernel_rfl) (fun _ => pf_p tok rfl rfl rfl rfl) (fun P_33 => ?_)
                            refine sim_end wf ⟨P_33 _, P_32 _, trivial, trivial, trivial, trivial, trivial, trivial, trivial, trivial, trivial, trivial, trivial, trivial, trivial, trivial, trivial, trivial, trivial, trivial, trivial, trivial, trivial, trivial, trivial, trivial, trivial, trivial, trivial, trivial, trivial, trivial, trivial⟩ (by kernel_rfl) ?_
                            clear wf P_0 P_1 P_10 P_11 P_12 P_13 P_14 P_15 P_16 P_17 P_18 P_19 P_2 P_20 P_21 P_22 P_23 P_24 P_25 P_27 P_28 P_29 P_3 P_30 P_32 P_33 P_4 P_5 P_6 P_7 P_8 P_9
                            exact x_join (!r83) H ⟨rfl, rfl, rfl, rfl, rfl, rfl, rfl, rfl, trivial⟩
                        ·
                          refine sim_p 20 (ei := [(25, .int .u64 r20.2), (175, .bool false)]) (d := (some 176)) wf (by kernel_rfl) ⟨rfl, rfl, trivial⟩ (by kernel_rfl) (by kernel_rfl) (fun _ => pf_p tok rfl rfl rfl rfl) (fun P_20 => ?_)
                          refine sim_p 21 (ei := [(27, .int .u64 r22.2), (175, .bool false)]) (d := (some 177)) wf (by kernel_rfl) ⟨rfl, rfl, trivial⟩ (by kernel_rfl) (by kernel_rfl) (fun _ => pf_p tok rfl rfl rfl rfl) (fun P_21 => ?_)
                          refine sim_p 22 (ei := [(175, .bool false), (176, .int .u64 r20.2), (177, .int .u64 r22.2)]) (d := (some 178)) wf (by kernel_rfl) ⟨rfl, rfl, rfl, trivial⟩ (by kernel_rfl) (by kernel_rfl) (fun _ => pf_p tok rfl rfl rfl rfl) (fun P_22 => ?_)
                          refine sim_p 23 (ei := [(175, .bool false), (178, .bool (r20.2 != r22.2))]) (d := (some 179)) wf (by kernel_rfl) ⟨rfl, rfl, trivial⟩ (by kernel_rfl) (by kernel_rfl) (fun _ => pf_p tok rfl rfl rfl rfl) (fun P_23 => ?_)
                          refine sim_p 24 (ei := [(179, .bool (r20.2 != r22.2))]) (d := (some 180)) wf (by kernel_rfl) ⟨rfl, trivial⟩ (by kernel_rfl) (by kernel_rfl) (fun _ => pf_p tok rfl rfl rfl rfl) (fun P_24 => ?_)
                          refine sim_gif 180 H rfl (fun hb H => ?_) (fun hb H => ?_)
                          ·
                            refine sim_p 25 (v := undef) (ei := [(14, .pointer r14), (180, .bool true)]) (d := (some 181)) wf (by kernel_rfl) ⟨rfl, rfl, trivial⟩ (by kernel_rfl) (by kernel_rfl) (fun _ => pf_s rfl rfl rfl) (fun P_25 => ?_)
                            refine sim_p 26 (v := undef) (ei := [(180, .bool true)]) (d := (some 182)) wf (by kernel_rfl) ⟨rfl, trivial⟩ (by kernel_rfl) (by kernel_rfl) (fun _ => pf_s rfl rfl rfl) (fun P_26 => ?_)
                            refine sim_p 27 (v := undef) (ei := [(15, .pointer (some (⟨b16, 0, none⟩ : Addr))), (180, .bool true)]) (d := (some 183)) wf (by kernel_rfl) ⟨rfl, rfl, trivial⟩ (by kernel_rfl) (by kernel_rfl) (fun _ => pf_s rfl rfl rfl) (fun P_27 => ?_)
                            refine sim_p 28 (v := undef) (ei := [(180, .bool true)]) (d := (some 184)) wf (by kernel_rfl) ⟨rfl, trivial⟩ (by kernel_rfl) (by kernel_rfl) (fun _ => pf_s rfl rfl rfl) (fun P_28 => ?_)
                            refine sim_p 29 (v := undef) (ei := [(180, .bool true)]) (d := (some 185)) wf (by kernel_rfl) ⟨rfl, trivial⟩ (by kernel_rfl) (by kernel_rfl) (fun _ => pf_s rfl rfl rfl) (fun P_29 => ?_)
                            refine sim_p 30 (v := undef) (ei := [(180, .bool true)]) (d := (some 186)) wf (by kernel_rfl) ⟨rfl, trivial⟩ (by kernel_rfl) (by kernel_rfl) (fun _ => pf_s rfl rfl rfl) (fun P_30 => ?_)
                            refine sim_p 31 (v := undef) (ei := [(180, .bool true)]) (d := (some 187)) wf (by kernel_rfl) ⟨rfl, trivial⟩ (by kernel_rfl) (by kernel_rfl) (fun _ => pf_s rfl rfl rfl) (fun P_31 => ?_)
                            refine sim_p 32 (v := undef) (ei := [(180, .bool true)]) (d := (some 188)) wf (by kernel_rfl) ⟨rfl, trivial⟩ (by kernel_rfl) (by kernel_rfl) (fun _ => pf_s rfl rfl rfl) (fun P_32 => ?_)
                            refine sim_p 33 (ei := [(180, .bool true)]) (d := (some 189)) wf (by kernel_rfl) ⟨rfl, trivial⟩ (by kernel_rfl) (by kernel_rfl) (fun _ => pf_p tok rfl rfl rfl rfl) (fun P_33 => ?_)
                            refine sim_end wf ⟨P_33 _, P_32 _, P_31 _, P_30 _, P_29 _, P_28 _, P_27 _, P_26 _, P_25 _, P_24 _, P_23 _, P_22 _, P_21 _, P_20 _, P_19 _, P_18 _, P_17 _, P_16 _, P_15 _, P_14 _, P_13 _, P_12 _, P_11, P_10 _, P_9 _, P_8 _, P_7 _, P_6 _, P_5 _, P_4, P_3 _, P_2 _, P_1 _, P_0 _, trivial⟩ (by kernel_rfl) ?_
                            clear wf P_0 P_1 P_10 P_11 P_12 P_13 P_14 P_15 P_16 P_17 P_18 P_19 P_2 P_20 P_21 P_22 P_23 P_24 P_25 P_26 P_27 P_28 P_29 P_3 P_30 P_31 P_32 P_33 P_4 P_5 P_6 P_7 P_8 P_9
                            exact x_join true H ⟨rfl, rfl, rfl, rfl, rfl, rfl, rfl, rfl, trivial⟩
                          ·
                            refine sim_p 25 (ei := [(14, .pointer r14), (180, .bool false)]) (d := (some 181)) wf (by kernel_rfl) ⟨rfl, rfl, trivial⟩ (by kernel_rfl) (by kernel_rfl) (fun _ => pf_p tok rfl rfl rfl rfl) (fun P_25 => ?_)
                            refine sim_p 27 (ei := [(15, .pointer (some (⟨b16, 0, none⟩ : Addr))), (180, .bool false)]) (d := (some 183)) wf (by kernel_rfl) ⟨rfl, rfl, trivial⟩ (by kernel_rfl) (by kernel_rfl) (fun _ => pf_p tok rfl rfl rfl rfl) (fun P_27 => ?_)
                            refine sim_p 28 (ei := [(180, .bool false), (183, .pointer (some (⟨b16, 0, none⟩ : Addr)))]) (d := (some 184)) wf (by kernel_rfl) ⟨rfl, rfl, trivial⟩ (by kernel_rfl) (by kernel_rfl) (fun _ => pf_y rfl rfl rfl (y_nil rfl rfl)) (fun P_28 => ?_)
                            refine sim_p 29 (ei := [(180, .bool false), (184, .pointer (some (⟨b16, 0, none⟩ : Addr)))]) (d := (some 185)) wf (by kernel_rfl) ⟨rfl, rfl, trivial⟩ (by kernel_rfl) (by kernel_rfl) (fun _ => pf_p tok rfl rfl rfl rfl) (fun P_29 => ?_)
                            obtain ⟨v85, hv85, H⟩ := H
                            refine sim_l 30 (ei := [(180, .bool false), (185, .pointer (some ((⟨b16, 0, none⟩ : Addr).add 2)))]) (d := (some 186)) wf (by kernel_rfl) ⟨rfl, rfl, trivial⟩ (by kernel_rfl) (by kernel_rfl) (pf_y rfl rfl rfl (y_ld tok rfl rfl rfl rfl hv85)) (fun P_30 => ?_)
                            refine sim_c 26 [0, 1, 2, 3, 4, 5, 6, 7, 8, 9, 10, 11, 12, 13, 14, 15, 16, 17, 18, 19, 20, 21, 22, 23, 24, 25] [0, 1, 2, 3, 4, 5, 6, 7, 8, 9, 10, 11, 12, 13, 14, 15, 16, 17, 18, 19, 20, 21, 22, 23, 24, 25] (ei := [(180, .bool false), (181, .pointer r14)]) rlog_Log_Entries_ok (rlog_Log_Entries_ref _ _ _ H) wf ⟨P_30, P_29 _, P_28 _, P_27 _, P_25 _, P_24 _, P_23 _, P_22 _, P_21 _, P_20 _, P_19 _, P_18 _, P_17 _, P_16 _, P_15 _, P_14 _, P_13 _, P_12 _, P_11, P_10 _, P_9 _, P_8 _, P_7 _, P_6 _, P_5 _, P_4, P_3 _, P_2 _, P_1 _, P_0 _, trivial⟩ (by kernel_rfl) ⟨rfl, rfl, trivial⟩ (by kernel_rfl) rfl rfl rfl rfl rfl ?_
                            rintro _ h87 ⟨r86, rfl, H⟩
                            obtain ⟨hy88, H⟩ := H
                            refine sim_re (x := ⟨30, Slc.v v85, [(180, .bool false), (185, .pointer (some ((⟨b16, 0, none⟩ : Addr).add 2)))]⟩) (pf_y rfl rfl rfl (y_ld tok rfl rfl rfl rfl hy88)) (fun P_30 => ?_)
                            refine sim_c 31 [0, 1, 2, 3, 4, 5, 6, 7, 8, 9, 10, 11, 12, 13, 14, 15, 16, 17, 18, 19, 20, 21, 22, 23, 24, 25, 26, 27, 28, 29, 30] [0, 1, 2, 3, 4, 5, 6, 7, 8, 9, 10, 11, 12, 13, 14, 15, 16, 17, 18, 19, 20, 21, 22, 23, 24, 25, 27, 28, 29, 30] (ei := [(180, .bool false), (182, Slc.v r86), (186, Slc.v v85)]) ref23_Same_ok (ref23_Same_ref _ _ _ _ H) wf ⟨P_30, P_29 _, P_28 _, P_27 _, trivial, trivial, trivial, trivial, trivial, trivial, trivial, trivial, trivial, trivial, trivial, trivial, trivial, trivial, trivial, trivial, trivial, trivial, trivial, trivial, trivial, trivial, trivial, trivial, trivial, trivial, trivial⟩ (by kernel_rfl) ⟨rfl, rfl, rfl, trivial⟩ (by kernel_rfl) rfl rfl rfl rfl rfl ?_
                            rintro _ h90 ⟨r89, rfl, H⟩
                            refine sim_p 32 (ei := [(180, .bool false), (187, .bool r89)]) (d := (some 188)) wf (by kernel_rfl) ⟨rfl, rfl, trivial⟩ (by kernel_rfl) (by kernel_rfl) (fun _ => pf_p tok rfl rfl rfl rfl) (fun P_32 => ?_)
                            refine sim_p 33 (ei := [(180, .bool false), (188, .bool (!r89))]) (d := (some 189)) wf (by kernel_rfl) ⟨rfl, rfl, trivial⟩ (by kernel_rfl) (by kernel_rfl) (fun _ => pf_p tok rfl rfl rfl rfl) (fun P_33 => ?_)
                            refine sim_end wf ⟨P_33 _, P_32 _, trivial, trivial, trivial, trivial, trivial, trivial, trivial, trivial, trivial, trivial, trivial, trivial, trivial, trivial, trivial, trivial, trivial, trivial, trivial, trivial, trivial, trivial, trivial, trivial, trivial, trivial, trivial, trivial, trivial, trivial, trivial⟩ (by kernel_rfl) ?_
                            clear wf P_0 P_1 P_10 P_11 P_12 P_13 P_14 P_15 P_16 P_17 P_18 P_19 P_2 P_20 P_21 P_22 P_23 P_24 P_25 P_27 P_28 P_29 P_3 P_30 P_32 P_33 P_4 P_5 P_6 P_7 P_8 P_9
                            exact x_join (!r89) H ⟨rfl, rfl, rfl, rfl, rfl, rfl, rfl, rfl, trivial⟩
                ·
                  refine c_seq ?_
                  refine c_region ?_
                  refine w_p tok rfl rfl rfl ?_
                  refine w_p tok rfl rfl rfl ?_
                  refine w_end ?_
                  refine x_seq ?_
                  refine c_if H rfl (fun H => ?_) (fun H => ?_)
                  ·
                    refine c_seq ?_
                    refine c_region ?_
                    refine w_p tok rfl rfl rfl ?_
                    refine w_p tok rfl rfl rfl ?_
                    refine w_p tok rfl rfl rfl ?_
                    obtain ⟨a91, ha91, la91, ua91, H⟩ := H
                    refine w_y (y_ixa' tok rfl rfl ha91 rfl rfl rfl la91 ua91) rfl rfl ?_
                    obtain ⟨v92, hv92, H⟩ := H
                    refine w_y (y_lda tok rfl rfl rfl rfl rfl hv92) rfl rfl ?_
                    obtain ⟨b93, h94, eb93, eh94, H⟩ := H
                    refine w_h (h_alloc tok rfl rfl eb93 eh94) rfl rfl ?_
                    obtain ⟨h95, wh95, eh95, H⟩ := H
                    refine w_h (h_sts tok rfl rfl rfl rfl rfl (by simp [S_quaestorlaw23_Act.cs, Slc.v, Value.oneCell']) wh95 eh95) rfl rfl ?_
                    refine w_end ?_
                    refine x_seq ?_
                    refine c_weak [(1, .int .u64 p1), (3, Slc.v p3), (4, .int .u64 p4), (5, .int .i64 p5), (14, .pointer r14), (15, .pointer (some (⟨b16, 0, none⟩ : Addr))), (16, .int .i64 t16_3), (17, .pointer (some (⟨b93, 0, none⟩ : Addr)))] ⟨rfl, rfl, rfl, rfl, rfl, rfl, rfl, rfl, trivial⟩ ?_
                    refine c_seq ?_
                    refine c_region ?_
                    refine w_p tok rfl rfl rfl ?_
                    obtain ⟨v96, hv96, H⟩ := H
                    refine w_y (y_ld tok rfl rfl rfl rfl hv96) rfl rfl ?_
                    refine w_call ref01_Pick_ok (ref01_Pick_ref _ _ _ _ H) rfl rfl rfl rfl ?_
                    rintro _ h98 ⟨r97, rfl, H⟩
                    refine w_p tok rfl rfl rfl ?_
                    refine w_end ?_
                    refine x_seq ?_
                    refine c_if H rfl (fun H => ?_) (fun H => ?_)
                    ·
                      refine c_seq ?_
                      refine c_sim [(1, .int .u64 p1), (3, Slc.v p3), (4, .int .u64 p4), (5, .int .i64 p5), (14, .pointer r14), (15, .pointer (some (⟨b16, 0, none⟩ : Addr))), (16, .int .i64 t16_3), (17, .pointer (some (⟨b93, 0, none⟩ : Addr)))] (by kernel_rfl) (by kernel_rfl) ⟨rfl, rfl, rfl, rfl, rfl, rfl, rfl, rfl, trivial⟩ (fun wf => ?_)
                      refine sim_p 0 (ei := [(14, .pointer r14)]) (d := (some 102)) wf (by kernel_rfl) ⟨rfl, trivial⟩ (by kernel_rfl) (by kernel_rfl) (fun _ => pf_p tok rfl rfl rfl rfl) (fun P_0 => ?_)
                      refine sim_p 1 (ei := [(17, .pointer (some (⟨b93, 0, none⟩ : Addr)))]) (d := (some 103)) wf (by kernel_rfl) ⟨rfl, trivial⟩ (by kernel_rfl) (by kernel_rfl) (fun _ => pf_p tok rfl rfl rfl rfl) (fun P_1 => ?_)
                      obtain ⟨v99, hv99, H⟩ := H
                      refine sim_l 2 (ei := [(103, .pointer (some ((⟨b93, 0, none⟩ : Addr).add 1)))]) (d := (some 104)) wf (by kernel_rfl) ⟨rfl, trivial⟩ (by kernel_rfl) (by kernel_rfl) (pf_y rfl rfl rfl (y_ld tok rfl rfl rfl rfl hv99)) (fun P_2 => ?_)
                      refine sim_p 4 (ei := [(15, .pointer (some (⟨b16, 0, none⟩ : Addr)))]) (d := (some 106)) wf (by kernel_rfl) ⟨rfl, trivial⟩ (by kernel_rfl) (by kernel_rfl) (fun _ => pf_p tok rfl rfl rfl rfl) (fun P_4 => ?_)
                      refine sim_p 5 (ei := [(17, .pointer (some (⟨b93, 0, none⟩ : Addr)))]) (d := (some 107)) wf (by kernel_rfl) ⟨rfl, trivial⟩ (by kernel_rfl) (by kernel_rfl) (fun _ => pf_p tok rfl rfl rfl rfl) (fun P_5 => ?_)
                      obtain ⟨v100, hv100, H⟩ := H
                      refine sim_l 6 (ei := [(107, .pointer (some ((⟨b93, 0, none⟩ : Addr).add 1)))]) (d := (some 108)) wf (by kernel_rfl) ⟨rfl, trivial⟩ (by kernel_rfl) (by kernel_rfl) (pf_y rfl rfl rfl (y_ld tok rfl rfl rfl rfl hv100)) (fun P_6 => ?_)
                      refine sim_c 3 [0, 1, 2] [0, 1, 2] (ei := [(102, .pointer r14), (104, .int .u64 v99)]) rlog_Log_Cut_ok (rlog_Log_Cut_ref _ _ _ _ H) wf ⟨P_6, P_5 _, P_4 _, P_2, P_1 _, P_0 _, trivial⟩ (by kernel_rfl) ⟨rfl, rfl, trivial⟩ (by kernel_rfl) rfl rfl rfl rfl rfl ?_
                      rintro _ h102 ⟨r101, rfl, H⟩
                      obtain ⟨hy103, H⟩ := H
                      refine sim_re (x := ⟨6, .int .u64 v100, [(107, .pointer (some ((⟨b93, 0, none⟩ : Addr).add 1)))]⟩) (pf_y rfl rfl rfl (y_ld tok rfl rfl rfl rfl hy103)) (fun P_6 => ?_)
                      refine sim_c 7 [0, 1, 2, 3, 4, 5, 6] [0, 1, 2, 4, 5, 6] (ei := [(106, .pointer (some (⟨b16, 0, none⟩ : Addr))), (108, .int .u64 v100)]) ref23_Log_Cut_ok (ref23_Log_Cut_ref _ _ _ _ H) wf ⟨P_6, P_5 _, P_4 _, trivial, trivial, trivial, trivial⟩ (by kernel_rfl) ⟨rfl, rfl, trivial⟩ (by kernel_rfl) rfl rfl rfl rfl rfl ?_
                      rintro _ h105 ⟨r104, rfl, H⟩
                      refine sim_p 8 (ei := [(105, .int .i64 r101), (109, .int .i64 r104)]) (d := (some 110)) wf (by kernel_rfl) ⟨rfl, rfl, trivial⟩ (by kernel_rfl) (by kernel_rfl) (fun _ => pf_p tok rfl rfl rfl rfl) (fun P_8 => ?_)
                      refine sim_end wf ⟨P_8 _, trivial, trivial, trivial, trivial, trivial, trivial, trivial⟩ (by kernel_rfl) ?_
                      clear wf P_0 P_1 P_2 P_4 P_5 P_6 P_8
                      refine x_seq ?_
                      refine c_weak [(1, .int .u64 p1), (3, Slc.v p3), (4, .int .u64 p4), (5, .int .i64 p5), (14, .pointer r14), (15, .pointer (some (⟨b16, 0, none⟩ : Addr))), (16, .int .i64 t16_3), (110, .bool (r101 != r104))] ⟨rfl, rfl, rfl, rfl, rfl, rfl, rfl, rfl, trivial⟩ ?_
                      refine c_if H rfl (fun H => ?_) (fun H => ?_)
                      ·
                        refine c_seq ?_
                        refine c_region ?_
                        refine w_p tok rfl rfl rfl ?_
                        refine w_end ?_
                        refine x_seq ?_
                        refine c_weak [(12, .bool false)] ⟨rfl, trivial⟩ ?_
                        refine c_ret ?_
                        refine x_tr ?_
                        refine x_br ?_
                        refine x_tr ?_
                        refine x_tr ?_
                        refine x_br ?_
                        refine x_tr ?_
                        exact x_ret _ rfl _ rfl ⟨false, rfl, H⟩
                      ·
                        refine c_skip ?_
                        exact x_join () H ⟨rfl, rfl, rfl, rfl, rfl, rfl, rfl, trivial⟩
                    ·
                      refine c_seq ?_
                      refine c_region ?_
                      refine w_p tok rfl rfl rfl ?_
                      refine w_p tok rfl rfl rfl ?_
                      obtain ⟨v106, hv106, H⟩ := H
                      refine w_y (y_ld tok rfl rfl rfl rfl hv106) rfl rfl ?_
                      refine w_p tok rfl rfl rfl ?_
                      obtain ⟨v107, hv107, H⟩ := H
                      refine w_y (y_ld tok rfl rfl rfl rfl hv107) rfl rfl ?_
                      refine w_p tok rfl rfl rfl ?_
                      obtain ⟨v108, hv108, H⟩ := H
                      refine w_y (y_ld tok rfl rfl rfl rfl hv108) rfl rfl ?_
                      refine w_call rlog_Log_Append_ok (rlog_Log_Append_ref _ _ _ _ _ _ H) rfl rfl rfl rfl ?_
                      rintro _ h110 ⟨r109, rfl, H⟩
                      refine w_p tok rfl rfl rfl ?_
                      refine w_p tok rfl rfl rfl ?_
                      refine w_p tok rfl rfl rfl ?_
                      refine w_p tok rfl rfl rfl ?_
                      refine w_p tok rfl rfl rfl ?_
                      refine w_end ?_
                      refine x_seq ?_
                      refine c_weak [(1, .int .u64 p1), (3, Slc.v p3), (4, .int .u64 p4), (5, .int .i64 p5), (14, .pointer r14), (15, .pointer (some (⟨b16, 0, none⟩ : Addr))), (16, .int .i64 t16_3), (17, .pointer (some (⟨b93, 0, none⟩ : Addr))), (18, .int .u64 r109.1), (19, .int .i64 r109.2)] ⟨rfl, rfl, rfl, rfl, rfl, rfl, rfl, rfl, rfl, rfl, trivial⟩ ?_
                      refine c_seq ?_
                      refine c_region ?_
                      refine w_p tok rfl rfl rfl ?_
                      refine w_p tok rfl rfl rfl ?_
                      obtain ⟨v111, hv111, H⟩ := H
                      refine w_y (y_ld tok rfl rfl rfl rfl hv111) rfl rfl ?_
                      refine w_p tok rfl rfl rfl ?_
                      obtain ⟨v112, hv112, H⟩ := H
                      refine w_y (y_ld tok rfl rfl rfl rfl hv112) rfl rfl ?_
                      refine w_p tok rfl rfl rfl ?_
                      obtain ⟨v113, hv113, H⟩ := H
                      refine w_y (y_ld tok rfl rfl rfl rfl hv113) rfl rfl ?_
                      refine w_call ref23_Log_Append_ok (ref23_Log_Append_ref _ _ _ _ _ _ H) rfl rfl rfl rfl ?_
                      rintro _ h115 ⟨r114, rfl, H⟩
                      refine w_p tok rfl rfl rfl ?_
                      refine w_p tok rfl rfl rfl ?_
                      refine w_p tok rfl rfl rfl ?_
                      refine w_p tok rfl rfl rfl ?_
                      refine w_p tok rfl rfl rfl ?_
                      refine w_end ?_
                      refine x_seq ?_
                      refine c_weak [(1, .int .u64 p1), (3, Slc.v p3), (4, .int .u64 p4), (5, .int .i64 p5), (14, .pointer r14), (15, .pointer (some (⟨b16, 0, none⟩ : Addr))), (16, .int .i64 t16_3), (18, .int .u64 r109.1), (19, .int .i64 r109.2), (20, .int .u64 r114.1), (21, .int .i64 r114.2)] ⟨rfl, rfl, rfl, rfl, rfl, rfl, rfl, rfl, rfl, rfl, rfl, trivial⟩ ?_
                      refine c_seq ?_
                      refine c_region ?_
                      refine w_p tok rfl rfl rfl ?_
                      refine w_p tok rfl rfl rfl ?_
                      refine w_p tok rfl rfl rfl ?_
                      refine w_p tok rfl rfl rfl ?_
                      refine w_cutU 4 [(140, .bool ((r109.1 != r114.1) || (r109.2 != r114.2))), (1, .int .u64 p1), (3, Slc.v p3), (4, .int .u64 p4), (5, .int .i64 p5), (14, .pointer r14), (15, .pointer (some (⟨b16, 0, none⟩ : Addr))), (16, .int .i64 t16_3)] ?_ ?_
                      ·
                        refine w_end ?_
                        refine x_seq ?_
                        refine c_if H rfl (fun H => ?_) (fun H => ?_)
                        ·
                          refine c_seq ?_
                          refine c_region ?_
                          refine w_p tok rfl rfl rfl ?_
                          refine w_end ?_
                          refine x_seq ?_
                          refine c_weak [(12, .bool false)] ⟨rfl, trivial⟩ ?_
                          refine c_ret ?_
                          refine x_tr ?_
                          refine x_br ?_
                          refine x_tr ?_
                          refine x_tr ?_
                          refine x_br ?_
                          refine x_tr ?_
                          exact x_ret _ rfl _ rfl ⟨false, rfl, H⟩
                        ·
                          refine c_skip ?_
                          exact x_join () H ⟨rfl, rfl, rfl, rfl, rfl, rfl, rfl, trivial⟩
                      ·
                        refine w_gs (d := 136) rfl (fun hb => ?_) (fun hb => ?_)
                        ·
                          refine w_skip rfl rfl ?_
                          refine w_skip rfl rfl ?_
                          refine w_skip rfl rfl ?_
                          refine w_p tok rfl rfl rfl ?_
                          refine w_jn () rfl ⟨?_, rfl, rfl, rfl, rfl, rfl, rfl, rfl, trivial⟩
                          exact congrArg (fun b => some (Value.bool b)) (or_t hb)
                        ·
                          refine w_p tok rfl rfl rfl ?_
                          refine w_p tok rfl rfl rfl ?_
                          refine w_p tok rfl rfl rfl ?_
                          refine w_p tok rfl rfl rfl ?_
                          refine w_jn () rfl ⟨?_, rfl, rfl, rfl, rfl, rfl, rfl, rfl, trivial⟩
                          exact congrArg (fun b => some (Value.bool b)) (or_f hb)
                  ·
                    refine c_skip ?_
                    exact x_join () H ⟨rfl, rfl, rfl, rfl, rfl, rfl, rfl, trivial⟩
              ·
                refine c_exit ?_
                refine x_te ?_
                refine x_te ?_
                refine x_bh ?_
                refine x_seq ?_
                refine c_weak [] trivial ?_
                refine c_seq ?_
                refine c_region ?_
                refine w_call law23_awake_ok (law23_awake_ref  _ _ H) rfl rfl rfl rfl ?_
                rintro _ h117 ⟨r116, rfl, H⟩
                refine w_p tok rfl rfl rfl ?_
                refine w_end ?_
                refine x_seq ?_
                refine c_ret ?_
                exact x_ret _ rfl _ rfl ⟨r116, rfl, H⟩
            ·
              refine w_gs (d := 85) rfl (fun hb => ?_) (fun hb => ?_)
              ·
                refine w_p tok rfl rfl rfl ?_
                refine w_p tok rfl rfl rfl ?_
                refine w_p tok rfl rfl rfl ?_
                refine w_jn () rfl ⟨?_, rfl, rfl, rfl, rfl, rfl, rfl, rfl, trivial⟩
                exact congrArg (fun b => some (Value.bool b)) (and_t hb)
              ·
                refine w_skip rfl rfl ?_
                refine w_skip rfl rfl ?_
                refine w_p tok rfl rfl rfl ?_
                refine w_jn () rfl ⟨?_, rfl, rfl, rfl, rfl, rfl, rfl, rfl, trivial⟩
                exact congrArg (fun b => some (Value.bool b)) (and_f hb)
        ·
          refine w_gs (d := 51) rfl (fun hb => ?_) (fun hb => ?_)
          ·
            refine w_p tok rfl rfl rfl ?_
            refine w_p tok rfl rfl rfl ?_
            refine w_p tok rfl rfl rfl ?_
            refine w_jn () rfl ⟨?_, rfl, rfl, rfl, rfl, rfl, rfl, rfl, trivial⟩
            exact congrArg (fun b => some (Value.bool b)) (and_t hb)
          ·
            refine w_skip rfl rfl ?_
            refine w_skip rfl rfl ?_
            refine w_p tok rfl rfl rfl ?_
            refine w_jn () rfl ⟨?_, rfl, rfl, rfl, rfl, rfl, rfl, rfl, trivial⟩
            exact congrArg (fun b => some (Value.bool b)) (and_f hb)
    ·
      refine w_gs (d := 42) rfl (fun hb => ?_) (fun hb => ?_)
      ·
        refine w_skip rfl rfl ?_
        refine w_skip rfl rfl ?_
        refine w_p tok rfl rfl rfl ?_
        refine w_jn () rfl ⟨?_, rfl, rfl, rfl, rfl, rfl, rfl, trivial⟩
        exact congrArg (fun b => some (Value.bool b)) (or_t hb)
      ·
        refine w_p tok rfl rfl rfl ?_
        refine w_p tok rfl rfl rfl ?_
        refine w_p tok rfl rfl rfl ?_
        refine w_jn () rfl ⟨?_, rfl, rfl, rfl, rfl, rfl, rfl, trivial⟩
        exact congrArg (fun b => some (Value.bool b)) (or_f hb)
  ·
    refine w_gs (d := 38) rfl (fun hb => ?_) (fun hb => ?_)
    ·
      refine w_skip rfl rfl ?_
      refine w_skip rfl rfl ?_
      refine w_p tok rfl rfl rfl ?_
      refine w_jn () rfl ⟨?_, rfl, rfl, rfl, rfl, rfl, rfl, trivial⟩
      exact congrArg (fun b => some (Value.bool b)) (or_t hb)
    ·
      refine w_p tok rfl rfl rfl ?_
      refine w_p tok rfl rfl rfl ?_
      refine w_p tok rfl rfl rfl ?_
      refine w_jn () rfl ⟨?_, rfl, rfl, rfl, rfl, rfl, rfl, trivial⟩
      exact congrArg (fun b => some (Value.bool b)) (or_f hb)
end Go.Q.Ya
