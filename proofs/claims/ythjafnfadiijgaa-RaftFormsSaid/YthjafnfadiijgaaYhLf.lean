/- A part of the proof of statements of this seat: lemmas, no statement of their own. -/
import Derived.Test.YthjafnfadiijgaaYhTab
import Derived.Test.YthjafnfadiijgaaYhLa
import Derived.Test.YthjafnfadiijgaaYhRf
set_option linter.unusedVariables false
set_option maxRecDepth 100000
set_option maxHeartbeats 1000000
namespace Go.Q.Yh
/-- quaestor quaestorlaw26.RaftForms -/
def law26_RaftForms_g3 (t59_3 : Bool) (k : (Bool) → Heap → Prop) (h_3 : Heap) : Prop :=
  k t59_3 h_3
def law26_RaftForms_g2 (t56_2 : Bool) (k : (Bool) → Heap → Prop) (h_2 : Heap) : Prop :=
  if t56_2 then (law26_awake  (fun (r26 : Bool) h27 => law26_RaftForms_g3 r26 k h27) h_2) else (law26_RaftForms_g3 false k h_2)
def law26_RaftForms_g4 (t66_4 : Bool) (k : (Bool) → Heap → Prop) (h_4 : Heap) : Prop :=
  k t66_4 h_4
def law26_RaftForms_g1 (t1_1 : Slc) (t8_1 : Addr) (t9_1 : Int) (t45_1 : Bool) (k : (Bool) → Heap → Prop) (h_1 : Heap) : Prop :=
  if t45_1 then (k false h_1) else (if (t9_1 != 0) then (if (t9_1 == 4) then (∃ v28 : S_api_Msg, CellsAt h_1 t8_1 (S_api_Msg.cs v28) ∧ (ref26_Form v28 (fun (r29 : Slc) h30 => ref26_Form (⟨0, 0, 0, 0, 0, false, (⟨none, 0, 0⟩ : Slc), (⟨none, 0, 0⟩ : Slc)⟩ : S_api_Msg) (fun (r31 : Slc) h32 => ref01_Same r29 r31 (fun (r33 : Bool) h34 => law26_RaftForms_g2 r33 k h34) h32) h30) h_1)) else (law26_RaftForms_g2 false k h_1)) else (∃ v35 : S_api_Msg, CellsAt h_1 t8_1 (S_api_Msg.cs v35) ∧ (ref26_Form v35 (fun (r36 : Slc) h37 => ref01_Same r36 t1_1 (fun (r38 : Bool) h39 => if r38 then (law26_awake  (fun (r40 : Bool) h41 => law26_RaftForms_g4 r40 k h41) h39) else (law26_RaftForms_g4 false k h39)) h37) h_1)))
def law26_RaftForms (p0 : S_api_Msg) (p1 : Slc) (k : (Bool) → Heap → Prop) (h : Heap) : Prop :=
  ∃ (b1 : Nat) (h2 : Heap), b1 = h.size ∧ h2 = h.push (.cells (S_api_Msg.cs p0).toArray 26) ∧ (∃ v3 : S_api_Msg, CellsAt h2 (⟨b1, 0, none⟩ : Addr) (S_api_Msg.cs v3) ∧ (ref26_Great v3 (fun (r4 : Bool) h5 => if (r4 || (decide ((p1.len : Int) > 2000))) then (law26_awake  (fun (r6 : Bool) h7 => k r6 h7) h5) else (∃ v8 : S_api_Msg, CellsAt h5 (⟨b1, 0, none⟩ : Addr) (S_api_Msg.cs v8) ∧ (raft_Put v8 (fun (r9 : Slc) h10 => raft_Get r9 (fun (r11 : S_api_Msg × Int) h12 => ∃ (b13 : Nat) (h14 : Heap), b13 = h12.size ∧ h14 = h12.push (.cells (S_api_Msg.cs (⟨0, 0, 0, 0, 0, false, (⟨none, 0, 0⟩ : Slc), (⟨none, 0, 0⟩ : Slc)⟩ : S_api_Msg)).toArray 26) ∧ (∃ h15 : Heap, WrsAt h14 (⟨b13, 0, none⟩ : Addr) 8 ∧ h15 = setsH h14 (⟨b13, 0, none⟩ : Addr) 0 (S_api_Msg.cs r11.1) ∧ (raft_Get p1 (fun (r16 : S_api_Msg × Int) h17 => ∃ (b18 : Nat) (h19 : Heap), b18 = h17.size ∧ h19 = h17.push (.cells (S_api_Msg.cs (⟨0, 0, 0, 0, 0, false, (⟨none, 0, 0⟩ : Slc), (⟨none, 0, 0⟩ : Slc)⟩ : S_api_Msg)).toArray 26) ∧ (∃ h20 : Heap, WrsAt h19 (⟨b18, 0, none⟩ : Addr) 8 ∧ h20 = setsH h19 (⟨b18, 0, none⟩ : Addr) 0 (S_api_Msg.cs r16.1) ∧ (∃ v21 : S_api_Msg, CellsAt h20 (⟨b1, 0, none⟩ : Addr) (S_api_Msg.cs v21) ∧ (ref26_Form v21 (fun (r22 : Slc) h23 => ref01_Same r9 r22 (fun (r24 : Bool) h25 => if ((!r24) || (r11.2 != 0)) then (law26_RaftForms_g1 p1 (⟨b18, 0, none⟩ : Addr) r16.2 true k h25) else (∃ v42 : S_api_Msg, CellsAt h25 (⟨b13, 0, none⟩ : Addr) (S_api_Msg.cs v42) ∧ (ref26_Form v42 (fun (r43 : Slc) h44 => ref01_Same r43 r9 (fun (r45 : Bool) h46 => law26_RaftForms_g1 p1 (⟨b18, 0, none⟩ : Addr) r16.2 (!r45) k h46) h44) h25))) h23) h20)))) h15))) h10) h5))) h2))

theorem law26_RaftForms_ok : CallOk Go.Proofs.Try.prog 3 := ⟨_, Go.Proofs.Try.func3, by kernel_rfl, by kernel_rfl⟩
theorem law26_RaftForms_ref (p0 : S_api_Msg) (p1 : Slc) (k : (Bool) → Heap → Prop) (h : Heap) (H : law26_RaftForms p0 p1 k h) : CallsH Go.Proofs.Try.prog 3 #[.agg (S_api_Msg.cs p0).toArray, Slc.v p1] h (fun v h' => ∃ r : Bool, v = .bool r ∧ k r h') := by
  refine f_enter (N := 67) Go.Proofs.Try.func3 rfl rfl rfl (fun w0 => ?_)
  unfold law26_RaftForms at H
  refine c_weak [(0, .agg (S_api_Msg.cs p0).toArray), (1, Slc.v p1)] ⟨rfl, rfl, trivial⟩ ?_
  refine c_seq ?_
  refine c_region ?_
  obtain ⟨b1, h2, eb1, eh2, H⟩ := H
  refine w_h (h_box rfl rfl eb1 eh2) rfl rfl ?_
  refine w_p tok rfl rfl rfl ?_
  refine w_end ?_
  refine x_seq ?_
  refine c_seq ?_
  refine c_seq ?_
  refine c_region ?_
  obtain ⟨v3, hv3, H⟩ := H
  refine w_y (y_lda tok rfl rfl rfl rfl rfl hv3) rfl rfl ?_
  refine w_call ref26_Great_ok (ref26_Great_ref _ _ _ H) rfl rfl rfl rfl ?_
  rintro _ h5 ⟨r4, rfl, H⟩
  refine w_p tok rfl rfl rfl ?_
  refine w_cutU 4 [(16, .bool (r4 || (decide ((p1.len : Int) > 2000)))), (1, Slc.v p1), (2, .pointer (some (⟨b1, 0, none⟩ : Addr)))] ?_ ?_
  ·
    refine w_end ?_
    refine x_seq ?_
    refine c_if H rfl (fun H => ?_) (fun H => ?_)
    ·
      refine c_seq ?_
      refine c_region ?_
      refine w_call law26_awake_ok (law26_awake_ref  _ _ H) rfl rfl rfl rfl ?_
      rintro _ h7 ⟨r6, rfl, H⟩
      refine w_p tok rfl rfl rfl ?_
      refine w_end ?_
      refine x_seq ?_
      refine c_ret ?_
      refine x_tr ?_
      exact x_ret _ rfl _ rfl ⟨r6, rfl, H⟩
    ·
      refine c_skip ?_
      refine x_seq ?_
      refine c_seq ?_
      refine c_region ?_
      obtain ⟨v8, hv8, H⟩ := H
      refine w_y (y_lda tok rfl rfl rfl rfl rfl hv8) rfl rfl ?_
      refine w_call raft_Put_ok (raft_Put_ref _ _ _ H) rfl rfl rfl rfl ?_
      rintro _ h10 ⟨r9, rfl, H⟩
      refine w_p tok rfl rfl rfl ?_
      refine w_end ?_
      refine x_seq ?_
      refine c_seq ?_
      refine c_region ?_
      refine w_p tok rfl rfl rfl ?_
      refine w_call raft_Get_ok (raft_Get_ref _ _ _ H) rfl rfl rfl rfl ?_
      rintro _ h12 ⟨r11, rfl, H⟩
      refine w_p tok rfl rfl rfl ?_
      refine w_p tok rfl rfl rfl ?_
      refine w_p tok rfl rfl rfl ?_
      obtain ⟨b13, h14, eb13, eh14, H⟩ := H
      refine w_h (h_alloc tok rfl rfl eb13 eh14) rfl rfl ?_
      obtain ⟨h15, wh15, eh15, H⟩ := H
      refine w_h (h_sts tok rfl rfl rfl rfl rfl (oneC (by kernel_rfl)) wh15 eh15) rfl rfl ?_
      refine w_p tok rfl rfl rfl ?_
      refine w_end ?_
      refine x_seq ?_
      refine c_weak [(1, Slc.v p1), (2, .pointer (some (⟨b1, 0, none⟩ : Addr))), (5, Slc.v r9), (6, .pointer (some (⟨b13, 0, none⟩ : Addr))), (7, .int .i64 r11.2)] ⟨rfl, rfl, rfl, rfl, rfl, trivial⟩ ?_
      refine c_seq ?_
      refine c_region ?_
      refine w_p tok rfl rfl rfl ?_
      refine w_call raft_Get_ok (raft_Get_ref _ _ _ H) rfl rfl rfl rfl ?_
      rintro _ h17 ⟨r16, rfl, H⟩
      refine w_p tok rfl rfl rfl ?_
      refine w_p tok rfl rfl rfl ?_
      refine w_p tok rfl rfl rfl ?_
      obtain ⟨b18, h19, eb18, eh19, H⟩ := H
      refine w_h (h_alloc tok rfl rfl eb18 eh19) rfl rfl ?_
      obtain ⟨h20, wh20, eh20, H⟩ := H
      refine w_h (h_sts tok rfl rfl rfl rfl rfl (oneC (by kernel_rfl)) wh20 eh20) rfl rfl ?_
      refine w_p tok rfl rfl rfl ?_
      refine w_end ?_
      refine x_seq ?_
      refine c_seq ?_
      refine c_seq ?_
      refine c_region ?_
      refine w_p tok rfl rfl rfl ?_
      obtain ⟨v21, hv21, H⟩ := H
      refine w_y (y_lda tok rfl rfl rfl rfl rfl hv21) rfl rfl ?_
      refine w_call ref26_Form_ok (ref26_Form_ref _ _ _ H) rfl rfl rfl rfl ?_
      rintro _ h23 ⟨r22, rfl, H⟩
      refine w_call ref01_Same_ok (ref01_Same_ref _ _ _ _ H) rfl rfl rfl rfl ?_
      rintro _ h25 ⟨r24, rfl, H⟩
      refine w_p tok rfl rfl rfl ?_
      refine w_p tok rfl rfl rfl ?_
      refine w_cutU 3 [(38, .bool ((!r24) || (r11.2 != 0))), (1, Slc.v p1), (5, Slc.v r9), (6, .pointer (some (⟨b13, 0, none⟩ : Addr))), (8, .pointer (some (⟨b18, 0, none⟩ : Addr))), (9, .int .i64 r16.2)] ?_ ?_
      ·
        refine w_p tok rfl rfl rfl ?_
        refine w_cut 6 (α := Bool) (fun (s : Bool) => [(45, .bool s), (1, Slc.v p1), (8, .pointer (some (⟨b18, 0, none⟩ : Addr))), (9, .int .i64 r16.2)]) (fun (s : Bool) h => law26_RaftForms_g1 p1 (⟨b18, 0, none⟩ : Addr) r16.2 s k h) ?_ ?_
        ·
          rintro t45_1 h_1 H
          replace H : law26_RaftForms_g1 p1 (⟨b18, 0, none⟩ : Addr) r16.2 t45_1 k h_1 := H
          unfold law26_RaftForms_g1 at H
          refine w_weak [(45, .bool t45_1), (1, Slc.v p1), (8, .pointer (some (⟨b18, 0, none⟩ : Addr))), (9, .int .i64 r16.2)] ⟨rfl, rfl, rfl, rfl, trivial⟩ ?_
          refine w_end ?_
          refine x_seq ?_
          refine c_if H rfl (fun H => ?_) (fun H => ?_)
          ·
            refine c_seq ?_
            refine c_region ?_
            refine w_p tok rfl rfl rfl ?_
            refine w_end ?_
            refine x_seq ?_
            refine c_ret ?_
            refine x_tr ?_
            exact x_ret _ rfl _ rfl ⟨false, rfl, H⟩
          ·
            refine c_skip ?_
            refine x_seq ?_
            refine c_seq ?_
            refine c_seq ?_
            refine c_region ?_
            refine w_p tok rfl rfl rfl ?_
            refine w_p tok rfl rfl rfl ?_
            refine w_end ?_
            refine x_seq ?_
            refine c_if H rfl (fun H => ?_) (fun H => ?_)
            ·
              refine c_seq ?_
              refine c_region ?_
              refine w_p tok rfl rfl rfl ?_
              refine w_p tok rfl rfl rfl ?_
              refine w_p tok rfl rfl rfl ?_
              refine w_cut 6 (α := Bool) (fun (s : Bool) => [(56, .bool s)]) (fun (s : Bool) h => law26_RaftForms_g2 s k h) ?_ ?_
              ·
                rintro t56_2 h_2 H
                replace H : law26_RaftForms_g2 t56_2 k h_2 := H
                unfold law26_RaftForms_g2 at H
                refine w_weak [(56, .bool t56_2)] ⟨rfl, trivial⟩ ?_
                refine w_p tok rfl rfl rfl ?_
                refine w_cut 2 (α := Bool) (fun (s : Bool) => [(59, .bool s)]) (fun (s : Bool) h => law26_RaftForms_g3 s k h) ?_ ?_
                ·
                  rintro t59_3 h_3 H
                  replace H : law26_RaftForms_g3 t59_3 k h_3 := H
                  unfold law26_RaftForms_g3 at H
                  refine w_weak [(59, .bool t59_3)] ⟨rfl, trivial⟩ ?_
                  refine w_p tok rfl rfl rfl ?_
                  refine w_end ?_
                  refine x_seq ?_
                  refine c_ret ?_
                  refine x_tr ?_
                  exact x_ret _ rfl _ rfl ⟨t59_3, rfl, H⟩
                ·
                  refine w_gif (d := 57) H rfl (fun H => ?_) (fun H => ?_)
                  ·
                    refine w_call law26_awake_ok (law26_awake_ref  _ _ H) rfl rfl rfl rfl ?_
                    rintro _ h27 ⟨r26, rfl, H⟩
                    refine w_p tok rfl rfl rfl ?_
                    exact w_jn r26 H ⟨rfl, trivial⟩
                  ·
                    refine w_skip rfl rfl ?_
                    refine w_p tok rfl rfl rfl ?_
                    exact w_jn false H ⟨rfl, trivial⟩
              ·
                refine w_gif (d := 50) H rfl (fun H => ?_) (fun H => ?_)
                ·
                  obtain ⟨v28, hv28, H⟩ := H
                  refine w_y (y_lda tok rfl rfl rfl rfl rfl hv28) rfl rfl ?_
                  refine w_call ref26_Form_ok (ref26_Form_ref _ _ _ H) rfl rfl rfl rfl ?_
                  rintro _ h30 ⟨r29, rfl, H⟩
                  refine w_y (y_build tok rfl rfl rfl rfl rfl) rfl rfl ?_
                  refine w_call ref26_Form_ok (ref26_Form_ref _ _ _ H) rfl rfl rfl rfl ?_
                  rintro _ h32 ⟨r31, rfl, H⟩
                  refine w_call ref01_Same_ok (ref01_Same_ref _ _ _ _ H) rfl rfl rfl rfl ?_
                  rintro _ h34 ⟨r33, rfl, H⟩
                  refine w_p tok rfl rfl rfl ?_
                  exact w_jn r33 H ⟨rfl, trivial⟩
                ·
                  refine w_skip rfl rfl ?_
                  refine w_skip rfl rfl ?_
                  refine w_skip rfl rfl ?_
                  refine w_skip rfl rfl ?_
                  refine w_skip rfl rfl ?_
                  refine w_p tok rfl rfl rfl ?_
                  exact w_jn false H ⟨rfl, trivial⟩
            ·
              refine c_skip ?_
              refine x_seq ?_
              refine c_seq ?_
              refine c_region ?_
              obtain ⟨v35, hv35, H⟩ := H
              refine w_y (y_lda tok rfl rfl rfl rfl rfl hv35) rfl rfl ?_
              refine w_call ref26_Form_ok (ref26_Form_ref _ _ _ H) rfl rfl rfl rfl ?_
              rintro _ h37 ⟨r36, rfl, H⟩
              refine w_p tok rfl rfl rfl ?_
              refine w_call ref01_Same_ok (ref01_Same_ref _ _ _ _ H) rfl rfl rfl rfl ?_
              rintro _ h39 ⟨r38, rfl, H⟩
              refine w_p tok rfl rfl rfl ?_
              refine w_cut 2 (α := Bool) (fun (s : Bool) => [(66, .bool s)]) (fun (s : Bool) h => law26_RaftForms_g4 s k h) ?_ ?_
              ·
                rintro t66_4 h_4 H
                replace H : law26_RaftForms_g4 t66_4 k h_4 := H
                unfold law26_RaftForms_g4 at H
                refine w_weak [(66, .bool t66_4)] ⟨rfl, trivial⟩ ?_
                refine w_p tok rfl rfl rfl ?_
                refine w_end ?_
                refine x_seq ?_
                refine c_ret ?_
                exact x_ret _ rfl _ rfl ⟨t66_4, rfl, H⟩
              ·
                refine w_gif (d := 64) H rfl (fun H => ?_) (fun H => ?_)
                ·
                  refine w_call law26_awake_ok (law26_awake_ref  _ _ H) rfl rfl rfl rfl ?_
                  rintro _ h41 ⟨r40, rfl, H⟩
                  refine w_p tok rfl rfl rfl ?_
                  exact w_jn r40 H ⟨rfl, trivial⟩
                ·
                  refine w_skip rfl rfl ?_
                  refine w_p tok rfl rfl rfl ?_
                  exact w_jn false H ⟨rfl, trivial⟩
        ·
          refine w_gif (d := 39) H rfl (fun H => ?_) (fun H => ?_)
          ·
            refine w_skip rfl rfl ?_
            refine w_skip rfl rfl ?_
            refine w_skip rfl rfl ?_
            refine w_skip rfl rfl ?_
            refine w_skip rfl rfl ?_
            refine w_p tok rfl rfl rfl ?_
            exact w_jn true H ⟨rfl, rfl, rfl, rfl, trivial⟩
          ·
            obtain ⟨v42, hv42, H⟩ := H
            refine w_y (y_lda tok rfl rfl rfl rfl rfl hv42) rfl rfl ?_
            refine w_call ref26_Form_ok (ref26_Form_ref _ _ _ H) rfl rfl rfl rfl ?_
            rintro _ h44 ⟨r43, rfl, H⟩
            refine w_p tok rfl rfl rfl ?_
            refine w_call ref01_Same_ok (ref01_Same_ref _ _ _ _ H) rfl rfl rfl rfl ?_
            rintro _ h46 ⟨r45, rfl, H⟩
            refine w_p tok rfl rfl rfl ?_
            refine w_p tok rfl rfl rfl ?_
            exact w_jn (!r45) H ⟨rfl, rfl, rfl, rfl, trivial⟩
      ·
        refine w_gs (d := 35) rfl (fun hb => ?_) (fun hb => ?_)
        ·
          refine w_skip rfl rfl ?_
          refine w_skip rfl rfl ?_
          refine w_p tok rfl rfl rfl ?_
          refine w_jn () rfl ⟨?_, rfl, rfl, rfl, rfl, rfl, trivial⟩
          exact congrArg (fun b => some (Value.bool b)) (or_t hb)
        ·
          refine w_p tok rfl rfl rfl ?_
          refine w_p tok rfl rfl rfl ?_
          refine w_p tok rfl rfl rfl ?_
          refine w_jn () rfl ⟨?_, rfl, rfl, rfl, rfl, rfl, trivial⟩
          exact congrArg (fun b => some (Value.bool b)) (or_f hb)
  ·
    refine w_gs (d := 12) rfl (fun hb => ?_) (fun hb => ?_)
    ·
      refine w_skip rfl rfl ?_
      refine w_skip rfl rfl ?_
      refine w_skip rfl rfl ?_
      refine w_p tok rfl rfl rfl ?_
      refine w_jn () rfl ⟨?_, rfl, rfl, trivial⟩
      exact congrArg (fun b => some (Value.bool b)) (or_t hb)
    ·
      refine w_p tok rfl rfl rfl ?_
      refine w_p tok rfl rfl rfl ?_
      refine w_p tok rfl rfl rfl ?_
      refine w_p tok rfl rfl rfl ?_
      refine w_jn () rfl ⟨?_, rfl, rfl, trivial⟩
      exact congrArg (fun b => some (Value.bool b)) (or_f hb)
end Go.Q.Yh
