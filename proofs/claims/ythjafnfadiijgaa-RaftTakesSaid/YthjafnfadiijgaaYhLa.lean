/- A part of the proof of statements of this seat: lemmas, no statement of their own. -/
import Derived.Test.YthjafnfadiijgaaYhTab
import Derived.Test.YthjafnfadiijgaaYhRs
-- squeezed
set_option linter.unusedVariables false
set_option maxRecDepth 100000
set_option maxHeartbeats 1000000
namespace Go.Q.Yh
/-- quaestor quaestorlaw26.alone -/
def law26_alone_g2 (t1_2 : Option Addr) (t2_2 : Int) (t10_2 : Bool) (k : (Option Addr) → Heap → Prop) (nx1 : (Int) → Heap → Prop) (h_2 : Heap) : Prop :=
 if t10_2 then (raft_Raft_Tick t1_2 (fun (r3 : Slc) h4 => ∃ x5 : Int, x5 = (IntKind.i64.wrap (t2_2 + 1)) ∧ (nx1 x5 h4)) h_2) else (k t1_2 h_2)
def law26_alone_l1b (t1_1 : Option Addr) (t2_1 : Int) (k : (Option Addr) → Heap → Prop) (nx1 : (Int) → Heap → Prop) (h_1 : Heap) : Prop :=
 if (decide (t2_1 < 20)) then (raft_Raft_Leads t1_1 (fun (r6 : Bool) h7 => law26_alone_g2 t1_1 t2_1 (!r6) k nx1 h7) h_1) else (law26_alone_g2 t1_1 t2_1 false k nx1 h_1)
def law26_alone_l1 (t1_1 : Option Addr) (i2 : Int) (k : (Option Addr) → Heap → Prop) (h : Heap) : Prop :=
 ∃ (I : Int → Heap → Prop) (μ : Int → Heap → Nat), I i2 h ∧ ∀ (t2_1 : Int) (h : Heap), I t2_1 h → law26_alone_l1b t1_1 t2_1 k (fun s h' => I s h' ∧ μ s h' < μ t2_1 h) h
def law26_alone (k : (Option Addr) → Heap → Prop) (h : Heap) : Prop :=
 raft_New 0 1 0 0 none (⟨none, 0, 0⟩ : Slc) (fun (r1 : Option Addr) h2 => law26_alone_l1 r1 0 k h2) h

/-- quaestor quaestorlaw26.awake -/
def law26_awake_g4 (t53_4 : Bool) (k : (Bool) → Heap → Prop) (h_4 : Heap) : Prop :=
 k t53_4 h_4
def law26_awake_g3 (t1_3 : Option Addr) (t48_3 : Bool) (k : (Bool) → Heap → Prop) (h_3 : Heap) : Prop :=
 if t48_3 then (raft_Raft_Term t1_3 (fun (r15 : Int) h16 => law26_awake_g4 (r15 == 1) k h16) h_3) else (law26_awake_g4 false k h_3)
def law26_awake_g2 (t1_2 : Option Addr) (t4_2 : Addr) (t5_2 : Int) (t38_2 : Bool) (k : (Bool) → Heap → Prop) (h_2 : Heap) : Prop :=
 if (t38_2 && (t5_2 == 0)) then (∃ v17 : Slc, cellH h_2 (t4_2.add 1) = some (Slc.v v17) ∧ (∃ l18 : List Int, l18.length = v17.len ∧ SlcAt h_2 v17 (b8 l18) ∧ (law26_awake_g3 t1_2 ((bsOf l18).toList == (⟨#[120]⟩ : ByteArray).toList) k h_2))) else (law26_awake_g3 t1_2 false k h_2)
def law26_awake_g1 (t1_1 : Option Addr) (t2_1 : Int) (t3_1 : Int) (t4_1 : Addr) (t5_1 : Int) (t25_1 : Bool) (k : (Bool) → Heap → Prop) (h_1 : Heap) : Prop :=
 if ((t25_1 && (t3_1 == 0)) && (t2_1 == 2)) then (raft_Raft_Committed t1_1 (fun (r19 : Int) h20 => law26_awake_g2 t1_1 t4_1 t5_1 (r19 == 2) k h20) h_1) else (law26_awake_g2 t1_1 t4_1 t5_1 false k h_1)
def law26_awake (k : (Bool) → Heap → Prop) (h : Heap) : Prop :=
 law26_alone  (fun (r1 : Option Addr) h2 => ∃ (b3 : Nat) (h4 : Heap), b3 = h2.size ∧ h4 = h2.push (.cells ([.int .u8 120]).toArray 5) ∧ (∃ h5 : Heap, h5 = h2.push (.cells ([.int .u8 120]).toArray 5 (1, 2)) ∧ (raft_Raft_Propose r1 (⟨some ⟨b3, 0, none⟩, 1, 1⟩ : Slc) (fun (r6 : Int × Int) h7 => raft_Raft_Entry r1 2 (fun (r8 : S_api_Entry × Int) h9 => ∃ (b10 : Nat) (h11 : Heap), b10 = h9.size ∧ h11 = h9.push (.cells (S_api_Entry.cs (⟨0, (⟨none, 0, 0⟩ : Slc)⟩ : S_api_Entry)).toArray 65) ∧ (∃ h12 : Heap, WrsAt h11 (⟨b10, 0, none⟩ : Addr) 2 ∧ h12 = setsH h11 (⟨b10, 0, none⟩ : Addr) 0 (S_api_Entry.cs r8.1) ∧ (raft_Raft_Leads r1 (fun (r13 : Bool) h14 => if r13 then (raft_Raft_Leader r1 (fun (r21 : Int) h22 => law26_awake_g1 r1 r6.1 r6.2 (⟨b10, 0, none⟩ : Addr) r8.2 (r21 == 0) k h22) h14) else (law26_awake_g1 r1 r6.1 r6.2 (⟨b10, 0, none⟩ : Addr) r8.2 false k h14)) h12))) h7) h5))) h

theorem law26_alone_ok : CallOk Go.Proofs.Try.prog 30 := ⟨_, Go.Proofs.Try.func30, by kernel_rfl, by kernel_rfl⟩
theorem law26_alone_ref (k : (Option Addr) → Heap → Prop) (h : Heap) (H : law26_alone k h) : CallsH Go.Proofs.Try.prog 30 #[] h (fun v h' => ∃ r : Option Addr, v = .pointer r ∧ k r h') := by
 refine f_enter (N := 16) Go.Proofs.Try.func30 rfl rfl rfl (fun w0 => ?_)
 unfold law26_alone at H
 refine c_seq (c_region ?_)
 refine wP tok ?_
 refine w_end (x_seq ?_)
 refine c_seq (c_region ?_)
 refine w_call raft_New_ok (raft_New_ref _ _ _ _ _ _ _ _ H) rfl rfl rfl rfl ?_
 rintro _ h2 ⟨r1, rfl, H⟩
 refine wP tok ?_
 refine w_end (x_seq ?_)
 refine c_seq (c_seq (c_region ?_))
 refine wP tok ?_
 refine w_end (x_seq (c_block ?_))
 obtain ⟨I1, μ1, H0, HI⟩ := H
 refine c_loop (σ := Int) (fun (s : Int) => [(2, .int .i64 s), (1, .pointer r1)]) I1 μ1 0 H0 ⟨rfl, rfl, trivial⟩ ?_
 rintro t2_1 h_1 H
 replace H := HI t2_1 h_1 H
 unfold law26_alone_l1b at H
 refine c_weak [(2, .int .i64 t2_1), (1, .pointer r1)] ⟨rfl, rfl, trivial⟩ ?_
 refine c_seq (c_seq (c_region ?_))
 iterate 3 refine wP tok ?_
 refine w_cut 4 (α := Bool) (fun (s : Bool) => [(10, .bool s), (1, .pointer r1), (2, .int .i64 t2_1)]) (fun (s : Bool) h => law26_alone_g2 r1 t2_1 s k (fun s h' => I1 s h' ∧ μ1 s h' < μ1 t2_1 h_1) h) ?_ ?_
 ·
  rintro t10_2 h_2 H
  replace H : law26_alone_g2 r1 t2_1 t10_2 k (fun s h' => I1 s h' ∧ μ1 s h' < μ1 t2_1 h_1) h_2 := H
  unfold law26_alone_g2 at H
  refine w_weak [(10, .bool t10_2), (1, .pointer r1), (2, .int .i64 t2_1)] ⟨rfl, rfl, rfl, trivial⟩ ?_
  refine w_end (x_seq ?_)
  refine c_if H rfl (fun H => ?_) (fun H => ?_)
  ·
   refine c_skip (x_seq ?_)
   refine c_seq (c_block (c_region ?_))
   refine wP tok ?_
   refine w_call raft_Raft_Tick_ok (raft_Raft_Tick_ref _ _ _ H) rfl rfl rfl rfl ?_
   rintro _ h4 ⟨r3, rfl, H⟩
   refine w_end ?_
   refine x_blk ?_
   refine x_seq (c_region ?_)
   iterate 2 refine wP tok ?_
   obtain ⟨x5, ex5, H⟩ := H
   refine w_pe tok rfl (congrArg (fun z => (.int .i64 z : Value)) ex5) rfl rfl ?_
   refine w_end ?_
   exact x_join x5 H ⟨rfl, rfl, trivial⟩
  ·
   refine c_exit ?_
   refine x_te (x_te ?_)
   refine x_bh ?_
   refine x_seq (c_seq (c_region ?_))
   iterate 2 refine wP tok ?_
   refine w_end (x_seq (c_ret ?_))
   exact x_ret _ rfl _ rfl ⟨r1, rfl, H⟩
 ·
  refine w_gif (d := 6) H rfl (fun H => ?_) (fun H => ?_)
  ·
   refine wP tok ?_
   refine w_call raft_Raft_Leads_ok (raft_Raft_Leads_ref _ _ _ H) rfl rfl rfl rfl ?_
   rintro _ h7 ⟨r6, rfl, H⟩
   iterate 2 refine wP tok ?_
   exact w_jn (!r6) H ⟨rfl, rfl, rfl, trivial⟩
  ·
   iterate 3 refine w_skip rfl rfl ?_
   refine wP tok ?_
   exact w_jn false H ⟨rfl, rfl, rfl, trivial⟩

theorem law26_awake_ok : CallOk Go.Proofs.Try.prog 8 := ⟨_, Go.Proofs.Try.func8, by kernel_rfl, by kernel_rfl⟩
theorem law26_awake_ref (k : (Bool) → Heap → Prop) (h : Heap) (H : law26_awake k h) : CallsH Go.Proofs.Try.prog 8 #[] h (fun v h' => ∃ r : Bool, v = .bool r ∧ k r h') := by
 refine f_enter (N := 54) Go.Proofs.Try.func8 rfl rfl rfl (fun w0 => ?_)
 unfold law26_awake at H
 refine c_seq (c_region ?_)
 refine wP tok ?_
 refine w_end (x_seq ?_)
 refine c_seq (c_region ?_)
 refine w_call law26_alone_ok (law26_alone_ref  _ _ H) rfl rfl rfl rfl ?_
 rintro _ h2 ⟨r1, rfl, H⟩
 refine wP tok ?_
 refine w_end (x_seq ?_)
 refine c_seq (c_region ?_)
 refine wP tok ?_
 obtain ⟨b3, h4, eb3, eh4, H⟩ := H
 refine w_h (h_bs tok rfl rfl rfl rfl rfl rfl rfl eb3 eh4) rfl rfl ?_
 obtain ⟨h5, eh5, H⟩ := H
 refine w_h (h_mark tok rfl rfl rfl rfl eb3 eh4 rfl eh5) rfl rfl ?_
 refine w_call raft_Raft_Propose_ok (raft_Raft_Propose_ref _ _ _ _ H) rfl rfl rfl rfl ?_
 rintro _ h7 ⟨r6, rfl, H⟩
 iterate 5 refine wP tok ?_
 refine w_end (x_seq ?_)
 refine c_weak [(1, .pointer r1), (2, .int .u64 r6.1), (3, .int .i64 r6.2)] ⟨rfl, rfl, rfl, trivial⟩ ?_
 refine c_seq (c_region ?_)
 refine wP tok ?_
 refine w_call raft_Raft_Entry_ok (raft_Raft_Entry_ref _ _ _ _ H) rfl rfl rfl rfl ?_
 rintro _ h9 ⟨r8, rfl, H⟩
 iterate 3 refine wP tok ?_
 obtain ⟨b10, h11, eb10, eh11, H⟩ := H
 refine w_h (h_alloc tok rfl rfl eb10 eh11) rfl rfl ?_
 obtain ⟨h12, wh12, eh12, H⟩ := H
 refine w_h (h_sts tok rfl rfl rfl rfl rfl (oneC (by kernel_rfl)) wh12 eh12) rfl rfl ?_
 refine wP tok ?_
 refine w_end (x_seq ?_)
 refine c_seq (c_region ?_)
 refine wP tok ?_
 refine w_call raft_Raft_Leads_ok (raft_Raft_Leads_ref _ _ _ H) rfl rfl rfl rfl ?_
 rintro _ h14 ⟨r13, rfl, H⟩
 refine wP tok ?_
 refine w_cut 4 (α := Bool) (fun (s : Bool) => [(25, .bool s), (1, .pointer r1), (2, .int .u64 r6.1), (3, .int .i64 r6.2), (4, .pointer (some (⟨b10, 0, none⟩ : Addr))), (5, .int .i64 r8.2)]) (fun (s : Bool) h => law26_awake_g1 r1 r6.1 r6.2 (⟨b10, 0, none⟩ : Addr) r8.2 s k h) ?_ ?_
 ·
  rintro t25_1 h_1 H
  replace H : law26_awake_g1 r1 r6.1 r6.2 (⟨b10, 0, none⟩ : Addr) r8.2 t25_1 k h_1 := H
  unfold law26_awake_g1 at H
  refine w_weak [(25, .bool t25_1), (1, .pointer r1), (2, .int .u64 r6.1), (3, .int .i64 r6.2), (4, .pointer (some (⟨b10, 0, none⟩ : Addr))), (5, .int .i64 r8.2)] ⟨rfl, rfl, rfl, rfl, rfl, rfl, trivial⟩ ?_
  refine wP tok ?_
  refine w_cutU 3 [(29, .bool (t25_1 && (r6.2 == 0))), (1, .pointer r1), (2, .int .u64 r6.1), (4, .pointer (some (⟨b10, 0, none⟩ : Addr))), (5, .int .i64 r8.2)] ?_ ?_
  ·
   refine wP tok ?_
   refine w_cutU 3 [(33, .bool ((t25_1 && (r6.2 == 0)) && (r6.1 == 2))), (1, .pointer r1), (4, .pointer (some (⟨b10, 0, none⟩ : Addr))), (5, .int .i64 r8.2)] ?_ ?_
   ·
    refine wP tok ?_
    refine w_cut 4 (α := Bool) (fun (s : Bool) => [(38, .bool s), (1, .pointer r1), (4, .pointer (some (⟨b10, 0, none⟩ : Addr))), (5, .int .i64 r8.2)]) (fun (s : Bool) h => law26_awake_g2 r1 (⟨b10, 0, none⟩ : Addr) r8.2 s k h) ?_ ?_
    ·
     rintro t38_2 h_2 H
     replace H : law26_awake_g2 r1 (⟨b10, 0, none⟩ : Addr) r8.2 t38_2 k h_2 := H
     unfold law26_awake_g2 at H
     refine w_weak [(38, .bool t38_2), (1, .pointer r1), (4, .pointer (some (⟨b10, 0, none⟩ : Addr))), (5, .int .i64 r8.2)] ⟨rfl, rfl, rfl, rfl, trivial⟩ ?_
     refine wP tok ?_
     refine w_cutU 3 [(42, .bool (t38_2 && (r8.2 == 0))), (1, .pointer r1), (4, .pointer (some (⟨b10, 0, none⟩ : Addr)))] ?_ ?_
     ·
      refine wP tok ?_
      refine w_cut 5 (α := Bool) (fun (s : Bool) => [(48, .bool s), (1, .pointer r1)]) (fun (s : Bool) h => law26_awake_g3 r1 s k h) ?_ ?_
      ·
       rintro t48_3 h_3 H
       replace H : law26_awake_g3 r1 t48_3 k h_3 := H
       unfold law26_awake_g3 at H
       refine w_weak [(48, .bool t48_3), (1, .pointer r1)] ⟨rfl, rfl, trivial⟩ ?_
       refine wP tok ?_
       refine w_cut 4 (α := Bool) (fun (s : Bool) => [(53, .bool s)]) (fun (s : Bool) h => law26_awake_g4 s k h) ?_ ?_
       ·
        rintro t53_4 h_4 H
        replace H : law26_awake_g4 t53_4 k h_4 := H
        unfold law26_awake_g4 at H
        refine w_weak [(53, .bool t53_4)] ⟨rfl, trivial⟩ ?_
        refine wP tok ?_
        refine w_end (x_seq (c_ret ?_))
        exact x_ret _ rfl _ rfl ⟨t53_4, rfl, H⟩
       ·
        refine w_gif (d := 49) H rfl (fun H => ?_) (fun H => ?_)
        ·
         refine wP tok ?_
         refine w_call raft_Raft_Term_ok (raft_Raft_Term_ref _ _ _ H) rfl rfl rfl rfl ?_
         rintro _ h16 ⟨r15, rfl, H⟩
         iterate 2 refine wP tok ?_
         exact w_jn (r15 == 1) H ⟨rfl, trivial⟩
        ·
         iterate 3 refine w_skip rfl rfl ?_
         refine wP tok ?_
         exact w_jn false H ⟨rfl, trivial⟩
      ·
       refine w_gif (d := 43) H rfl (fun H => ?_) (fun H => ?_)
       ·
        refine wP tok ?_
        obtain ⟨v17, hv17, H⟩ := H
        refine w_y (y_ld tok rfl rfl rfl rfl hv17) rfl rfl ?_
        obtain ⟨l18, ll18, hl18, H⟩ := H
        refine w_y (y_b2s (s := v17) (l := l18) tok rfl rfl rfl rfl rfl ll18 hl18) rfl rfl ?_
        iterate 2 refine wP tok ?_
        exact w_jn ((bsOf l18).toList == (⟨#[120]⟩ : ByteArray).toList) H ⟨rfl, rfl, trivial⟩
       ·
        iterate 4 refine w_skip rfl rfl ?_
        refine wP tok ?_
        exact w_jn false H ⟨rfl, rfl, trivial⟩
     ·
      refine w_gs (d := 39) rfl (fun hb => ?_) (fun hb => ?_)
      ·
       iterate 3 refine wP tok ?_
       refine w_jn () rfl ⟨?_, rfl, rfl, trivial⟩
       exact congrArg (fun b => some (Value.bool b)) (and_t hb)
      ·
       iterate 2 refine w_skip rfl rfl ?_
       refine wP tok ?_
       refine w_jn () rfl ⟨?_, rfl, rfl, trivial⟩
       exact congrArg (fun b => some (Value.bool b)) (and_f hb)
    ·
     refine w_gif (d := 34) H rfl (fun H => ?_) (fun H => ?_)
     ·
      refine wP tok ?_
      refine w_call raft_Raft_Committed_ok (raft_Raft_Committed_ref _ _ _ H) rfl rfl rfl rfl ?_
      rintro _ h20 ⟨r19, rfl, H⟩
      iterate 2 refine wP tok ?_
      exact w_jn (r19 == 2) H ⟨rfl, rfl, rfl, rfl, trivial⟩
     ·
      iterate 3 refine w_skip rfl rfl ?_
      refine wP tok ?_
      exact w_jn false H ⟨rfl, rfl, rfl, rfl, trivial⟩
   ·
    refine w_gs (d := 30) rfl (fun hb => ?_) (fun hb => ?_)
    ·
     iterate 3 refine wP tok ?_
     refine w_jn () rfl ⟨?_, rfl, rfl, rfl, trivial⟩
     exact congrArg (fun b => some (Value.bool b)) (and_t hb)
    ·
     iterate 2 refine w_skip rfl rfl ?_
     refine wP tok ?_
     refine w_jn () rfl ⟨?_, rfl, rfl, rfl, trivial⟩
     exact congrArg (fun b => some (Value.bool b)) (and_f hb)
  ·
   refine w_gs (d := 26) rfl (fun hb => ?_) (fun hb => ?_)
   ·
    iterate 3 refine wP tok ?_
    refine w_jn () rfl ⟨?_, rfl, rfl, rfl, rfl, trivial⟩
    exact congrArg (fun b => some (Value.bool b)) (and_t hb)
   ·
    iterate 2 refine w_skip rfl rfl ?_
    refine wP tok ?_
    refine w_jn () rfl ⟨?_, rfl, rfl, rfl, rfl, trivial⟩
    exact congrArg (fun b => some (Value.bool b)) (and_f hb)
 ·
  refine w_gif (d := 21) H rfl (fun H => ?_) (fun H => ?_)
  ·
   refine wP tok ?_
   refine w_call raft_Raft_Leader_ok (raft_Raft_Leader_ref _ _ _ H) rfl rfl rfl rfl ?_
   rintro _ h22 ⟨r21, rfl, H⟩
   iterate 2 refine wP tok ?_
   exact w_jn (r21 == 0) H ⟨rfl, rfl, rfl, rfl, rfl, rfl, trivial⟩
  ·
   iterate 3 refine w_skip rfl rfl ?_
   refine wP tok ?_
   exact w_jn false H ⟨rfl, rfl, rfl, rfl, rfl, rfl, trivial⟩
end Go.Q.Yh
