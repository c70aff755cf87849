/- A part of the proof of statements of this seat: lemmas, no statement of their own. -/
import Derived.Test.YthjafnfadiijgaaYhTab
import Derived.Test.YthjafnfadiijgaaQDraw2
import Derived.Test.YthjafnfadiijgaaQZa
import Derived.Test.YthjafnfadiijgaaQEq
-- squeezed
set_option linter.unusedVariables false
set_option maxRecDepth 100000
set_option maxHeartbeats 1000000
namespace Go.Q.Yh
/-- slices.Clone   byte byte  -/
def slices_Clone_byte_byte (p0 : Slc) (k : (Slc) → Heap → Prop) (h : Heap) : Prop :=
 if (p0.a.isNone) then (k (⟨none, 0, 0⟩ : Slc) h) else (∃ (b1 : Nat) (h2 : Heap), b1 = h.size ∧ h2 = h.push (.cells ([]).toArray 5) ∧ (∃ l5 : List Value, SlcAt h2 p0 l5 ∧ App 5 1 1 [.int .u8 0] h2 (⟨some ⟨b1, 0, none⟩, 0, 0⟩ : Slc) p0.len l5 (fun s3 h4 => k s3 h4)))

/-- quaestor quaestorref23.Great -/
def ref23_Great_l1b (t0_1 : Slc) (t3_1 : Int) (k : (Bool) → Heap → Prop) (nx1 : (Int) → Heap → Prop) (h_1 : Heap) : Prop :=
 if ((decide (t3_1 < (t0_1.len : Int))) && (decide (t3_1 < 100))) then (∃ a1 : Addr, t0_1.a = some a1 ∧ (0 : Int) ≤ t3_1 ∧ t3_1 < (t0_1.len : Int) ∧ (∃ v2 : Slc, cellH h_1 ((a1.add (t3_1.toNat * 2)).add 1) = some (Slc.v v2) ∧ (if (decide ((v2.len : Int) > 300)) then (k true h_1) else (∃ x3 : Int, x3 = (IntKind.i64.wrap (t3_1 + 1)) ∧ (nx1 x3 h_1))))) else (k (decide ((t0_1.len : Int) > 100)) h_1)
def ref23_Great_l1 (t0_1 : Slc) (i3 : Int) (k : (Bool) → Heap → Prop) (h : Heap) : Prop :=
 ∃ (I : Int → Heap → Prop) (μ : Int → Heap → Nat), I i3 h ∧ ∀ (t3_1 : Int) (h : Heap), I t3_1 h → ref23_Great_l1b t0_1 t3_1 k (fun s h' => I s h' ∧ μ s h' < μ t3_1 h) h
def ref23_Great (p0 : Slc) (k : (Bool) → Heap → Prop) (h : Heap) : Prop :=
 ref23_Great_l1 p0 0 k h

/-- quaestor quaestorref26.Great -/
def ref26_Great_g1 (t11_1 : Bool) (k : (Bool) → Heap → Prop) (h_1 : Heap) : Prop :=
 k t11_1 h_1
def ref26_Great (p0 : S_api_Msg) (k : (Bool) → Heap → Prop) (h : Heap) : Prop :=
 ∃ (b1 : Nat) (h2 : Heap), b1 = h.size ∧ h2 = h.push (.cells (S_api_Msg.cs p0).toArray 26) ∧ (∃ v3 : Slc, cellH h2 ((⟨b1, 0, none⟩ : Addr).add 6) = some (Slc.v v3) ∧ (ref23_Great v3 (fun (r4 : Bool) h5 => if r4 then (ref26_Great_g1 true k h5) else (∃ v6 : Slc, cellH h5 ((⟨b1, 0, none⟩ : Addr).add 7) = some (Slc.v v6) ∧ (ref26_Great_g1 (decide ((v6.len : Int) > 1000)) k h5))) h2))

theorem slices_Clone_byte_byte_ok : CallOk Go.Proofs.Try.prog 38 := ⟨_, Go.Proofs.Try.func38, by kernel_rfl, by kernel_rfl⟩
theorem slices_Clone_byte_byte_ref (p0 : Slc) (k : (Slc) → Heap → Prop) (h : Heap) (H : slices_Clone_byte_byte p0 k h) : CallsH Go.Proofs.Try.prog 38 #[Slc.v p0] h (fun v h' => ∃ r : Slc, v = Slc.v r ∧ k r h') := by
 refine f_enter (N := 8) Go.Proofs.Try.func38 rfl rfl rfl (fun w0 => ?_)
 unfold slices_Clone_byte_byte at H
 refine c_weak [(0, Slc.v p0)] ⟨rfl, trivial⟩ ?_
 refine c_seq (c_region ?_)
 refine wP tok ?_
 refine w_end (x_seq ?_)
 refine c_seq (c_seq (c_region ?_))
 iterate 2 refine wP tok ?_
 refine w_end (x_seq ?_)
 refine c_if H rfl (fun H => ?_) (fun H => ?_)
 ·
  refine c_seq (c_region ?_)
  refine wP tok ?_
  refine w_end (x_seq ?_)
  refine c_ret (x_tr ?_)
  exact x_ret _ rfl _ rfl ⟨(⟨none, 0, 0⟩ : Slc), rfl, H⟩
 ·
  refine c_skip (x_seq ?_)
  refine c_seq (c_region ?_)
  obtain ⟨b1, h2, eb1, eh2, H⟩ := H
  refine w_h (h_bs tok rfl rfl rfl rfl rfl rfl rfl eb1 eh2) rfl rfl ?_
  refine wP tok ?_
  obtain ⟨l5, hl5, H⟩ := H
  refine w_a (a_app (s := (⟨some ⟨b1, 0, none⟩, 0, 0⟩ : Slc)) (r := p0) tok rfl rfl rfl rfl rfl hl5 H) rfl rfl ?_
  rintro _ h4 ⟨s3, rfl, H⟩
  refine wP tok ?_
  refine w_end (x_seq (c_ret ?_))
  exact x_ret _ rfl _ rfl ⟨s3, rfl, H⟩

theorem ref23_Great_ok : CallOk Go.Proofs.Try.prog 29 := ⟨_, Go.Proofs.Try.func29, by kernel_rfl, by kernel_rfl⟩
theorem ref23_Great_ref (p0 : Slc) (k : (Bool) → Heap → Prop) (h : Heap) (H : ref23_Great p0 k h) : CallsH Go.Proofs.Try.prog 29 #[Slc.v p0] h (fun v h' => ∃ r : Bool, v = .bool r ∧ k r h') := by
 refine f_enter (N := 24) Go.Proofs.Try.func29 rfl rfl rfl (fun w0 => ?_)
 unfold ref23_Great at H
 refine c_weak [(0, Slc.v p0)] ⟨rfl, trivial⟩ ?_
 refine c_seq (c_region ?_)
 refine wP tok ?_
 refine w_end (x_seq ?_)
 refine c_seq (c_seq (c_region ?_))
 refine wP tok ?_
 refine w_end (x_seq (c_block ?_))
 obtain ⟨I1, μ1, H0, HI⟩ := H
 refine c_loop (σ := Int) (fun (s : Int) => [(3, .int .i64 s), (0, Slc.v p0)]) I1 μ1 0 H0 ⟨rfl, rfl, trivial⟩ ?_
 rintro t3_1 h_1 H
 replace H := HI t3_1 h_1 H
 unfold ref23_Great_l1b at H
 refine c_weak [(3, .int .i64 t3_1), (0, Slc.v p0)] ⟨rfl, rfl, trivial⟩ ?_
 refine c_seq (c_seq (c_region ?_))
 iterate 5 refine wP tok ?_
 refine w_cutU 3 [(11, .bool ((decide (t3_1 < (p0.len : Int))) && (decide (t3_1 < 100)))), (0, Slc.v p0), (3, .int .i64 t3_1)] ?_ ?_
 ·
  refine w_end (x_seq ?_)
  refine c_if H rfl (fun H => ?_) (fun H => ?_)
  ·
   refine c_skip (x_seq ?_)
   refine c_seq (c_block ?_)
   refine c_seq (c_region ?_)
   iterate 2 refine wP tok ?_
   obtain ⟨a1, ha1, la1, ua1, H⟩ := H
   refine w_y (y_ixa' tok rfl rfl ha1 rfl rfl rfl la1 ua1) rfl rfl ?_
   refine wP tok ?_
   obtain ⟨v2, hv2, H⟩ := H
   refine w_y (y_ld tok rfl rfl rfl rfl hv2) rfl rfl ?_
   iterate 2 refine wP tok ?_
   refine w_end (x_seq ?_)
   refine c_weak [(0, Slc.v p0), (3, .int .i64 t3_1), (20, .bool (decide ((v2.len : Int) > 300)))] ⟨rfl, rfl, rfl, trivial⟩ ?_
   refine c_if H rfl (fun H => ?_) (fun H => ?_)
   ·
    refine c_seq (c_region ?_)
    refine wP tok ?_
    refine w_end (x_seq (c_ret ?_))
    refine x_br ?_
    refine x_tr (x_tr ?_)
    refine x_br ?_
    refine x_tr ?_
    exact x_ret _ rfl _ rfl ⟨true, rfl, H⟩
   ·
    refine c_skip ?_
    refine x_blk ?_
    refine x_seq (c_region ?_)
    iterate 2 refine wP tok ?_
    obtain ⟨x3, ex3, H⟩ := H
    refine w_pe tok rfl (congrArg (fun z => (.int .i64 z : Value)) ex3) rfl rfl ?_
    refine w_end ?_
    exact x_join x3 H ⟨rfl, rfl, trivial⟩
  ·
   refine c_exit ?_
   refine x_te (x_te ?_)
   refine x_bh ?_
   refine x_seq (c_seq (c_region ?_))
   iterate 4 refine wP tok ?_
   refine w_end (x_seq (c_ret ?_))
   exact x_ret _ rfl _ rfl ⟨(decide ((p0.len : Int) > 100)), rfl, H⟩
 ·
  refine w_gs (d := 8) rfl (fun hb => ?_) (fun hb => ?_)
  ·
   iterate 3 refine wP tok ?_
   refine w_jn () rfl ⟨?_, rfl, rfl, trivial⟩
   exact congrArg (fun b => some (Value.bool b)) (and_t hb)
  ·
   iterate 2 refine w_skip rfl rfl ?_
   refine wP tok ?_
   refine w_jn () rfl ⟨?_, rfl, rfl, trivial⟩
   exact congrArg (fun b => some (Value.bool b)) (and_f hb)

theorem ref26_Great_ok : CallOk Go.Proofs.Try.prog 7 := ⟨_, Go.Proofs.Try.func7, by kernel_rfl, by kernel_rfl⟩
theorem ref26_Great_ref (p0 : S_api_Msg) (k : (Bool) → Heap → Prop) (h : Heap) (H : ref26_Great p0 k h) : CallsH Go.Proofs.Try.prog 7 #[.agg (S_api_Msg.cs p0).toArray] h (fun v h' => ∃ r : Bool, v = .bool r ∧ k r h') := by
 refine f_enter (N := 12) Go.Proofs.Try.func7 rfl rfl rfl (fun w0 => ?_)
 unfold ref26_Great at H
 refine c_weak [(0, .agg (S_api_Msg.cs p0).toArray)] ⟨rfl, trivial⟩ ?_
 refine c_seq (c_region ?_)
 obtain ⟨b1, h2, eb1, eh2, H⟩ := H
 refine w_h (h_box rfl rfl eb1 eh2) rfl rfl ?_
 refine wP tok ?_
 refine w_end (x_seq ?_)
 refine c_seq (c_region ?_)
 refine wP tok ?_
 obtain ⟨v3, hv3, H⟩ := H
 refine w_y (y_ld tok rfl rfl rfl rfl hv3) rfl rfl ?_
 refine w_call ref23_Great_ok (ref23_Great_ref _ _ _ H) rfl rfl rfl rfl ?_
 rintro _ h5 ⟨r4, rfl, H⟩
 refine wP tok ?_
 refine w_cut 5 (α := Bool) (fun (s : Bool) => [(11, .bool s)]) (fun (s : Bool) h => ref26_Great_g1 s k h) ?_ ?_
 ·
  rintro t11_1 h_1 H
  replace H : ref26_Great_g1 t11_1 k h_1 := H
  unfold ref26_Great_g1 at H
  refine w_weak [(11, .bool t11_1)] ⟨rfl, trivial⟩ ?_
  refine wP tok ?_
  refine w_end (x_seq (c_ret ?_))
  exact x_ret _ rfl _ rfl ⟨t11_1, rfl, H⟩
 ·
  refine w_gif (d := 6) H rfl (fun H => ?_) (fun H => ?_)
  ·
   iterate 4 refine w_skip rfl rfl ?_
   refine wP tok ?_
   exact w_jn true H ⟨rfl, trivial⟩
  ·
   refine wP tok ?_
   obtain ⟨v6, hv6, H⟩ := H
   refine w_y (y_ld tok rfl rfl rfl rfl hv6) rfl rfl ?_
   iterate 3 refine wP tok ?_
   exact w_jn (decide ((v6.len : Int) > 1000)) H ⟨rfl, trivial⟩

end Go.Q.Yh
