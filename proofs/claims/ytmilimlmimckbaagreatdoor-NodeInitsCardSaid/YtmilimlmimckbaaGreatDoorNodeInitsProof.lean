/- A node that begins keeps what the document says it keeps, or is refused where the document refuses it, and the document's example of a whole node stands: NodeInits answers true at every input. -/
import Derived.Test.YtmilimlmimckbaaGreatDoorCards
import Derived.Test.YtmilimlmimckbaaGreatDoorTie
import Derived.WalkKit
import Derived.ProofKit
import Derived.OpenShut
import Derived.ShutString
import Derived.ChangeMaps5
import Derived.Deep.DeepHandedRow
import Derived.Lib.LaidTab
import Derived.Test.YtmilimlmimckbaaGreatDoorYoZbm
import Derived.Test.YtmilimlmimckbaaGreatDoorF0
import Derived.Test.YtmilimlmimckbaaGreatDoorF1
import Derived.Test.YtmilimlmimckbaaGreatDoorF2
import Derived.Test.YtmilimlmimckbaaGreatDoorF3
set_option linter.unusedVariables false
set_option maxRecDepth 100000
namespace Go.Proofs.YtmilimlmimckbaaGreatDoor.nodeInits
open Go.ChangeShapes Go.WideShapes Go.ChangeAt Go.RowKit Go.ChangeMaps
theorem own : ownKnob Tryz.prog.godebug = none := by kernel_rfl
theorem laidOut : laidOutB Tryz.prog = true := by kernel_rfl
theorem gTab : Tryz.prog.globalNamed "quaestor/sha.rounds" = some 0 := by kernel_rfl
theorem gTabType : (Tryz.prog.globals[0]?).map (·.type) = some 401 := by kernel_rfl
theorem gQ : Tryz.prog.globalNamed "quaestor/chacha.quarters" = some 1 := by kernel_rfl
theorem gQType : (Tryz.prog.globals[1]?).map (·.type) = some 568 := by kernel_rfl
/-- what the row's list gives: the tables' cells -/
theorem table {W : World} (h : laidMetH Tryz.prog Rows.nodeInitsRow.laid W) : Go.Q.Yo.R0 W.heap ∧ Go.Q.Yo.Ch.Q0 W.heap :=
  Go.Q.tabs_of (A := 568) (B := 567) (C := 3) (D := 401) (E := 51) gQ gQType Tryz.underlying568 Tryz.underlying567 Tryz.underlying3 (by kernel_rfl) (by kernel_rfl) (by kernel_rfl) gTab gTabType Tryz.underlying401 Tryz.underlying51 (by kernel_rfl) (by kernel_rfl) h
theorem nogo : Tryz.checked.prog.funcs.any Func.goes = false := by kernel_rfl
def IsRow (k : IntKind) (w : World) (a : Option Addr) (len cap : Nat) (zs : List Int) : Prop :=
  (a = none ∧ len = 0 ∧ cap = 0 ∧ zs = []) ∨
  ∃ x, a = some x ∧ len ≤ cap ∧ cap ≤ maxLen ∧ zs.length = cap ∧ (∀ i, i < zs.length → w.cell? (x.add i) = some (.int k (zs.getD i 0))) ∧ ∀ n ∈ zs, (Lit.int k n).wf = true
theorem walk (a0 : Int) (a1 : Int) (a2 : Int) (a3 : List Int) (s4 : Go.Q.Slc) (z4 : List Int) (a5 : List Int) (w : World) (w0 : (Lit.int .i64 a0).wf = true) (w1 : (Lit.int .i64 a1).wf = true) (w2 : (Lit.int .i64 a2).wf = true) (l3 : a3.length = 32) (w3 : ∀ x ∈ a3, (Lit.int .u8 x).wf = true) (w4 : s4.len ≤ s4.cap ∧ s4.cap ≤ maxLen ∧ Go.Q.SlI .u8 w.heap s4 z4) (l5 : a5.length = 32) (w5 : ∀ x ∈ a5, (Lit.int .u8 x).wf = true) (Q : Go.Q.Yo.R0 w.heap ∧ Go.Q.Yo.Ch.Q0 w.heap) :
    Calls Tryz.prog 3 #[.int .i64 a0, .int .i64 a1, .int .i64 a2, .agg (a3.map (Value.int .u8)).toArray, Go.Q.Slc.v s4, .agg (a5.map (Value.int .u8)).toArray] w fun e w' => e = .returned (.bool true) ∧ Below w.heap.size w w' := by
  obtain ⟨b0, c0, d0, S0, e0⟩ := w4
  have A3 : a3.map (Value.int .u8) = Go.Q.arr 32 .u8 a3 := (Go.Q.arr_id l3).symm
  have A5 : a5.map (Value.int .u8) = Go.Q.arr 32 .u8 a5 := (Go.Q.arr_id l5).symm
  rw [A3, A5]
  exact Go.Q.law_calls ((Go.Q.Yo.law32_NodeInits_ref _ _ _ _ _ _ _ _ (Go.Q.Yo.NodeInits_ok Q.1 Q.2 (Go.Q.wf_i64 w0) (Go.Q.wf_i64 w1) (Go.Q.wf_i64 w2) l3 (Go.Q.wf_isB w3) l5 S0 d0 (Go.Q.wf_isB e0) fun h' X => ⟨rfl, X⟩)).mono fun v h' ⟨r, e, k⟩ => ⟨r, e, k⟩)
theorem contract (H : Type) (enc : TypeId × Value → H) (W : World) (base : Nat) (args : Array Value) (ds gs : List (DataW H)) (before : List MemPlace)
    (hval : ∀ (j : Nat) t v, Tryz.f3.params[j]? = some t → args[j]? = some v → Value.okWide Tryz.prog W .any base t v)
    (hW : DataW.Whole enc Tryz.prog Tryz.f3.params.toList Rows.nodeInitsSpec.vars false W args.toList ds gs before) (hL : laidMetH Tryz.prog Rows.nodeInitsRow.laid W) :
    Calls Tryz.prog 3 args W fun e W' => ∃ v, e = .returned v ∧ Rows.nodeInitsSpec.post enc Tryz.prog Tryz.f3 false true false false W args v W' := by
  have hW' := hW
  obtain ⟨p, q, hA0, hV, rfl, hfz, hnd⟩ := hW
  have hA : DataW.TrodAll enc Tryz.prog W 0 (fun _ => true) true Tryz.f3.params.toList args.toList ds p := hA0
  rw [Tryz.params3] at hA hval
  obtain ⟨v0, vs0, d0, ds0, p0, q0, hargs, rfl, rfl, h0, r0⟩ := trodAll_cons hA
  obtain ⟨v1, vs1, d1, ds1, p1, q1, rfl, rfl, rfl, h1, r1⟩ := trodAll_cons r0
  obtain ⟨v2, vs2, d2, ds2, p2, q2, rfl, rfl, rfl, h2, r2⟩ := trodAll_cons r1
  obtain ⟨v3, vs3, d3, ds3, p3, q3, rfl, rfl, rfl, h3, r3⟩ := trodAll_cons r2
  obtain ⟨v4, vs4, d4, ds4, p4, q4, rfl, rfl, rfl, h4, r4⟩ := trodAll_cons r3
  obtain ⟨v5, vs5, d5, ds5, p5, q5, rfl, rfl, rfl, h5, r5⟩ := trodAll_cons r4
  obtain ⟨rfl, rfl, rfl⟩ := trodAll_nil r5
  obtain rfl : args = #[v0, v1, v2, v3, v4, v5] := by cases args; simp_all
  obtain ⟨rfl, rfl⟩ := trodVars_none hV
  obtain ⟨a0, rfl, rfl, rfl, w0⟩ := open_int Tryz.underlying3 (hval 0 3 v0 rfl rfl) h0
  obtain ⟨a1, rfl, rfl, rfl, w1⟩ := open_int Tryz.underlying3 (hval 1 3 v1 rfl rfl) h1
  obtain ⟨a2, rfl, rfl, rfl, w2⟩ := open_int Tryz.underlying3 (hval 2 3 v2 rfl rfl) h2
  obtain ⟨a3, rfl, l3, w3, rfl, rfl⟩ := Go.Q.open_ia Tryz.underlying23 Tryz.underlying5 (show Tryz.prog.cellsOf 23 = 32 by kernel_rfl) (show Tryz.prog.cellsOf 5 = 1 by kernel_rfl) (hval 3 23 v3 rfl rfl) h3
  obtain ⟨a4, len4, cap4, rfl⟩ := okWide_slice Tryz.underlying24 (hval 4 24 v4 rfl rfl)
  have k4 := h4
  have lt4 : ∀ x ∈ p4, x.block < W.heap.size := by obtain ⟨m, hm⟩ := k4; exact DataW.trod_lt m _ _ _ hm
  obtain ⟨s4, e4, q4, qq4, z4, w4⟩ : ∃ s : Go.Q.Slc, (a4 = s.a ∧ len4 = s.len ∧ cap4 = s.cap) ∧ s.len ≤ s.cap ∧ s.cap ≤ maxLen ∧ ∃ z4, Go.Q.SlI .u8 W.heap s z4 := by
    obtain ⟨fuel, hf⟩ := h4
    obtain ⟨s, hcs, q1, q2, ys, r⟩ := Go.Q.open_si Tryz.underlying24 Tryz.underlying5 (show Tryz.prog.cellsOf 5 = 1 by kernel_rfl) hf
    simp [Value.cells] at hcs
    exact ⟨s, hcs, q1, q2, ys, r⟩
  obtain ⟨rfl, rfl, rfl⟩ := e4
  obtain ⟨a5, rfl, l5, w5, rfl, rfl⟩ := Go.Q.open_ia Tryz.underlying23 Tryz.underlying5 (show Tryz.prog.cellsOf 23 = 32 by kernel_rfl) (show Tryz.prog.cellsOf 5 = 1 by kernel_rfl) (hval 5 23 v5 rfl rfl) h5
  clear hA0
  refine (walk a0 a1 a2 a3 s4 z4 a5 W w0 w1 w2 l3 w3 ⟨q4, qq4, w4⟩ l5 w5 (table hL)).mono fun e W' ⟨he, bel⟩ => ?_
  subst he
  exact ⟨_, rfl, _, _, _, [], _, [], hW', (trodAll_cons_mk (shut_bool Tryz.underlying4 _) trodAll_mk0), (trodAll_cons_mk (shut_int Tryz.underlying3 w0) (trodAll_cons_mk (shut_int Tryz.underlying3 w1) (trodAll_cons_mk (shut_int Tryz.underlying3 w2) (trodAll_cons_mk (Go.Q.shut_ia Tryz.underlying23 Tryz.underlying5 (show Tryz.prog.cellsOf 23 = 32 by kernel_rfl) (show Tryz.prog.cellsOf 5 = 1 by kernel_rfl) l3 w3) (trodAll_cons_mk (Below.trod laidOut (by kernel_rfl) (of_decide_eq_true (by kernel_rfl)) k4 bel lt4) (trodAll_cons_mk (Go.Q.shut_ia Tryz.underlying23 Tryz.underlying5 (show Tryz.prog.cellsOf 23 = 32 by kernel_rfl) (show Tryz.prog.cellsOf 5 = 1 by kernel_rfl) l5 w5) trodAll_mk0)))))), rfl, bel.frame _, fun h => by cases h⟩
/-- a block's cells laid anew -/
def setC (cs : Array Value) : Obj → Obj
  | .cells _ t frozen => .cells cs t frozen
  | o => o
/-- a world for the witness -/
noncomputable def laidWorld (os : Os) : World :=
  { World.holding Tryz.prog os ⟨#[], #[], []⟩ with heap := Array.modify (Array.modify (World.holding Tryz.prog os ⟨#[], #[], []⟩).heap 0 (setC #[.int .u32 1116352408, .int .u32 1899447441, .int .u32 3049323471, .int .u32 3921009573, .int .u32 961987163, .int .u32 1508970993, .int .u32 2453635748, .int .u32 2870763221, .int .u32 3624381080, .int .u32 310598401, .int .u32 607225278, .int .u32 1426881987, .int .u32 1925078388, .int .u32 2162078206, .int .u32 2614888103, .int .u32 3248222580, .int .u32 3835390401, .int .u32 4022224774, .int .u32 264347078, .int .u32 604807628, .int .u32 770255983, .int .u32 1249150122, .int .u32 1555081692, .int .u32 1996064986, .int .u32 2554220882, .int .u32 2821834349, .int .u32 2952996808, .int .u32 3210313671, .int .u32 3336571891, .int .u32 3584528711, .int .u32 113926993, .int .u32 338241895, .int .u32 666307205, .int .u32 773529912, .int .u32 1294757372, .int .u32 1396182291, .int .u32 1695183700, .int .u32 1986661051, .int .u32 2177026350, .int .u32 2456956037, .int .u32 2730485921, .int .u32 2820302411, .int .u32 3259730800, .int .u32 3345764771, .int .u32 3516065817, .int .u32 3600352804, .int .u32 4094571909, .int .u32 275423344, .int .u32 430227734, .int .u32 506948616, .int .u32 659060556, .int .u32 883997877, .int .u32 958139571, .int .u32 1322822218, .int .u32 1537002063, .int .u32 1747873779, .int .u32 1955562222, .int .u32 2024104815, .int .u32 2227730452, .int .u32 2361852424, .int .u32 2428436474, .int .u32 2756734187, .int .u32 3204031479, .int .u32 3329325298])) 1 (setC #[.int .i64 0, .int .i64 4, .int .i64 8, .int .i64 12, .int .i64 1, .int .i64 5, .int .i64 9, .int .i64 13, .int .i64 2, .int .i64 6, .int .i64 10, .int .i64 14, .int .i64 3, .int .i64 7, .int .i64 11, .int .i64 15, .int .i64 0, .int .i64 5, .int .i64 10, .int .i64 15, .int .i64 1, .int .i64 6, .int .i64 11, .int .i64 12, .int .i64 2, .int .i64 7, .int .i64 8, .int .i64 13, .int .i64 3, .int .i64 4, .int .i64 9, .int .i64 14]) }
theorem laid_met (os : Os) : laidMet Tryz.prog Rows.nodeInitsRow.laid ((laidWorld os).forCall (fun _ _ => 0) ⟨#[], #[.int .i64 0, .int .i64 0, .int .i64 0, .agg (List.replicate 32 (Value.int .u8 0)).toArray, .slice none 0 0, .agg (List.replicate 32 (Value.int .u8 0)).toArray], []⟩).memory :=
  laidMet_of_run' 8 (by kernel_rfl) (by kernel_rfl)
theorem reads (os : Os) {H : Type} (enc : TypeId × Value → H) : ∃ places, DataW.whole enc Tryz.prog ((laidWorld os).forCall (fun _ _ => 0) ⟨#[], #[.int .i64 0, .int .i64 0, .int .i64 0, .agg (List.replicate 32 (Value.int .u8 0)).toArray, .slice none 0 0, .agg (List.replicate 32 (Value.int .u8 0)).toArray], []⟩).memory Tryz.f3.params.toList Rows.nodeInitsSpec.vars false (#[.int .i64 0, .int .i64 0, .int .i64 0, .agg (List.replicate 32 (Value.int .u8 0)).toArray, .slice none 0 0, .agg (List.replicate 32 (Value.int .u8 0)).toArray] : Array Value).toList 8 = some ([.lit (.int .i64 0), .lit (.int .i64 0), .lit (.int .i64 0), .agg (List.replicate 32 (.lit (.int .u8 0))), .nil, .agg (List.replicate 32 (.lit (.int .u8 0)))], [], places) :=
  ⟨[], by kernel_rfl⟩
set_option maxRecDepth 100000 in
theorem lifted (os : Os) (started : os.Started) (H : Type) (enc : TypeId × Value → H) (F : Stop.Interp) :
    ReturnsInHanded {} Tryz.checked os 3 .any ((OpenSpec.ofChange Rows.nodeInitsSpec).preRow enc Tryz.prog Tryz.f3 Rows.nodeInitsRow.domain false Rows.nodeInitsRow.laid) (((OpenSpec.ofChange Rows.nodeInitsSpec).at F).post enc Tryz.prog Tryz.f3 false true false false) := by
  obtain ⟨places, hx⟩ := reads os enc
  refine returnsInHanded_of_row (C := Tryz.checked) (s := OpenSpec.ofChange Rows.nodeInitsSpec) own started (by kernel_rfl) Tryz.func3
    (witness_row_at (enc := enc) (C := Tryz.checked) false (laidWorld os) #[.int .i64 0, .int .i64 0, .int .i64 0, .agg (List.replicate 32 (Value.int .u8 0)).toArray, .slice none 0 0, .agg (List.replicate 32 (Value.int .u8 0)).toArray] rfl (by kernel_rfl) (by kernel_rfl) (by kernel_rfl)
      (OpenSpec.preRow_of_cond 8 hx (by kernel_rfl) (fun k hk => by cases hk) (by kernel_rfl) (laid_met os))) ?_
  intro W base args ds gs before hval hW _ _ _ hL _ _
  exact contract H enc W base args ds gs before hval hW hL
theorem an {a b : Bool} (h : a = true) (k : b = true) : (a && b) = true := by rw [h, k]; rfl
theorem j1 : (Rows.nodeInitsRow.wf (OpenSpec.ofChange (OpenSpec.ofChange Rows.nodeInitsSpec).bare)) = true := by kernel_rfl
theorem j2 : (laidOutB Tryz.pinned.checked.prog) = true := by kernel_rfl
theorem j3 : (mapsRowed Tryz.pinned.checked.prog) = true := by kernel_rfl
theorem j4 : (Tryz.f3.params.all (Tryz.pinned.checked.prog.readableRec ·)) = true := by kernel_rfl
theorem j5 : (namedTie Tryz.pinned.checked.prog Rows.nodeInitsRow.named (OpenSpec.ofChange Rows.nodeInitsSpec).bare.vars) = true := by kernel_rfl
theorem j6 : ((Rows.nodeInitsRow.stops == [])) = true := by kernel_rfl
theorem j7 : ((Tryz.pinned.checked.prog.stops == [])) = true := by kernel_rfl
theorem j8 : ((Rows.nodeInitsRow.knobs == [])) = true := by kernel_rfl
theorem j9 : ((Tryz.pinned.checked.prog.stopKnobs == [])) = true := by kernel_rfl
theorem j14 : ((Rows.nodeInitsRow.maps == (Tryz.f3.params.toList ++ (OpenSpec.ofChange Rows.nodeInitsSpec).bare.plain.varTypes Tryz.pinned.checked.prog).any (Tryz.pinned.checked.prog.mapsRec ·))) = true := by kernel_rfl
theorem j15 : ((Rows.nodeInitsRow.ifaces == (Tryz.f3.params.toList ++ (OpenSpec.ofChange Rows.nodeInitsSpec).bare.plain.varTypes Tryz.pinned.checked.prog).any (Tryz.pinned.checked.prog.ifacesRec ·))) = true := by kernel_rfl
theorem j16 : ((Rows.nodeInitsRow.mapsOut == Tryz.pinned.checked.prog.mapsAmong Tryz.f3.resultTypes.toList)) = true := by kernel_rfl
theorem j17 : ((Rows.nodeInitsRow.loops == (Tryz.f3.params.toList ++ (OpenSpec.ofChange Rows.nodeInitsSpec).bare.plain.varTypes Tryz.pinned.checked.prog).any (Tryz.pinned.checked.prog.loopsFrom ·))) = true := by kernel_rfl
theorem j18 : ((Rows.nodeInitsRow.wideKeys == (Tryz.f3.params.toList ++ (OpenSpec.ofChange Rows.nodeInitsSpec).bare.plain.varTypes Tryz.pinned.checked.prog ++ Tryz.f3.resultTypes.toList).any (Tryz.pinned.checked.prog.wideKeysFrom ·))) = true := by kernel_rfl
theorem j19 : ((OpenSpec.ofChange Rows.nodeInitsSpec).bare.vars.all (Tryz.pinned.checked.prog.varReadable ·)) = true := by kernel_rfl
theorem j20 : (Tryz.f3.resultTypes.all (fun t => Tryz.pinned.checked.prog.readableRec t && decide (t < Tryz.pinned.checked.prog.types.size))) = true := by kernel_rfl
theorem j21 : ((Rows.nodeInitsRow.ifacesOut == Tryz.f3.resultTypes.toList.any (Tryz.pinned.checked.prog.ifacesRec ·))) = true := by kernel_rfl
theorem j22 : ((Rows.nodeInitsRow.loopsOut == Tryz.f3.resultTypes.toList.any (Tryz.pinned.checked.prog.loopsFrom ·))) = true := by kernel_rfl
theorem j23 : ((Rows.nodeInitsRow.plainKeys == Tryz.pinned.checked.prog.plainKeys)) = true := by kernel_rfl
theorem j24 : (Rows.nodeInitsRow.shortTexts.isNone) = true := by kernel_rfl
theorem j25 : (Tryz.pinned.checked.prog.stopsHeard) = true := by kernel_rfl
theorem j26 : (Tryz.pinned.checked.prog.mayEnter) = true := by kernel_rfl
theorem j27 : ((Rows.nodeInitsRow.lifted == Tryz.pinned.checked.prog.liftsFinal)) = true := by kernel_rfl
theorem j28 : ((Tryz.pinned.checked.prog.make == some Rows.nodeInitsRow.make)) = true := by kernel_rfl
theorem j29 : ((Rows.nodeInitsRow.kinds == (if Rows.nodeInitsRow.domain.isEmpty then [] else Tryz.f3.params.toList.map fun t => match Tryz.pinned.checked.prog.underlying t with | some (.int k) => some k | _ => none))) = true := by kernel_rfl
theorem j30 : ((Rows.nodeInitsRow.pinned == Rows.nodeInitsRow.pinnedBy)) = true := by kernel_rfl
theorem j31 : ((Rows.nodeInitsRow.veiled == (Tryz.f3.params.toList ++ (OpenSpec.ofChange Rows.nodeInitsSpec).bare.plain.varTypes Tryz.pinned.checked.prog ++ Tryz.f3.resultTypes.toList).any (Tryz.pinned.checked.prog.veiledRec ·))) = true := by kernel_rfl
theorem j32 : (Rows.nodeInitsRow.veiledFits Tryz.pinned.checked.prog Tryz.f3.params.toList (Tryz.f3.params.toList ++ (OpenSpec.ofChange Rows.nodeInitsSpec).bare.plain.varTypes Tryz.pinned.checked.prog ++ Tryz.f3.resultTypes.toList)) = true := by kernel_rfl
theorem joined : joinedFacts Tryz.pinned.checked.prog 3 Tryz.f3 (OpenSpec.ofChange Rows.nodeInitsSpec).bare Rows.nodeInitsRow = true := an (an (an (an (an (an (an (an (an (an (an (an (an (an (an (an (an (an (an (an (an (an (an (an (an (an (an (an (an (an (an j1 j2) j3) j4) j5) j6) j7) j8) j9) j10) j11) j12) j13) j14) j15) j16) j17) j18) j19) j20) j21) j22) j23) j24) j25) j26) j27) j28) j29) j30) j31) j32
theorem said : Rows.NodeInitsSaid :=
  OpenClaim.holds_of_cond 3 Tryz.f3 rfl rfl rfl rfl rfl rfl rfl ⟨rfl, rfl, rfl, rfl, rfl⟩ rfl rfl rfl rfl rfl (by kernel_rfl) Tryz.func3 joined
    (of_decide_eq_true (by kernel_rfl)) (by unfold Func.isWrapper; first | (rw [if_pos (by decide +kernel)]; kernel_rfl) | (rw [if_neg (by decide +kernel)]; exact ⟨rfl, rfl⟩))
    (fun os started H enc _ F => by rw [OpenClaim.pre_eq_preRow]; exact lifted os started H enc F)
theorem plain (f : FuncId) (fn : Func) (hf : Tryz.pinned.checked.prog.funcNamed "quaestor/quaestorlaw32.NodeInits" = some f) (hfn : Tryz.pinned.checked.prog.funcs[f]? = some fn) :
    true = Tryz.pinned.checked.prog.looks [] ∧ ∀ (j : Nat) t, fn.params[j]? = some t → Tryz.pinned.checked.prog.wantsStandIn t = false := by
  obtain rfl : f = 3 := Option.some.inj ((show Tryz.prog.funcNamed "quaestor/quaestorlaw32.NodeInits" = some 3 by kernel_rfl).symm.trans hf) |>.symm
  obtain rfl : fn = Tryz.f3 := (Option.some.inj (Tryz.func3.symm.trans hfn)).symm
  refine ⟨by kernel_rfl, fun j t ht => ?_⟩
  rw [Tryz.params3] at ht
  have hm := Array.mem_of_getElem? ht
  simp at hm
  rcases hm with rfl | rfl | rfl | rfl
  · exact (show Tryz.prog.wantsStandIn 3 = false by kernel_rfl)
  · exact (show Tryz.prog.wantsStandIn 23 = false by kernel_rfl)
  · exact (show Tryz.prog.wantsStandIn 24 = false by kernel_rfl)
  · exact (show Tryz.prog.wantsStandIn 23 = false by kernel_rfl)
/-- ████ THE CARD ████ -/
theorem card : Rows.NodeInitsCardSaid :=
  Claim7.holds_tied_plain_at .later [] _ _ _ _ said (fun _ h => by cases h) (by kernel_rfl) (fun _ h => by cases h) nodeInits_row_tie rfl ⟨rfl, rfl⟩ (by kernel_rfl) rfl plain (Go.Q.goesBy_no nogo rfl)
#print axioms card
end Go.Proofs.YtmilimlmimckbaaGreatDoor.nodeInits
