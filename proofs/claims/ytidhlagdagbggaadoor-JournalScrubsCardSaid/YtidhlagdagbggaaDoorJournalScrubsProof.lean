/- Behind a Scrub the disk's sectors are those of a disk on which only this image was saved, but for the numbers of the slots: JournalScrubs answers true at every input. -/
import Derived.Test.YtidhlagdagbggaaDoorCards
import Derived.Test.YtidhlagdagbggaaDoorTie
import Derived.WalkKit
import Derived.ProofKit
import Derived.OpenShut
import Derived.Deep.DeepHandedRow
import Derived.Lib.LaidTab
import Derived.Test.YtidhlagdagbggaaDoorYfMd
set_option linter.unusedVariables false
set_option maxRecDepth 100000
namespace Go.Proofs.YtidhlagdagbggaaDoor.journalScrubs
open Go.ChangeShapes Go.WideShapes Go.ChangeAt Go.RowKit
theorem own : ownKnob Tryd.prog.godebug = none := by kernel_rfl
theorem laidOut : laidOutB Tryd.prog = true := by kernel_rfl
theorem gTab : Tryd.prog.globalNamed "quaestor/sha.rounds" = some 0 := by kernel_rfl
theorem gTabType : (Tryd.prog.globals[0]?).map (·.type) = some 125 := by kernel_rfl
/-- what the row's list gives: the table's cells -/
theorem table {W : World} (h : laidMetH Tryd.prog Rows.journalScrubsRow.laid W) : Go.Q.Yf.R0 W.heap :=
  Go.Q.rounds_of (A := 125) (C := 108) gTab gTabType Tryd.underlying125 Tryd.underlying108 (by kernel_rfl) (by kernel_rfl) h
def IsRow (k : IntKind) (w : World) (a : Option Addr) (len cap : Nat) (zs : List Int) : Prop :=
  (a = none ∧ len = 0 ∧ cap = 0 ∧ zs = []) ∨
  ∃ x, a = some x ∧ len ≤ cap ∧ cap ≤ maxLen ∧ zs.length = cap ∧ (∀ i, i < zs.length → w.cell? (x.add i) = some (.int k (zs.getD i 0))) ∧ ∀ n ∈ zs, (Lit.int k n).wf = true
theorem walk (s0 : Go.Q.Slc) (ys0 : List Go.Q.Slc) (s1 : Go.Q.Slc) (z1 : List Int) (w : World) (w0 : s0.len ≤ s0.cap ∧ s0.cap ≤ maxLen ∧ Go.Q.LsAt (fun s : Go.Q.Slc => [Go.Q.Slc.v s]) 1 w.heap s0 ys0 ∧ ∀ y ∈ ys0, y.len ≤ y.cap ∧ y.cap ≤ maxLen ∧ ∃ zs, Go.Q.SlI .u8 w.heap y zs) (w1 : s1.len ≤ s1.cap ∧ s1.cap ≤ maxLen ∧ Go.Q.SlI .u8 w.heap s1 z1) (Q : Go.Q.Yf.R0 w.heap) :
    Calls Tryd.prog 4 #[Go.Q.Slc.v s0, Go.Q.Slc.v s1] w fun e w' => e = .returned (.bool true) ∧ Below w.heap.size w w' := by
  obtain ⟨a0, b0, L0, o0⟩ := w0
  obtain ⟨a1, b1, c1, d1, e1⟩ := w1
  obtain ⟨bss, R⟩ := Go.Q.Yf.Rws.of L0 o0
  exact Go.Q.law_calls ((Go.Q.Yf.law11_JournalScrubs_ref _ _ _ _ (Go.Q.Yf.ScrubsL_ok Q R d1 c1 a1 (Go.Q.Yf.isB_wf e1) fun h' X => ⟨rfl, X⟩)).mono fun v h' ⟨r, e, k⟩ => ⟨r, e, k⟩)
theorem contract (H : Type) (enc : TypeId × Value → H) (W : World) (base : Nat) (args : Array Value) (ds gs : List (DataW H)) (before : List MemPlace)
    (hval : ∀ (j : Nat) t v, Tryd.f4.params[j]? = some t → args[j]? = some v → Value.okWide Tryd.prog W .any base t v)
    (hW : DataW.Whole enc Tryd.prog Tryd.f4.params.toList Rows.journalScrubsSpec.vars false W args.toList ds gs before) (hL : laidMetH Tryd.prog Rows.journalScrubsRow.laid W) :
    Calls Tryd.prog 4 args W fun e W' => ∃ v, e = .returned v ∧ Rows.journalScrubsSpec.post enc Tryd.prog Tryd.f4 false true false false W args v W' := by
  have hW' := hW
  obtain ⟨p, q, hA0, hV, rfl, hfz, hnd⟩ := hW
  have hA : DataW.TrodAll enc Tryd.prog W 0 (fun _ => true) true Tryd.f4.params.toList args.toList ds p := hA0
  rw [Tryd.params4] at hA hval
  obtain ⟨v0, vs0, d0, ds0, p0, q0, hargs, rfl, rfl, h0, r0⟩ := trodAll_cons hA
  obtain ⟨v1, vs1, d1, ds1, p1, q1, rfl, rfl, rfl, h1, r1⟩ := trodAll_cons r0
  obtain ⟨rfl, rfl, rfl⟩ := trodAll_nil r1
  obtain rfl : args = #[v0, v1] := by cases args; simp_all
  obtain ⟨rfl, rfl⟩ := trodVars_none hV
  obtain ⟨a0, len0, cap0, rfl⟩ := okWide_slice Tryd.underlying27 (hval 0 27 v0 rfl rfl)
  have k0 := h0
  have lt0 : ∀ x ∈ p0, x.block < W.heap.size := by obtain ⟨m, hm⟩ := k0; exact DataW.trod_lt m _ _ _ hm
  obtain ⟨s0, e0, q0, qq0, ys0, w0⟩ : ∃ s : Go.Q.Slc, (a0 = s.a ∧ len0 = s.len ∧ cap0 = s.cap) ∧ s.len ≤ s.cap ∧ s.cap ≤ maxLen ∧ ∃ ys0, Go.Q.LsAt (fun s : Go.Q.Slc => [Go.Q.Slc.v s]) 1 W.heap s ys0 ∧ ∀ y ∈ ys0, y.len ≤ y.cap ∧ y.cap ≤ maxLen ∧ ∃ zs, Go.Q.SlI .u8 W.heap y zs := by
    obtain ⟨fuel, hf⟩ := h0
    obtain ⟨s, hcs, q1, q2, ys, r⟩ := Go.Q.open_ls (cs := fun s : Go.Q.Slc => [Go.Q.Slc.v s]) (w' := 1) Tryd.underlying27 (show Tryd.prog.cellsOf 23 = 1 by kernel_rfl) (Ok := fun y => y.len ≤ y.cap ∧ y.cap ≤ maxLen ∧ ∃ zs, Go.Q.SlI .u8 W.heap y zs) (fun hx => Go.Q.open_si Tryd.underlying23 Tryd.underlying5 (show Tryd.prog.cellsOf 5 = 1 by kernel_rfl) hx) hf
    simp [Value.cells] at hcs
    exact ⟨s, hcs, q1, q2, ys, r⟩
  obtain ⟨rfl, rfl, rfl⟩ := e0
  obtain ⟨a1, len1, cap1, rfl⟩ := okWide_slice Tryd.underlying23 (hval 1 23 v1 rfl rfl)
  have k1 := h1
  have lt1 : ∀ x ∈ p1, x.block < W.heap.size := by obtain ⟨m, hm⟩ := k1; exact DataW.trod_lt m _ _ _ hm
  obtain ⟨s1, e1, q1, qq1, z1, w1⟩ : ∃ s : Go.Q.Slc, (a1 = s.a ∧ len1 = s.len ∧ cap1 = s.cap) ∧ s.len ≤ s.cap ∧ s.cap ≤ maxLen ∧ ∃ z1, Go.Q.SlI .u8 W.heap s z1 := by
    obtain ⟨fuel, hf⟩ := h1
    obtain ⟨s, hcs, q1, q2, ys, r⟩ := Go.Q.open_si Tryd.underlying23 Tryd.underlying5 (show Tryd.prog.cellsOf 5 = 1 by kernel_rfl) hf
    simp [Value.cells] at hcs
    exact ⟨s, hcs, q1, q2, ys, r⟩
  obtain ⟨rfl, rfl, rfl⟩ := e1
  clear hA0
  refine (walk s0 ys0 s1 z1 W ⟨q0, qq0, w0⟩ ⟨q1, qq1, w1⟩ (table hL)).mono fun e W' ⟨he, bel⟩ => ?_
  subst he
  exact ⟨_, rfl, _, _, _, [], _, [], hW', (trodAll_cons_mk (shut_bool Tryd.underlying4 _) trodAll_mk0), (trodAll_cons_mk (Below.trod laidOut (by kernel_rfl) (of_decide_eq_true (by kernel_rfl)) k0 bel lt0) (trodAll_cons_mk (Below.trod laidOut (by kernel_rfl) (of_decide_eq_true (by kernel_rfl)) k1 bel lt1) trodAll_mk0)), rfl, bel.frame _, fun h => by cases h⟩
/-- a world for the witness -/
noncomputable def laidWorld (os : Os) : World :=
  { World.holding Tryd.prog os ⟨#[], #[], []⟩ with heap := (World.holding Tryd.prog os ⟨#[], #[], []⟩).heap.modify 0 fun
      | .cells _ t frozen => .cells #[.int .u32 1116352408, .int .u32 1899447441, .int .u32 3049323471, .int .u32 3921009573, .int .u32 961987163, .int .u32 1508970993, .int .u32 2453635748, .int .u32 2870763221, .int .u32 3624381080, .int .u32 310598401, .int .u32 607225278, .int .u32 1426881987, .int .u32 1925078388, .int .u32 2162078206, .int .u32 2614888103, .int .u32 3248222580, .int .u32 3835390401, .int .u32 4022224774, .int .u32 264347078, .int .u32 604807628, .int .u32 770255983, .int .u32 1249150122, .int .u32 1555081692, .int .u32 1996064986, .int .u32 2554220882, .int .u32 2821834349, .int .u32 2952996808, .int .u32 3210313671, .int .u32 3336571891, .int .u32 3584528711, .int .u32 113926993, .int .u32 338241895, .int .u32 666307205, .int .u32 773529912, .int .u32 1294757372, .int .u32 1396182291, .int .u32 1695183700, .int .u32 1986661051, .int .u32 2177026350, .int .u32 2456956037, .int .u32 2730485921, .int .u32 2820302411, .int .u32 3259730800, .int .u32 3345764771, .int .u32 3516065817, .int .u32 3600352804, .int .u32 4094571909, .int .u32 275423344, .int .u32 430227734, .int .u32 506948616, .int .u32 659060556, .int .u32 883997877, .int .u32 958139571, .int .u32 1322822218, .int .u32 1537002063, .int .u32 1747873779, .int .u32 1955562222, .int .u32 2024104815, .int .u32 2227730452, .int .u32 2361852424, .int .u32 2428436474, .int .u32 2756734187, .int .u32 3204031479, .int .u32 3329325298] t frozen
      | o => o }
theorem laid_met (os : Os) : laidMet Tryd.prog Rows.journalScrubsRow.laid ((laidWorld os).forCall (fun _ _ => 0) ⟨#[], #[.slice none 0 0, .slice none 0 0], []⟩).memory :=
  laidMet_of_run' 8 (by kernel_rfl) (by kernel_rfl)
theorem reads (os : Os) {H : Type} (enc : TypeId × Value → H) : ∃ places, DataW.whole enc Tryd.prog ((laidWorld os).forCall (fun _ _ => 0) ⟨#[], #[.slice none 0 0, .slice none 0 0], []⟩).memory Tryd.f4.params.toList Rows.journalScrubsSpec.vars false (#[.slice none 0 0, .slice none 0 0] : Array Value).toList 8 = some ([.nil, .nil], [], places) :=
  ⟨[], by kernel_rfl⟩
set_option maxRecDepth 100000 in
theorem lifted (os : Os) (started : os.Started) (H : Type) (enc : TypeId × Value → H) (F : Stop.Interp) :
    ReturnsInHanded {} Tryd.checked os 4 .any ((OpenSpec.ofChange Rows.journalScrubsSpec).preRow enc Tryd.prog Tryd.f4 Rows.journalScrubsRow.domain false Rows.journalScrubsRow.laid) (((OpenSpec.ofChange Rows.journalScrubsSpec).at F).post enc Tryd.prog Tryd.f4 false true false false) := by
  obtain ⟨places, hx⟩ := reads os enc
  refine returnsInHanded_of_row (C := Tryd.checked) (s := OpenSpec.ofChange Rows.journalScrubsSpec) own started (by kernel_rfl) Tryd.func4
    (witness_row_at (enc := enc) (C := Tryd.checked) false (laidWorld os) #[.slice none 0 0, .slice none 0 0] rfl (by kernel_rfl) (by kernel_rfl) (by kernel_rfl)
      (OpenSpec.preRow_of_cond 8 hx (by kernel_rfl) (fun k hk => by cases hk) (by kernel_rfl) (laid_met os))) ?_
  intro W base args ds gs before hval hW _ _ _ hL _ _
  exact contract H enc W base args ds gs before hval hW hL
theorem said : Rows.JournalScrubsSaid :=
  OpenClaim.holds_of_cond 4 Tryd.f4 rfl rfl rfl rfl rfl rfl rfl ⟨rfl, rfl, rfl, rfl, rfl⟩ rfl rfl rfl rfl rfl (by kernel_rfl) Tryd.func4 (by kernel_rfl)
    (of_decide_eq_true (by kernel_rfl)) (by unfold Func.isWrapper; first | (rw [if_pos (by decide +kernel)]; kernel_rfl) | (rw [if_neg (by decide +kernel)]; exact ⟨rfl, rfl⟩))
    (fun os started H enc _ F => by rw [OpenClaim.pre_eq_preRow]; exact lifted os started H enc F)
theorem plain (f : FuncId) (fn : Func) (hf : Tryd.pinned.checked.prog.funcNamed "quaestor/quaestorlaw11.JournalScrubs" = some f) (hfn : Tryd.pinned.checked.prog.funcs[f]? = some fn) :
    false = Tryd.pinned.checked.prog.looks [] ∧ ∀ (j : Nat) t, fn.params[j]? = some t → Tryd.pinned.checked.prog.wantsStandIn t = false := by
  obtain rfl : f = 4 := Option.some.inj ((show Tryd.prog.funcNamed "quaestor/quaestorlaw11.JournalScrubs" = some 4 by kernel_rfl).symm.trans hf) |>.symm
  obtain rfl : fn = Tryd.f4 := (Option.some.inj (Tryd.func4.symm.trans hfn)).symm
  refine ⟨by kernel_rfl, fun j t ht => ?_⟩
  rw [Tryd.params4] at ht
  have hm := Array.mem_of_getElem? ht
  simp at hm
  rcases hm with rfl | rfl
  · exact (show Tryd.prog.wantsStandIn 27 = false by kernel_rfl)
  · exact (show Tryd.prog.wantsStandIn 23 = false by kernel_rfl)
/-- ████ THE CARD ████ -/
theorem card : Rows.JournalScrubsCardSaid :=
  Claim7.holds_tied_plain_at .later [] _ _ _ _ said (fun _ h => by cases h) (by kernel_rfl) (fun _ h => by cases h) journalScrubs_row_tie rfl ⟨rfl, rfl⟩ (by kernel_rfl) rfl plain (by kernel_rfl)
#print axioms card
end Go.Proofs.YtidhlagdagbggaaDoor.journalScrubs
