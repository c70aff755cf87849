/- A part of the proof of statements of this seat: lemmas, no statement of their own. -/
import Derived.Test.YtidhlagdagbggaaDoorYfLayK
import Derived.Test.YtidhlagdagbggaaDoorYfTab
import Derived.Test.YtidhlagdagbggaaDoorQMap
set_option linter.unusedVariables false
set_option linter.unusedSimpArgs false
set_option maxRecDepth 100000
namespace Go.Q
open Go.RowKit Go.Maps Go.Shelf Go.Proofs
open Go.WideElems (Fit rd rg)
/-! ### what the kit's contracts ask of a map -/
def RZ : Value → Option (DataW Unit × List MemPlace) := fun _ => some (.lit (.bool true), [])
theorem owns_of {P : Program} {kt : TypeId} {d : TypeDesc} {h : Heap} {r : Nat} {l : List (Value × Value)} (M : MapH d h r l) (hk : ∀ p ∈ l, ∃ y, keyOf P kt p.1 = some y) (hl : l.length ≤ maxLen) (w : World) (hw : w.heap = h) :
    ∃ D0 : List (Lit × DataW Unit), w.ownsMap P kt RZ r l.length (.map D0) ∧ D0.Perm (l.map fun p => ((keyOf P kt p.1).getD (.bool false), .lit (.bool true))) := by
  obtain ⟨es, ck, hb, hs, _, hl2⟩ := M
  have hn : es.size = l.length := by rw [← hl2]; simp
  refine ⟨(es.toList.map (rg P kt RZ)).foldr DataW.insert [], ⟨es, ck, by rw [hw]; exact hb, ⟨by omega, hs, fun x hx => ?_⟩, by omega, rfl⟩, ?_⟩
  · obtain ⟨y, hy⟩ := hk (x.key, x.val) (by rw [← hl2]; exact List.mem_map.2 ⟨x, hx, rfl⟩)
    exact ⟨(y, .lit (.bool true)), by unfold rd; rw [hy]; rfl⟩
  · refine (Go.WideShapes.sorted_perm _).trans ?_
    rw [← hl2, List.map_map]
    refine List.Perm.of_eq (List.map_congr_left fun x hx => ?_)
    obtain ⟨y, hy⟩ := hk (x.key, x.val) (by rw [← hl2]; exact List.mem_map.2 ⟨x, hx, rfl⟩)
    show rg P kt RZ x = ((keyOf P kt x.key).getD _, _)
    unfold rg rd
    rw [hy]; rfl
theorem row_of_owns {w : World} {B E wd n : Nat} {v : Value} {xs : List Value} (h : w.ownsRow B E wd v n xs) : ∃ s : Slc, v = Slc.v s ∧ s.len = n ∧ Row B w.heap E wd s xs := by
  obtain ⟨hl, hc⟩ := h
  rcases hc with ⟨rfl, rfl⟩ | ⟨g, cap, cur, rfl, hB, hg, hn, hm, hs, ht⟩
  · exact ⟨⟨none, 0, 0⟩, rfl, rfl, by simpa using hl, by simp [maxLen], .inl ⟨rfl, rfl, rfl⟩⟩
  · exact ⟨⟨some ⟨g, 0, none⟩, n, cap⟩, rfl, rfl, hl, hm, .inr ⟨g, cur.toList, rfl, hB, ⟨0, 0, by simpa using hg, .inl (Nat.le_refl _)⟩, hn, by simp [hs], ht⟩⟩
theorem CallsH.of_calls {P : Program} {f : FuncId} {args : Array Value} {h : Heap} {Φ : Value → Heap → Prop} (H : ∀ w, w.heap = h → Calls P f args w fun e w' => ∃ v, e = .returned v ∧ Go.RowKit.Below w.heap.size w w' ∧ Φ v w'.heap) : CallsH P f args h Φ :=
  fun w hw => (H w hw).mono fun r w' ⟨v, e, B, p⟩ => ⟨v, e, ⟨B.os, B.tape, B.output, rfl⟩, p⟩
end Go.Q
namespace Go.Q.Yf
open Go.RowKit Go.Maps Go.Sort Go.Shelf Go.Proofs
abbrev MapI (h : Heap) (m : Option Nat) (l : List (Int × S_disk_sector)) : Prop := MapAt (K := Int) (V := S_disk_sector) (.int .i64) (Value.int .i64) (fun v : S_disk_sector => Value.agg (S_disk_sector.cs v).toArray) h m l
/-- maps.Keys, by the kit's contract -/
def maps_Keys_map_int_disk_sector_int_disk_sector (m : Option Nat) (k : Value → Heap → Prop) (h : Heap) : Prop :=
  k (.func (.func 41) #[] #[.pointer (some ⟨h.size, 0, none⟩)]) (h.push (.cells #[.map m] 42))
theorem maps_Keys_map_int_disk_sector_int_disk_sector_ok : CallOk Tryd.prog 28 := ⟨_, Tryd.func28, by kernel_rfl, by kernel_rfl⟩
theorem maps_Keys_map_int_disk_sector_int_disk_sector_ref (m : Option Nat) (k : Value → Heap → Prop) (h : Heap) (H : maps_Keys_map_int_disk_sector_int_disk_sector m k h) : CallsH Tryd.prog 28 #[.map m] h (fun v h' => ∃ r : Value, v = r ∧ k r h') := by
  refine CallsH.of_calls fun w hw => ?_
  have c : CallsIn Fence.wide 5 Tryd.prog 28 #[.map m] w fun e w' => e = .returned (.func (.func 41) #[] #[.pointer (some ⟨w.heap.size, 0, none⟩)]) ∧ w' = w.alloc (.cells #[.map m] 42) := AnyZI.keys_in Tryd.keysI Fence.wide 5 trivial rfl m w
  refine (callsIn_wide.1 c).mono ?_
  rintro e w' ⟨rfl, rfl⟩
  refine ⟨_, rfl, (Below.refl _ w).alloc (Nat.le_refl _) _, _, rfl, ?_⟩
  subst hw
  exact H
theorem sortsI (m : Nat) : AnyZI.SortsIn Tryd.prog Tryd.sortedI_ren Fence.wide m :=
  ⟨fun blk off cap ss W hH hblk hsz => callsIn_wide.2 (AnyM.slices_Sort_int Tryd.sortI blk off cap ss W hH hblk hsz),
   fun p cap W => callsIn_wide.2 (AnyM.slices_Sort_int_none Tryd.sortI p cap W)⟩
def srtI (l : List Int) : List Int := l.mergeSort fun x y => decide (x ≤ y)
/-- slices.Sorted of maps.Keys, by the kit's contracts -/
def slices_Sorted_int (f : Value) (k : Slc → Heap → Prop) (h : Heap) : Prop :=
  ∃ (bx r : Nat) (l : List (Int × S_disk_sector)), f = .func (.func 41) #[] #[.pointer (some ⟨bx, 0, none⟩)] ∧ cellH h ⟨bx, 0, none⟩ = some (.map (some r)) ∧ MapI h (some r) l ∧ (∀ p ∈ l, (Lit.int .i64 p.1).wf = true) ∧ l.length ≤ 1000000 ∧
    ∀ s h', Row h.size h' 3 1 s ((srtI (l.map (·.1))).map (Value.int .i64)) → s.len = l.length → Ext h.size h h' → k s h'
theorem slices_Sorted_int_ok : CallOk Tryd.prog 27 := ⟨_, Tryd.func27, by kernel_rfl, by kernel_rfl⟩
theorem slices_Sorted_int_ref (f : Value) (k : Slc → Heap → Prop) (h : Heap) (H : slices_Sorted_int f k h) : CallsH Tryd.prog 27 #[f] h (fun v h' => ∃ r : Slc, v = Slc.v r ∧ k r h') := by
  obtain ⟨bx, r, l, rfl, hb, M, wf, hl, H⟩ := H
  refine CallsH.of_calls fun w hw => ?_
  have hlm : (l.map fun p : Int × S_disk_sector => ((Value.int .i64 p.1 : Value), (Value.agg (S_disk_sector.cs p.2).toArray : Value))).length = l.length := by simp
  obtain ⟨D0, own, perm⟩ := owns_of (P := Tryd.prog) (kt := 3) M (fun p hp => by
    obtain ⟨q, hq, rfl⟩ := List.mem_map.1 hp
    exact ⟨_, keyOf_int_mk Tryd.underlying3 (wf q hq)⟩) (by rw [hlm]; simp only [maxLen]; omega) w hw
  have hsz : Maps.size (H := Unit) (.map D0) = l.length := by
    show D0.length = _
    rw [perm.length_eq]; simp
  have kp : (intKeys (H := Unit) (.map D0)).Perm (l.map (·.1)) := by
    refine (perm.map fun p => intOf p.1).trans ?_
    rw [List.map_map, List.map_map]
    refine List.Perm.of_eq (List.map_congr_left fun q hq => ?_)
    show intOf ((keyOf Tryd.prog 3 (.int .i64 q.1)).getD _) = q.1
    rw [keyOf_int_mk Tryd.underlying3 (wf q hq)]; rfl
  have hbl : bx < w.heap.size := by rw [hw]; exact cellH_lt hb
  have hcell : w.cell? ⟨bx, 0, none⟩ = some (.map (some r)) := by subst hw; exact hb
  have hseq : SeqGives Fence.wide 2 Tryd.prog 41 #[.pointer (some ⟨bx, 0, none⟩)] encZ (fun ss => ss.Perm (intKeys (H := Unit) (.map D0))) (Maps.size (H := Unit) (.map D0)) w :=
    AnyZI.keys_gives (ρ := Tryd.keysI_ren) { Tryd.keysI with } Fence.wide _ trivial rfl (by omega) bx r _ _ w hbl hcell own
  have cS := AnyZI.sorted_in Tryd.sortedI Fence.wide 5 trivial trivial trivial trivial rfl (by omega) (sortsI _) (enters_of Tryd.func40 (by kernel_rfl) rfl) 41 #[.pointer (some ⟨bx, 0, none⟩)] trivial (enters_of Tryd.func41 (by kernel_rfl) rfl) _ _ (by rw [hsz]; simp only [maxLen]; omega) (by rw [hsz]; omega) w hseq
  change CallsIn _ _ Tryd.prog 27 _ _ _ at cS
  refine (callsIn_wide.1 cS).mono ?_
  rintro e w' ⟨v, ss, rfl, hS, hrow, _, hB⟩
  have hrow' : w'.ownsRow w.heap.size 3 1 v ss.length ((ss.mergeSort fun x y => decide (x ≤ y)).map encZ) := hrow
  obtain ⟨s, rfl, sl, R⟩ := row_of_owns hrow'
  have pk := hS.trans kp
  have eq : ss.mergeSort (fun x y => decide (x ≤ y)) = srtI (l.map (·.1)) := mergeSort_of_perm_i pk
  rw [eq] at R
  refine ⟨_, rfl, hB, _, rfl, H s _ ?_ (by rw [sl, pk.length_eq, List.length_map]) ?_⟩
  · subst hw; exact R
  · subst hw; exact ⟨hB.size, hB.block⟩
end Go.Q.Yf
