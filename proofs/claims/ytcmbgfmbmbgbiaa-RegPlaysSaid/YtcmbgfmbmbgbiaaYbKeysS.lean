/- A part of the proof of statements of this seat: lemmas, no statement of their own. -/
import Derived.Test.YtcmbgfmbmbgbiaaYbKeysI
set_option linter.unusedVariables false
set_option linter.unusedSimpArgs false
set_option maxRecDepth 100000
namespace Go.Q.Yb
open Go.RowKit Go.Maps Go.Sort Go.Shelf Go.Proofs
abbrev MapS (h : Heap) (m : Option Nat) (l : List (ByteArray × S_api_Tenant)) : Prop := MapAt (K := ByteArray) (V := S_api_Tenant) .string Value.string (fun v : S_api_Tenant => Value.agg (S_api_Tenant.cs v).toArray) h m l
/-- maps.Keys, by the kit's contract -/
def maps_Keys_map_string_api_Tenant_string_api_Tenant (m : Option Nat) (k : Value → Heap → Prop) (h : Heap) : Prop :=
  k (.func (.func 192) #[] #[.pointer (some ⟨h.size, 0, none⟩)]) (h.push (.cells #[.map m] 210))
theorem keyOf_str_mk {P : Program} {k : TypeId} (hk : P.underlying k = some .string) {s : ByteArray} (hw : s.size ≤ maxLen) : keyOf P k (.string s) = some (.string s.data.toList) := by
  simp [keyOf, hk, mapKey, hw]
theorem maps_Keys_map_string_api_Tenant_string_api_Tenant_ok : CallOk Try.prog 145 := ⟨_, Try.func145, by kernel_rfl, by kernel_rfl⟩
theorem maps_Keys_map_string_api_Tenant_string_api_Tenant_ref (m : Option Nat) (k : Value → Heap → Prop) (h : Heap) (H : maps_Keys_map_string_api_Tenant_string_api_Tenant m k h) : CallsH Try.prog 145 #[.map m] h (fun v h' => ∃ r : Value, v = r ∧ k r h') := by
  refine CallsH.of_calls fun w hw => ?_
  have c : CallsIn Fence.wide 5 Try.prog 145 #[.map m] w fun e w' => e = .returned (.func (.func 192) #[] #[.pointer (some ⟨w.heap.size, 0, none⟩)]) ∧ w' = w.alloc (.cells #[.map m] 210) := AnyZ.keys_in Try.keysS Fence.wide 5 trivial rfl m w
  refine (callsIn_wide.1 c).mono ?_
  rintro e w' ⟨rfl, rfl⟩
  refine ⟨_, rfl, (Below.refl _ w).alloc (Nat.le_refl _) _, _, rfl, ?_⟩
  subst hw
  exact H
theorem sortsS (m : Nat) : AnyZ.SortsIn Try.prog Try.sortedS_ren Fence.wide m :=
  ⟨fun blk off cap ss W hH hblk hsz => callsIn_wide.2 (AnyM.slices_Sort_string Try.sortS blk off cap ss W hH hblk hsz),
   fun p cap W => callsIn_wide.2 (AnyM.slices_Sort_string_none Try.sortS p cap W)⟩
def srtS (l : List ByteArray) : List ByteArray := ((l.map fun t => t.data.toList).mergeSort fun x y => decide (x ≤ y)).map fun l => ⟨l.toArray⟩
/-- slices.Sorted of maps.Keys, by the kit's contracts -/
def slices_Sorted_string (f : Value) (k : Slc → Heap → Prop) (h : Heap) : Prop :=
  ∃ (bx r : Nat) (l : List (ByteArray × S_api_Tenant)), f = .func (.func 192) #[] #[.pointer (some ⟨bx, 0, none⟩)] ∧ cellH h ⟨bx, 0, none⟩ = some (.map (some r)) ∧ MapS h (some r) l ∧ (∀ p ∈ l, p.1.size ≤ maxLen) ∧ l.length ≤ 1000000 ∧
    ∀ s h', Row h.size h' 9 1 s ((srtS (l.map (·.1))).map Value.string) → s.len = l.length → Ext h.size h h' → k s h'
theorem slices_Sorted_string_ok : CallOk Try.prog 144 := ⟨_, Try.func144, by kernel_rfl, by kernel_rfl⟩
theorem slices_Sorted_string_ref (f : Value) (k : Slc → Heap → Prop) (h : Heap) (H : slices_Sorted_string f k h) : CallsH Try.prog 144 #[f] h (fun v h' => ∃ r : Slc, v = Slc.v r ∧ k r h') := by
  obtain ⟨bx, r, l, rfl, hb, M, wf, hl, H⟩ := H
  refine CallsH.of_calls fun w hw => ?_
  have hlm : (l.map fun p : ByteArray × S_api_Tenant => ((Value.string p.1 : Value), (Value.agg (S_api_Tenant.cs p.2).toArray : Value))).length = l.length := by simp
  obtain ⟨D0, own, perm⟩ := owns_of (P := Try.prog) (kt := 9) M (fun p hp => by
    obtain ⟨q, hq, rfl⟩ := List.mem_map.1 hp
    exact ⟨_, keyOf_str_mk Try.underlying9 (wf q hq)⟩) (by rw [hlm]; simp only [maxLen]; omega) w hw
  have hsz : Maps.size (H := Unit) (.map D0) = l.length := by
    show D0.length = _
    rw [perm.length_eq]; simp
  have kp : (strKeys (H := Unit) (.map D0)).Perm (l.map fun q => q.1.data.toList) := by
    refine (perm.map fun p => strOf p.1).trans ?_
    rw [List.map_map, List.map_map]
    refine List.Perm.of_eq (List.map_congr_left fun q hq => ?_)
    show strOf ((keyOf Try.prog 9 (.string q.1)).getD _) = q.1.data.toList
    rw [keyOf_str_mk Try.underlying9 (wf q hq)]; rfl
  have hbl : bx < w.heap.size := by rw [hw]; exact cellH_lt hb
  have hcell : w.cell? ⟨bx, 0, none⟩ = some (.map (some r)) := by subst hw; exact hb
  have hseq : SeqGives Fence.wide 2 Try.prog 192 #[.pointer (some ⟨bx, 0, none⟩)] encStr (fun ss => ss.Perm (strKeys (H := Unit) (.map D0))) (Maps.size (H := Unit) (.map D0)) w :=
    AnyZ.keys_gives (ρ := Try.keysS_ren) { Try.keysS with } Fence.wide _ trivial rfl (by omega) bx r _ _ w hbl hcell own
  have cS := AnyZ.sorted_in Try.sortedS Fence.wide 5 trivial trivial trivial trivial rfl (by omega) (sortsS _) (enters_of Try.func191 (by kernel_rfl) rfl) 192 #[.pointer (some ⟨bx, 0, none⟩)] trivial (enters_of Try.func192 (by kernel_rfl) rfl) _ _ (by rw [hsz]; simp only [maxLen]; omega) (by rw [hsz]; omega) w hseq
  change CallsIn _ _ Try.prog 144 _ _ _ at cS
  refine (callsIn_wide.1 cS).mono ?_
  rintro e w' ⟨v, ss, rfl, hS, hrow, _, hB⟩
  have hrow' : w'.ownsRow w.heap.size 9 1 v ss.length ((ss.mergeSort fun x y => decide (x ≤ y)).map encStr) := hrow
  obtain ⟨s, rfl, sl, R⟩ := row_of_owns hrow'
  have pk := hS.trans kp
  have eq : (ss.mergeSort fun x y => decide (x ≤ y)).map encStr = (srtS (l.map (·.1))).map Value.string := by
    have := mergeSort_of_perm pk
    unfold srtS
    rw [List.map_map, List.map_map]
    show (ss.mergeSort leB).map encStr = _
    rw [this]; rfl
  rw [eq] at R
  refine ⟨_, rfl, hB, _, rfl, H s _ ?_ (by rw [sl, pk.length_eq, List.length_map]) ?_⟩
  · subst hw; exact R
  · subst hw; exact ⟨hB.size, hB.block⟩
/-- maps.Clone, by the kit's contract -/
def maps_Clone_map_string_api_Tenant_string_api_Tenant (m : Option Nat) (k : Option Nat → Heap → Prop) (h : Heap) : Prop :=
  ∃ r es ck, m = some r ∧ h[r]? = some (.map es ck) ∧ k (some h.size) (h.push (.map es ck))
theorem maps_Clone_map_string_api_Tenant_string_api_Tenant_ok : CallOk Try.prog 147 := ⟨_, Try.func147, by kernel_rfl, by kernel_rfl⟩
theorem maps_Clone_map_string_api_Tenant_string_api_Tenant_ref (m : Option Nat) (k : Option Nat → Heap → Prop) (h : Heap) (H : maps_Clone_map_string_api_Tenant_string_api_Tenant m k h) : CallsH Try.prog 147 #[.map m] h (fun v h' => ∃ r : Option Nat, v = .map r ∧ k r h') := by
  obtain ⟨r, es, ck, rfl, hr, H⟩ := H
  refine CallsH.of_calls fun w hw => ?_
  subst hw
  refine (AnyW.maps_Clone Try.cloneS r es ck w hr).mono ?_
  rintro e w' ⟨rfl, rfl⟩
  exact ⟨_, rfl, (Below.refl _ w).alloc (Nat.le_refl _) _, _, rfl, H⟩
end Go.Q.Yb
