/- A part of the proof of statements of this seat: lemmas, no statement of their own. -/
import Derived.Test.YtcmbgfmbmbgbiaaYbDkB
import Derived.Test.YtcmbgfmbmbgbiaaYbDisk3
set_option linter.unusedVariables false
set_option linter.unusedSimpArgs false
namespace Go.Q.Yb
/-! ### the example -/
def zDK : DK := ⟨[], [], 0, false, 0⟩
def aw1 : DK := (writeD zDK 3 [1]).2
def aw2 : DK := (syncD aw1).2
def aw3 : DK := (writeD aw2 3 [2]).2
def aw4 : DK := bootD aw3 [2]
theorem aw1r : (writeD zDK 3 [1]).1 = 0 := by decide +kernel
theorem aw2r : (syncD aw1).1 = 0 := by decide +kernel
theorem aw3r : (writeD aw2 3 [2]).1 = 0 := by decide +kernel
theorem aw3s : aw3.safe.map (·.1) = [3] := by decide +kernel
theorem aw4r : (readD aw4 3).2 = 9 := by
  have k : keysD aw3 = [3] := by unfold keysD srtI; rw [aw3s]; exact List.mergeSort_singleton _
  have l : aw3.safe.length = 1 := by decide +kernel
  have b : aw4.now = bootOne [2] aw3.safe 0 3 aw3.now := by
    show bootGo [2] aw3.safe (keysD aw3) aw3.safe.length aw3.now = _
    rw [k, l]; rfl
  unfold readD
  rw [b]
  decide +kernel
theorem push_slc {h : Heap} (l : List Int) : SlcAt (h.push (.cells (b8 l).toArray 5)) ⟨some ⟨h.size, 0, none⟩, l.length, l.length⟩ (b8 l) :=
  (Blk.push h (b8 l) 5).slc (n := l.length) (o := 0) (by rw [List.drop_zero, List.take_of_length_le (by rw [List.length_map]; exact Nat.le_refl _)])
theorem awake9_ok {k : Bool → Heap → Prop} {h : Heap} (H : ∀ h', Ext h.size h h' → k true h') : law09_awake k h := by
  unfold law09_awake
  refine DNew_ok (B := h.size) (Nat.le_refl _) fun d rn rs h1 D1 X1 => ?_
  have z1 := X1.size
  have dl := D1.P.lt
  refine ⟨_, _, rfl, rfl, ?_⟩
  have S2 := push_slc (h := h1) [1]
  have W2 := Ext.push h1 (.cells (b8 [1]).toArray 5) (Nat.le_refl _)
  have X2 : Ext h.size h (h1.push (.cells (b8 [1]).toArray 5)) := X1.trans (W2.mono z1)
  have D2 := D1.ext W2
  show disk_Disk_Write (some ⟨d, 0, none⟩) 3 ⟨some ⟨h1.size, 0, none⟩, 1, 1⟩ _ (h1.push (.cells (b8 [1]).toArray 5))
  generalize h1.push (.cells (b8 [1]).toArray 5) = h2 at *
  refine DWrite_ok D2 S2 rfl fun h3 D3 F3 => ?_
  have X3 : Ext h.size h h3 := X2.trans (F3.ext D2 X2.size)
  refine DSync_ok D3 fun h4 D4 F4 => ?_
  have X4 : Ext h.size h h4 := X3.trans (F4.ext D3 X3.size)
  refine ⟨_, _, rfl, rfl, ?_⟩
  have S5 := push_slc (h := h4) [2]
  have W5 := Ext.push h4 (.cells (b8 [2]).toArray 5) (Nat.le_refl _)
  have X5 : Ext h.size h (h4.push (.cells (b8 [2]).toArray 5)) := X4.trans (W5.mono X4.size)
  have D5 := D4.ext W5
  show disk_Disk_Write (some ⟨d, 0, none⟩) 3 ⟨some ⟨h4.size, 0, none⟩, 1, 1⟩ _ (h4.push (.cells (b8 [2]).toArray 5))
  generalize h4.push (.cells (b8 [2]).toArray 5) = h5 at *
  refine DWrite_ok D5 S5 rfl fun h6 D6 F6 => ?_
  have X6 : Ext h.size h h6 := X5.trans (F6.ext D5 X5.size)
  refine ⟨_, _, rfl, rfl, ?_⟩
  have S7 := push_slc (h := h6) [2]
  have W7 := Ext.push h6 (.cells (b8 [2]).toArray 5) (Nat.le_refl _)
  have X7 : Ext h.size h (h6.push (.cells (b8 [2]).toArray 5)) := X6.trans (W7.mono X6.size)
  have D7 := D6.ext W7
  have d7 := D6.P.lt
  show disk_Disk_Boot (some ⟨d, 0, none⟩) ⟨some ⟨h6.size, 0, none⟩, 1, 1⟩ _ (h6.push (.cells (b8 [2]).toArray 5))
  generalize h6.push (.cells (b8 [2]).toArray 5) = h7 at *
  refine DBoot_ok D7 S7 rfl (fun h' F => SlcAt.df S7 D7 F fun a ha => by cases ha; dsimp only; omega) (by omega) fun h8 D8 F8 => ?_
  have X8 : Ext h.size h h8 := X7.trans (F8.ext D7 X7.size)
  refine DRead_ok D8 fun s h9 S9 sl sc _ W9 => ?_
  have X9 : Ext h.size h h9 := X8.trans (W9.mono X8.size)
  have r1 : (writeD ⟨[], [], 0, false, 0⟩ 3 [1]).1 = 0 := aw1r
  have r2 : (syncD (writeD ⟨[], [], 0, false, 0⟩ 3 [1]).2).1 = 0 := aw2r
  have r3 : (writeD (syncD (writeD ⟨[], [], 0, false, 0⟩ 3 [1]).2).2 3 [2]).1 = 0 := aw3r
  have r4 : (readD (bootD (writeD (syncD (writeD ⟨[], [], 0, false, 0⟩ 3 [1]).2).2 3 [2]).2 [2]) 3).2 = 9 := aw4r
  rw [r1, r2, r3, r4]
  exact H h9 X9
theorem DNil_ok {a : S_quaestorlaw09_Act} {k : Bool → Heap → Prop} {h : Heap} (H : ∀ h', Ext h.size h h' → k true h') : law09_DiskNil a k h := by
  unfold law09_DiskNil
  refine ⟨_, _, rfl, rfl, ?_⟩
  have P := Blk.push h (S_quaestorlaw09_Act.cs a) 100
  have W := Ext.push h (.cells (S_quaestorlaw09_Act.cs a).toArray 100) (Nat.le_refl _)
  generalize h.push (.cells (S_quaestorlaw09_Act.cs a).toArray 100) = h2 at *
  have c1 : cellH h2 ((⟨h.size, 0, none⟩ : Addr).add 1) = some (.int .i64 a.f_At) := by rw [add_mk, P.cell]; rfl
  have c2 : cellH h2 ((⟨h.size, 0, none⟩ : Addr).add 2) = some (Slc.v a.f_B) := by rw [add_mk, P.cell]; rfl
  refine ⟨a.f_At, c1, DRead_nil ⟨a.f_B, c2, DBoot_nil ⟨a.f_At, c1, a.f_B, c2, DWrite_nil ?_⟩⟩⟩
  rw [if_pos (by decide)]
  refine DSync_nil ?_
  unfold law09_DiskNil_g1
  rw [if_pos (by decide)]
  refine ⟨a.f_At, c1, DFuse_nil ?_⟩
  unfold law09_DiskNil_g2
  rw [if_pos (by decide)]
  refine DDead_nil ?_
  unfold law09_DiskNil_g3
  rw [if_pos (by decide)]
  refine DOps_nil ?_
  unfold law09_DiskNil_g4
  rw [if_pos (by decide)]
  refine DRaw_nil ?_
  unfold law09_DiskNil_g5
  rw [if_pos (by decide)]
  refine DCopy_nil ?_
  unfold law09_DiskNil_g6
  rw [if_pos (by decide)]
  exact awake9_ok fun h' X => H h' (W.trans (X.mono W.size))
end Go.Q.Yb
