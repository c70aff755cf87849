/- A part of the proof of statements of this seat: lemmas, no statement of their own. -/
import Derived.Test.YtidhlagdagbggaaDoorYfTab
import Derived.Test.YtidhlagdagbggaaDoorQRng
import Derived.Test.YtidhlagdagbggaaDoorQMap
import Derived.Test.YtidhlagdagbggaaDoorQDraw2
import Derived.Test.YtidhlagdagbggaaDoorQEq
import Derived.Test.YtidhlagdagbggaaDoorYfKeysI
set_option linter.unusedVariables false
set_option maxRecDepth 100000
set_option maxHeartbeats 1000000
namespace Go.Q.Yf
/-- quaestor disk.New -/
def disk_New (k : (Option Addr) → Heap → Prop) (h : Heap) : Prop :=
  ∃ (b1 : Nat) (h2 : Heap), b1 = h.size ∧ h2 = h.push (.map #[] 0) ∧ (∃ (b3 : Nat) (h4 : Heap), b3 = h2.size ∧ h4 = h2.push (.map #[] 0) ∧ (∃ (b5 : Nat) (h6 : Heap), b5 = h4.size ∧ h6 = h4.push (.cells (S_disk_Disk.cs (⟨(some b1), (some b3), 0, false, 0⟩ : S_disk_Disk)).toArray 44) ∧ (k (some (⟨b5, 0, none⟩ : Addr)) h6)))

/-- (*quaestor disk.Disk).power -/
def disk_Disk_power_g1 (t11_1 : Bool) (k : (Bool) → Heap → Prop) (h_1 : Heap) : Prop :=
  k t11_1 h_1
def disk_Disk_power (p0 : Option Addr) (k : (Bool) → Heap → Prop) (h : Heap) : Prop :=
  if (!p0.isNone) then (∃ a1 : Addr, p0 = some a1 ∧ (∃ v2 : Bool, cellH h (a1.add 3) = some (.bool v2) ∧ (disk_Disk_power_g1 (!v2) k h))) else (disk_Disk_power_g1 false k h)

/-- (*quaestor disk.Disk).burn -/
def disk_Disk_burn (p0 : Option Addr) (k : (Bool) → Heap → Prop) (h : Heap) : Prop :=
  ∃ a1 : Addr, p0 = some a1 ∧ (∃ v2 : Int, cellH h (a1.add 4) = some (.int .i64 v2) ∧ (∃ h3 : Heap, WrH h (a1.add 4) ∧ h3 = setH h (a1.add 4) (.int .i64 (IntKind.i64.wrap (v2 + 1))) ∧ (∃ v4 : Int, cellH h3 (a1.add 2) = some (.int .i64 v4) ∧ (if (v4 == 0) then (k false h3) else (∃ v5 : Int, cellH h3 (a1.add 2) = some (.int .i64 v5) ∧ (∃ h6 : Heap, WrH h3 (a1.add 2) ∧ h6 = setH h3 (a1.add 2) (.int .i64 (IntKind.i64.wrap (v5 - 1))) ∧ (∃ v7 : Int, cellH h6 (a1.add 2) = some (.int .i64 v7) ∧ (∃ h8 : Heap, WrH h6 (a1.add 3) ∧ h8 = setH h6 (a1.add 3) (.bool (v7 == 0)) ∧ (∃ v9 : Bool, cellH h8 (a1.add 3) = some (.bool v9) ∧ (k v9 h8))))))))))

/-- quaestor disk.ended -/
def disk_ended (p0 : Bool) (k : (Int) → Heap → Prop) (h : Heap) : Prop :=
  if p0 then (k 10 h) else (k 0 h)

/-- (*quaestor disk.Disk).Write -/
def disk_Disk_Write_j1 (t0_1 : Option Addr) (t1_1 : Int) (t2_1 : Slc) (k : (Int) → Heap → Prop) (h_1 : Heap) : Prop :=
  ∃ (b3 : Nat) (h4 : Heap), b3 = h_1.size ∧ h4 = h_1.push (.cells (S_disk_sector.cs (⟨([] : List Int), false⟩ : S_disk_sector)).toArray 67) ∧ (∃ s5 : Slc, (0 : Int) ≤ 0 ∧ 0 ≤ (128 : Int) ∧ 128 ≤ (128 : Int) ∧ s5 = subS ⟨some (⟨b3, 0, none⟩ : Addr), 128, 128⟩ 1 (0 : Int).toNat (128 : Int).toNat 128 ∧ (∃ l6 : List Value, Cpy 1 h4 s5 t2_1 l6 (fun h7 => ∃ a8 : Addr, t0_1 = some a8 ∧ (∃ v9 : Option Nat, cellH h7 a8 = some (.map v9) ∧ (∃ v10 : S_disk_sector, CellsAt h7 (⟨b3, 0, none⟩ : Addr) (S_disk_sector.cs v10) ∧ (∃ (r11 : Nat) (l12 : List (Int × S_disk_sector)) (h13 : Heap), v9 = some r11 ∧ MapAt (K := Int) (V := S_disk_sector) (.int .i64) (Value.int .i64) (fun v : S_disk_sector => Value.agg (S_disk_sector.cs v).toArray) h7 (some r11) l12 ∧ h13 = setM h7 r11 ((Value.int .i64) t1_1) (.agg (S_disk_sector.cs v10).toArray) ∧ (disk_Disk_burn t0_1 (fun (r14 : Bool) h15 => disk_ended r14 (fun (r16 : Int) h17 => k r16 h17) h15) h13)))))))
def disk_Disk_Write (p0 : Option Addr) (p1 : Int) (p2 : Slc) (k : (Int) → Heap → Prop) (h : Heap) : Prop :=
  disk_Disk_power p0 (fun (r1 : Bool) h2 => if (!r1) then (k 10 h2) else (if ((decide (p1 < 0)) || (decide (p1 ≥ 1024))) then (k 1 h2) else (if (decide ((p2.len : Int) > 128)) then (k 3 h2) else (∃ a18 : Addr, p0 = some a18 ∧ (∃ v19 : Option Nat, cellH h2 (a18.add 1) = some (.map v19) ∧ (∃ l20 : List (Int × S_disk_sector), MapAt (K := Int) (V := S_disk_sector) (.int .i64) (Value.int .i64) (fun v : S_disk_sector => Value.agg (S_disk_sector.cs v).toArray) h2 v19 l20 ∧ (∃ (b21 : Nat) (h22 : Heap), b21 = h2.size ∧ h22 = h2.push (.cells (S_disk_sector.cs (⟨([] : List Int), false⟩ : S_disk_sector)).toArray 67) ∧ (∃ h23 : Heap, WrsAt h22 (⟨b21, 0, none⟩ : Addr) 129 ∧ h23 = setsH h22 (⟨b21, 0, none⟩ : Addr) 0 (S_disk_sector.cs ((mget l20 p1).getD (⟨([] : List Int), false⟩ : S_disk_sector))) ∧ (if (!(mget l20 p1).isSome) then (∃ v24 : Option Nat, cellH h23 (a18.add 1) = some (.map v24) ∧ (∃ v25 : Option Nat, cellH h23 a18 = some (.map v25) ∧ (∃ l26 : List (Int × S_disk_sector), MapAt (K := Int) (V := S_disk_sector) (.int .i64) (Value.int .i64) (fun v : S_disk_sector => Value.agg (S_disk_sector.cs v).toArray) h23 v25 l26 ∧ (∃ (r27 : Nat) (l28 : List (Int × S_disk_sector)) (h29 : Heap), v24 = some r27 ∧ MapAt (K := Int) (V := S_disk_sector) (.int .i64) (Value.int .i64) (fun v : S_disk_sector => Value.agg (S_disk_sector.cs v).toArray) h23 (some r27) l28 ∧ h29 = setM h23 r27 ((Value.int .i64) p1) (.agg (S_disk_sector.cs ((mget l26 p1).getD (⟨([] : List Int), false⟩ : S_disk_sector))).toArray) ∧ (disk_Disk_Write_j1 p0 p1 p2 k h29))))) else (disk_Disk_Write_j1 p0 p1 p2 k h23)))))))))) h

/-- (*quaestor disk.Disk).Sync -/
def disk_Disk_Sync_j1 (t3_1 : Bool) (k : (Int) → Heap → Prop) (h_1 : Heap) : Prop :=
  disk_ended t3_1 (fun (r5 : Int) h6 => k r5 h6) h_1
def disk_Disk_Sync (p0 : Option Addr) (k : (Int) → Heap → Prop) (h : Heap) : Prop :=
  disk_Disk_power p0 (fun (r1 : Bool) h2 => if (!r1) then (k 10 h2) else (disk_Disk_burn p0 (fun (r3 : Bool) h4 => if (!r3) then (∃ a7 : Addr, p0 = some a7 ∧ (∃ v8 : Option Nat, cellH h4 (a7.add 1) = some (.map v8) ∧ (∃ (r9 : Nat) (l10 : List (Int × S_disk_sector)) (h11 : Heap), v8 = some r9 ∧ MapAt (K := Int) (V := S_disk_sector) (.int .i64) (Value.int .i64) (fun v : S_disk_sector => Value.agg (S_disk_sector.cs v).toArray) h4 (some r9) l10 ∧ h11 = clrM h4 r9 ∧ (disk_Disk_Sync_j1 r3 k h11)))) else (disk_Disk_Sync_j1 r3 k h4)) h2)) h

/-- (*quaestor disk.Disk).Read -/
def disk_Disk_Read (p0 : Option Addr) (p1 : Int) (k : (Slc × Int) → Heap → Prop) (h : Heap) : Prop :=
  if (((p0.isNone) || (decide (p1 < 0))) || (decide (p1 ≥ 1024))) then (k ((⟨none, 0, 0⟩ : Slc), 1) h) else (∃ a1 : Addr, p0 = some a1 ∧ (∃ v2 : Option Nat, cellH h a1 = some (.map v2) ∧ (∃ l3 : List (Int × S_disk_sector), MapAt (K := Int) (V := S_disk_sector) (.int .i64) (Value.int .i64) (fun v : S_disk_sector => Value.agg (S_disk_sector.cs v).toArray) h v2 l3 ∧ (∃ (b4 : Nat) (h5 : Heap), b4 = h.size ∧ h5 = h.push (.cells (S_disk_sector.cs (⟨([] : List Int), false⟩ : S_disk_sector)).toArray 67) ∧ (∃ h6 : Heap, WrsAt h5 (⟨b4, 0, none⟩ : Addr) 129 ∧ h6 = setsH h5 (⟨b4, 0, none⟩ : Addr) 0 (S_disk_sector.cs ((mget l3 p1).getD (⟨([] : List Int), false⟩ : S_disk_sector))) ∧ (∃ v7 : Bool, cellH h6 ((⟨b4, 0, none⟩ : Addr).add 128) = some (.bool v7) ∧ (if v7 then (k ((⟨none, 0, 0⟩ : Slc), 9) h6) else (∃ s8 : Slc, (0 : Int) ≤ 0 ∧ 0 ≤ (128 : Int) ∧ 128 ≤ (128 : Int) ∧ s8 = subS ⟨some (⟨b4, 0, none⟩ : Addr), 128, 128⟩ 1 (0 : Int).toNat (128 : Int).toNat 128 ∧ (k (s8, 0) h6)))))))))

/-- (*quaestor disk.Disk).Fuse -/
def disk_Disk_Fuse (p0 : Option Addr) (p1 : Int) (k : (Int) → Heap → Prop) (h : Heap) : Prop :=
  disk_Disk_power p0 (fun (r1 : Bool) h2 => if (!r1) then (k 10 h2) else (∃ a3 : Addr, p0 = some a3 ∧ (∃ h4 : Heap, WrH h2 (a3.add 2) ∧ h4 = setH h2 (a3.add 2) (.int .i64 (if 0 > p1 then 0 else p1)) ∧ (k 0 h4)))) h

/-- (*quaestor disk.Disk).Dead -/
def disk_Disk_Dead_g1 (t10_1 : Bool) (k : (Bool) → Heap → Prop) (h_1 : Heap) : Prop :=
  k t10_1 h_1
def disk_Disk_Dead (p0 : Option Addr) (k : (Bool) → Heap → Prop) (h : Heap) : Prop :=
  if (!p0.isNone) then (∃ a1 : Addr, p0 = some a1 ∧ (∃ v2 : Bool, cellH h (a1.add 3) = some (.bool v2) ∧ (disk_Disk_Dead_g1 v2 k h))) else (disk_Disk_Dead_g1 false k h)

/-- (*quaestor disk.Disk).Boot -/
def disk_Disk_Boot_j2 (t0_2 : Option Addr) (t1_2 : Slc) (t14_2 : Slc) (t15_2 : Int) (t16_2 : Int) (k : (Unit) → Heap → Prop) (nx1 : (Int) → Heap → Prop) (h_2 : Heap) : Prop :=
  nx1 (IntKind.i64.wrap (t16_2 + 1)) h_2
def disk_Disk_Boot_j3 (t0_3 : Option Addr) (t1_3 : Slc) (t5_3 : Int) (t14_3 : Slc) (t15_3 : Int) (t16_3 : Int) (t6_3 : Int) (k : (Unit) → Heap → Prop) (nx1 : (Int) → Heap → Prop) (h_3 : Heap) : Prop :=
  if (t6_3 == 0) then (∃ a9 : Addr, t0_3 = some a9 ∧ (∃ v10 : Option Nat, cellH h_3 a9 = some (.map v10) ∧ (∃ v11 : Option Nat, cellH h_3 (a9.add 1) = some (.map v11) ∧ (∃ l12 : List (Int × S_disk_sector), MapAt (K := Int) (V := S_disk_sector) (.int .i64) (Value.int .i64) (fun v : S_disk_sector => Value.agg (S_disk_sector.cs v).toArray) h_3 v11 l12 ∧ (∃ (r13 : Nat) (l14 : List (Int × S_disk_sector)) (h15 : Heap), v10 = some r13 ∧ MapAt (K := Int) (V := S_disk_sector) (.int .i64) (Value.int .i64) (fun v : S_disk_sector => Value.agg (S_disk_sector.cs v).toArray) h_3 (some r13) l14 ∧ h15 = setM h_3 r13 ((Value.int .i64) t5_3) (.agg (S_disk_sector.cs ((mget l12 t5_3).getD (⟨([] : List Int), false⟩ : S_disk_sector))).toArray) ∧ (disk_Disk_Boot_j2 t0_3 t1_3 t14_3 t15_3 t16_3 k nx1 h15)))))) else (if (t6_3 == 2) then (∃ a16 : Addr, t0_3 = some a16 ∧ (∃ v17 : Option Nat, cellH h_3 a16 = some (.map v17) ∧ (∃ (r18 : Nat) (l19 : List (Int × S_disk_sector)) (h20 : Heap), v17 = some r18 ∧ MapAt (K := Int) (V := S_disk_sector) (.int .i64) (Value.int .i64) (fun v : S_disk_sector => Value.agg (S_disk_sector.cs v).toArray) h_3 (some r18) l19 ∧ h20 = setM h_3 r18 ((Value.int .i64) t5_3) (.agg (S_disk_sector.cs (⟨([] : List Int), true⟩ : S_disk_sector)).toArray) ∧ (disk_Disk_Boot_j2 t0_3 t1_3 t14_3 t15_3 t16_3 k nx1 h20)))) else (disk_Disk_Boot_j2 t0_3 t1_3 t14_3 t15_3 t16_3 k nx1 h_3))
def disk_Disk_Boot_l1b (t0_1 : Option Addr) (t1_1 : Slc) (t14_1 : Slc) (t15_1 : Int) (t16_1 : Int) (k : (Unit) → Heap → Prop) (nx1 : (Int) → Heap → Prop) (h_1 : Heap) : Prop :=
  if (decide (t16_1 < t15_1)) then (∃ a7 : Addr, t14_1.a = some a7 ∧ (0 : Int) ≤ t16_1 ∧ t16_1 < (t14_1.len : Int) ∧ (∃ v8 : Int, cellH h_1 (a7.add (t16_1.toNat * 1)) = some (.int .i64 v8) ∧ (if (decide ((t1_1.len : Int) > 0)) then ((t1_1.len : Int) ≠ 0 ∧ (∃ a22 : Addr, t1_1.a = some a22 ∧ (0 : Int) ≤ (Int.tmod t16_1 (t1_1.len : Int)) ∧ (Int.tmod t16_1 (t1_1.len : Int)) < (t1_1.len : Int) ∧ (∃ v23 : Int, cellH h_1 (a22.add ((Int.tmod t16_1 (t1_1.len : Int)).toNat * 1)) = some (.int .u8 v23) ∧ (∃ x24 : Int, x24 = (Int.tmod v23 3) ∧ (disk_Disk_Boot_j3 t0_1 t1_1 v8 t14_1 t15_1 t16_1 x24 k nx1 h_1))))) else (disk_Disk_Boot_j3 t0_1 t1_1 v8 t14_1 t15_1 t16_1 0 k nx1 h_1)))) else (∃ a25 : Addr, t0_1 = some a25 ∧ (∃ v26 : Option Nat, cellH h_1 (a25.add 1) = some (.map v26) ∧ (∃ (r27 : Nat) (l28 : List (Int × S_disk_sector)) (h29 : Heap), v26 = some r27 ∧ MapAt (K := Int) (V := S_disk_sector) (.int .i64) (Value.int .i64) (fun v : S_disk_sector => Value.agg (S_disk_sector.cs v).toArray) h_1 (some r27) l28 ∧ h29 = clrM h_1 r27 ∧ (∃ h30 : Heap, WrH h29 (a25.add 2) ∧ h30 = setH h29 (a25.add 2) (.int .i64 0) ∧ (∃ h31 : Heap, WrH h30 (a25.add 3) ∧ h31 = setH h30 (a25.add 3) (.bool false) ∧ (k () h31))))))
def disk_Disk_Boot_l1 (t0_1 : Option Addr) (t1_1 : Slc) (t14_1 : Slc) (t15_1 : Int) (i16 : Int) (k : (Unit) → Heap → Prop) (h : Heap) : Prop :=
  ∃ (I : Int → Heap → Prop) (μ : Int → Heap → Nat), I i16 h ∧ ∀ (t16_1 : Int) (h : Heap), I t16_1 h → disk_Disk_Boot_l1b t0_1 t1_1 t14_1 t15_1 t16_1 k (fun s h' => I s h' ∧ μ s h' < μ t16_1 h) h
def disk_Disk_Boot (p0 : Option Addr) (p1 : Slc) (k : (Unit) → Heap → Prop) (h : Heap) : Prop :=
  if (p0.isNone) then (k () h) else (∃ a1 : Addr, p0 = some a1 ∧ (∃ v2 : Option Nat, cellH h (a1.add 1) = some (.map v2) ∧ (maps_Keys_map_int_disk_sector_int_disk_sector v2 (fun (r3 : Value) h4 => slices_Sorted_int r3 (fun (r5 : Slc) h6 => disk_Disk_Boot_l1 p0 p1 r5 (r5.len : Int) 0 k h6) h4) h)))

theorem disk_New_ok : CallOk Go.Proofs.Tryd.prog 6 := ⟨_, Go.Proofs.Tryd.func6, by kernel_rfl, by kernel_rfl⟩
theorem disk_New_ref (k : (Option Addr) → Heap → Prop) (h : Heap) (H : disk_New k h) : CallsH Go.Proofs.Tryd.prog 6 #[] h (fun v h' => ∃ r : Option Addr, v = .pointer r ∧ k r h') := by
  refine f_enter (N := 5) Go.Proofs.Tryd.func6 rfl rfl rfl (fun w0 => ?_)
  unfold disk_New at H
  refine c_seq ?_
  refine c_region ?_
  refine w_p tok rfl rfl rfl ?_
  refine w_end ?_
  refine x_seq ?_
  refine c_seq ?_
  refine c_region ?_
  obtain ⟨b1, h2, eb1, eh2, H⟩ := H
  refine w_h (h_mkm rfl eb1 eh2) rfl rfl ?_
  obtain ⟨b3, h4, eb3, eh4, H⟩ := H
  refine w_h (h_mkm rfl eb3 eh4) rfl rfl ?_
  refine w_y (y_build tok rfl rfl rfl rfl rfl) rfl rfl ?_
  obtain ⟨b5, h6, eb5, eh6, H⟩ := H
  refine w_h (h_box rfl rfl eb5 eh6) rfl rfl ?_
  refine w_p tok rfl rfl rfl ?_
  refine w_end ?_
  refine x_seq ?_
  refine c_ret ?_
  exact x_ret _ rfl _ rfl ⟨(some (⟨b5, 0, none⟩ : Addr)), rfl, H⟩

theorem disk_Disk_power_ok : CallOk Go.Proofs.Tryd.prog 19 := ⟨_, Go.Proofs.Tryd.func19, by kernel_rfl, by kernel_rfl⟩
theorem disk_Disk_power_ref (p0 : Option Addr) (k : (Bool) → Heap → Prop) (h : Heap) (H : disk_Disk_power p0 k h) : CallsH Go.Proofs.Tryd.prog 19 #[.pointer p0] h (fun v h' => ∃ r : Bool, v = .bool r ∧ k r h') := by
  refine f_enter (N := 12) Go.Proofs.Tryd.func19 rfl rfl rfl (fun w0 => ?_)
  unfold disk_Disk_power at H
  refine c_weak [(0, .pointer p0)] ⟨rfl, trivial⟩ ?_
  refine c_seq ?_
  refine c_region ?_
  refine w_p tok rfl rfl rfl ?_
  refine w_end ?_
  refine x_seq ?_
  refine c_seq ?_
  refine c_region ?_
  refine w_p tok rfl rfl rfl ?_
  refine w_p tok rfl rfl rfl ?_
  refine w_p tok rfl rfl rfl ?_
  refine w_cut 6 (α := Bool) (fun (s : Bool) => [(11, .bool s)]) (fun (s : Bool) h => disk_Disk_power_g1 s k h) ?_ ?_
  ·
    rintro t11_1 h_1 H
    replace H : disk_Disk_power_g1 t11_1 k h_1 := H
    unfold disk_Disk_power_g1 at H
    refine w_weak [(11, .bool t11_1)] ⟨rfl, trivial⟩ ?_
    refine w_p tok rfl rfl rfl ?_
    refine w_end ?_
    refine x_seq ?_
    refine c_ret ?_
    exact x_ret _ rfl _ rfl ⟨t11_1, rfl, H⟩
  ·
    refine w_gif (d := 5) H rfl (fun H => ?_) (fun H => ?_)
    ·
      refine w_p tok rfl rfl rfl ?_
      obtain ⟨a1, ha1, H⟩ := H
      refine w_y (y_nil' rfl rfl ha1) rfl rfl ?_
      refine w_p tok rfl rfl rfl ?_
      obtain ⟨v2, hv2, H⟩ := H
      refine w_y (y_ld tok rfl rfl rfl rfl hv2) rfl rfl ?_
      refine w_p tok rfl rfl rfl ?_
      refine w_p tok rfl rfl rfl ?_
      exact w_jn (!v2) H ⟨rfl, trivial⟩
    ·
      refine w_skip rfl rfl ?_
      refine w_skip rfl rfl ?_
      refine w_skip rfl rfl ?_
      refine w_skip rfl rfl ?_
      refine w_skip rfl rfl ?_
      refine w_p tok rfl rfl rfl ?_
      exact w_jn false H ⟨rfl, trivial⟩

theorem disk_Disk_burn_ok : CallOk Go.Proofs.Tryd.prog 36 := ⟨_, Go.Proofs.Tryd.func36, by kernel_rfl, by kernel_rfl⟩
theorem disk_Disk_burn_ref (p0 : Option Addr) (k : (Bool) → Heap → Prop) (h : Heap) (H : disk_Disk_burn p0 k h) : CallsH Go.Proofs.Tryd.prog 36 #[.pointer p0] h (fun v h' => ∃ r : Bool, v = .bool r ∧ k r h') := by
  refine f_enter (N := 34) Go.Proofs.Tryd.func36 rfl rfl rfl (fun w0 => ?_)
  unfold disk_Disk_burn at H
  refine c_weak [(0, .pointer p0)] ⟨rfl, trivial⟩ ?_
  refine c_seq ?_
  refine c_region ?_
  refine w_p tok rfl rfl rfl ?_
  refine w_end ?_
  refine x_seq ?_
  refine c_seq ?_
  refine c_region ?_
  refine w_p tok rfl rfl rfl ?_
  obtain ⟨a1, ha1, H⟩ := H
  refine w_y (y_nil' rfl rfl ha1) rfl rfl ?_
  refine w_p tok rfl rfl rfl ?_
  obtain ⟨v2, hv2, H⟩ := H
  refine w_y (y_ld tok rfl rfl rfl rfl hv2) rfl rfl ?_
  refine w_p tok rfl rfl rfl ?_
  refine w_y (y_nil' rfl rfl ha1) rfl rfl ?_
  refine w_p tok rfl rfl rfl ?_
  obtain ⟨h3, wh3, eh3, H⟩ := H
  refine w_h (h_st tok rfl rfl rfl rfl rfl rfl wh3 eh3) rfl rfl ?_
  refine w_end ?_
  refine x_seq ?_
  refine c_weak [(0, .pointer p0)] ⟨rfl, trivial⟩ ?_
  refine c_seq ?_
  refine c_seq ?_
  refine c_region ?_
  refine w_p tok rfl rfl rfl ?_
  refine w_y (y_nil' rfl rfl ha1) rfl rfl ?_
  refine w_p tok rfl rfl rfl ?_
  obtain ⟨v4, hv4, H⟩ := H
  refine w_y (y_ld tok rfl rfl rfl rfl hv4) rfl rfl ?_
  refine w_p tok rfl rfl rfl ?_
  refine w_end ?_
  refine x_seq ?_
  refine c_if H rfl (fun H => ?_) (fun H => ?_)
  ·
    refine c_seq ?_
    refine c_region ?_
    refine w_p tok rfl rfl rfl ?_
    refine w_end ?_
    refine x_seq ?_
    refine c_ret ?_
    refine x_tr ?_
    exact x_ret _ rfl _ rfl ⟨false, rfl, H⟩
  ·
    refine c_skip ?_
    refine x_seq ?_
    refine c_seq ?_
    refine c_region ?_
    refine w_p tok rfl rfl rfl ?_
    refine w_y (y_nil' rfl rfl ha1) rfl rfl ?_
    refine w_p tok rfl rfl rfl ?_
    obtain ⟨v5, hv5, H⟩ := H
    refine w_y (y_ld tok rfl rfl rfl rfl hv5) rfl rfl ?_
    refine w_p tok rfl rfl rfl ?_
    refine w_y (y_nil' rfl rfl ha1) rfl rfl ?_
    refine w_p tok rfl rfl rfl ?_
    obtain ⟨h6, wh6, eh6, H⟩ := H
    refine w_h (h_st tok rfl rfl rfl rfl rfl rfl wh6 eh6) rfl rfl ?_
    refine w_end ?_
    refine x_seq ?_
    refine c_weak [(0, .pointer p0)] ⟨rfl, trivial⟩ ?_
    refine c_seq ?_
    refine c_region ?_
    refine w_p tok rfl rfl rfl ?_
    refine w_p tok rfl rfl rfl ?_
    refine w_y (y_nil' rfl rfl ha1) rfl rfl ?_
    refine w_p tok rfl rfl rfl ?_
    obtain ⟨v7, hv7, H⟩ := H
    refine w_y (y_ld tok rfl rfl rfl rfl hv7) rfl rfl ?_
    refine w_p tok rfl rfl rfl ?_
    refine w_y (y_nil' rfl rfl ha1) rfl rfl ?_
    refine w_p tok rfl rfl rfl ?_
    obtain ⟨h8, wh8, eh8, H⟩ := H
    refine w_h (h_st tok rfl rfl rfl rfl rfl rfl wh8 eh8) rfl rfl ?_
    refine w_end ?_
    refine x_seq ?_
    refine c_weak [(0, .pointer p0)] ⟨rfl, trivial⟩ ?_
    refine c_seq ?_
    refine c_region ?_
    refine w_p tok rfl rfl rfl ?_
    refine w_y (y_nil' rfl rfl ha1) rfl rfl ?_
    refine w_p tok rfl rfl rfl ?_
    obtain ⟨v9, hv9, H⟩ := H
    refine w_y (y_ld tok rfl rfl rfl rfl hv9) rfl rfl ?_
    refine w_p tok rfl rfl rfl ?_
    refine w_end ?_
    refine x_seq ?_
    refine c_ret ?_
    exact x_ret _ rfl _ rfl ⟨v9, rfl, H⟩

theorem disk_ended_ok : CallOk Go.Proofs.Tryd.prog 35 := ⟨_, Go.Proofs.Tryd.func35, by kernel_rfl, by kernel_rfl⟩
theorem disk_ended_ref (p0 : Bool) (k : (Int) → Heap → Prop) (h : Heap) (H : disk_ended p0 k h) : CallsH Go.Proofs.Tryd.prog 35 #[.bool p0] h (fun v h' => ∃ r : Int, v = .int .i64 r ∧ k r h') := by
  refine f_enter (N := 4) Go.Proofs.Tryd.func35 rfl rfl rfl (fun w0 => ?_)
  unfold disk_ended at H
  refine c_weak [(0, .bool p0)] ⟨rfl, trivial⟩ ?_
  refine c_seq ?_
  refine c_region ?_
  refine w_p tok rfl rfl rfl ?_
  refine w_end ?_
  refine x_seq ?_
  refine c_seq ?_
  refine c_seq ?_
  refine c_region ?_
  refine w_p tok rfl rfl rfl ?_
  refine w_end ?_
  refine x_seq ?_
  refine c_if H rfl (fun H => ?_) (fun H => ?_)
  ·
    refine c_seq ?_
    refine c_region ?_
    refine w_p tok rfl rfl rfl ?_
    refine w_end ?_
    refine x_seq ?_
    refine c_ret ?_
    refine x_tr ?_
    exact x_ret _ rfl _ rfl ⟨10, rfl, H⟩
  ·
    refine c_skip ?_
    refine x_seq ?_
    refine c_seq ?_
    refine c_region ?_
    refine w_p tok rfl rfl rfl ?_
    refine w_end ?_
    refine x_seq ?_
    refine c_ret ?_
    exact x_ret _ rfl _ rfl ⟨0, rfl, H⟩

theorem disk_Disk_Write_ok : CallOk Go.Proofs.Tryd.prog 23 := ⟨_, Go.Proofs.Tryd.func23, by kernel_rfl, by kernel_rfl⟩
theorem disk_Disk_Write_ref (p0 : Option Addr) (p1 : Int) (p2 : Slc) (k : (Int) → Heap → Prop) (h : Heap) (H : disk_Disk_Write p0 p1 p2 k h) : CallsH Go.Proofs.Tryd.prog 23 #[.pointer p0, .int .i64 p1, Slc.v p2] h (fun v h' => ∃ r : Int, v = .int .i64 r ∧ k r h') := by
  refine f_enter (N := 60) Go.Proofs.Tryd.func23 rfl rfl rfl (fun w0 => ?_)
  unfold disk_Disk_Write at H
  refine c_weak [(0, .pointer p0), (1, .int .i64 p1), (2, Slc.v p2)] ⟨rfl, rfl, rfl, trivial⟩ ?_
  refine c_seq ?_
  refine c_region ?_
  refine w_p tok rfl rfl rfl ?_
  refine w_end ?_
  refine x_seq ?_
  refine c_seq ?_
  refine c_block ?_
  refine c_seq ?_
  refine c_region ?_
  refine w_p tok rfl rfl rfl ?_
  refine w_call disk_Disk_power_ok (disk_Disk_power_ref _ _ _ H) rfl rfl rfl rfl ?_
  rintro _ h2 ⟨r1, rfl, H⟩
  refine w_p tok rfl rfl rfl ?_
  refine w_p tok rfl rfl rfl ?_
  refine w_end ?_
  refine x_seq ?_
  refine c_if H rfl (fun H => ?_) (fun H => ?_)
  ·
    refine c_seq ?_
    refine c_region ?_
    refine w_p tok rfl rfl rfl ?_
    refine w_end ?_
    refine x_seq ?_
    refine c_weak [(6, .int .i64 10)] ⟨rfl, trivial⟩ ?_
    refine c_ret ?_
    refine x_br ?_
    refine x_tr ?_
    exact x_ret _ rfl _ rfl ⟨10, rfl, H⟩
  ·
    refine c_seq ?_
    refine c_region ?_
    refine w_p tok rfl rfl rfl ?_
    refine w_p tok rfl rfl rfl ?_
    refine w_p tok rfl rfl rfl ?_
    refine w_cutU 3 [(20, .bool ((decide (p1 < 0)) || (decide (p1 ≥ 1024)))), (0, .pointer p0), (1, .int .i64 p1), (2, Slc.v p2)] ?_ ?_
    ·
      refine w_p tok rfl rfl rfl ?_
      refine w_end ?_
      refine x_seq ?_
      refine c_if H rfl (fun H => ?_) (fun H => ?_)
      ·
        refine c_seq ?_
        refine c_region ?_
        refine w_p tok rfl rfl rfl ?_
        refine w_end ?_
        refine x_seq ?_
        refine c_ret ?_
        refine x_br ?_
        refine x_tr ?_
        exact x_ret _ rfl _ rfl ⟨1, rfl, H⟩
      ·
        refine c_seq ?_
        refine c_region ?_
        refine w_p tok rfl rfl rfl ?_
        refine w_p tok rfl rfl rfl ?_
        refine w_p tok rfl rfl rfl ?_
        refine w_p tok rfl rfl rfl ?_
        refine w_end ?_
        refine x_seq ?_
        refine c_if H rfl (fun H => ?_) (fun H => ?_)
        ·
          refine c_seq ?_
          refine c_region ?_
          refine w_p tok rfl rfl rfl ?_
          refine w_end ?_
          refine x_seq ?_
          refine c_weak [(6, .int .i64 3)] ⟨rfl, trivial⟩ ?_
          refine c_ret ?_
          refine x_br ?_
          refine x_tr ?_
          exact x_ret _ rfl _ rfl ⟨3, rfl, H⟩
        ·
          refine c_skip ?_
          refine x_blk ?_
          refine x_seq ?_
          refine c_seqJ (α := Unit) (fun (s : Unit) => [(0, .pointer p0), (1, .int .i64 p1), (2, Slc.v p2)]) (fun (s : Unit) h => disk_Disk_Write_j1 p0 p1 p2 k h) ?_ ?_
          ·
            rintro _ h_1 H
            replace H : disk_Disk_Write_j1 p0 p1 p2 k h_1 := H
            unfold disk_Disk_Write_j1 at H
            refine c_weak [(0, .pointer p0), (1, .int .i64 p1), (2, Slc.v p2)] ⟨rfl, rfl, rfl, trivial⟩ ?_
            refine c_seq ?_
            refine c_region ?_
            obtain ⟨b3, h4, eb3, eh4, H⟩ := H
            refine w_h (h_alloc tok rfl rfl eb3 eh4) rfl rfl ?_
            refine w_end ?_
            refine x_seq ?_
            refine c_seq ?_
            refine c_region ?_
            refine w_p tok rfl rfl rfl ?_
            obtain ⟨s5, ps5, qs5, rs5, es5, H⟩ := H
            refine w_ye (y_sla (L := 0) (H := 128) tok rfl rfl rfl rfl rfl rfl ps5 qs5 rs5) (congrArg Slc.v es5) rfl rfl ?_
            refine w_p tok rfl rfl rfl ?_
            obtain ⟨l6, H⟩ := H
            refine w_a (a_cpy (d := s5) (s := p2) tok rfl rfl rfl rfl rfl H) rfl rfl ?_
            rintro _ h7 ⟨rfl, H⟩
            refine w_end ?_
            refine x_seq ?_
            refine c_seq ?_
            refine c_sim [(0, .pointer p0), (1, .int .i64 p1), (9, .pointer (some (⟨b3, 0, none⟩ : Addr)))] (by kernel_rfl) (by kernel_rfl) ⟨rfl, rfl, rfl, trivial⟩ (fun wf => ?_)
            refine sim_p 0 (ei := [(0, .pointer p0)]) (d := (some 51)) wf (by kernel_rfl) ⟨rfl, trivial⟩ (by kernel_rfl) (by kernel_rfl) (fun _ => pf_p tok rfl rfl rfl rfl) (fun P_0 => ?_)
            obtain ⟨a8, ha8, H⟩ := H
            refine sim_p 1 (ei := [(51, .pointer p0)]) (d := (some 52)) wf (by kernel_rfl) ⟨rfl, trivial⟩ (by kernel_rfl) (by kernel_rfl) (fun _ => pf_y rfl rfl rfl (y_nil' rfl rfl ha8)) (fun P_1 => ?_)
            refine sim_p 2 (ei := [(52, .pointer (some a8))]) (d := (some 53)) wf (by kernel_rfl) ⟨rfl, trivial⟩ (by kernel_rfl) (by kernel_rfl) (fun _ => pf_p tok rfl rfl rfl rfl) (fun P_2 => ?_)
            obtain ⟨v9, hv9, H⟩ := H
            refine sim_l 3 (ei := [(53, .pointer (some a8))]) (d := (some 54)) wf (by kernel_rfl) ⟨rfl, trivial⟩ (by kernel_rfl) (by kernel_rfl) (pf_y rfl rfl rfl (y_ld tok rfl rfl rfl rfl hv9)) (fun P_3 => ?_)
            refine sim_p 4 (ei := [(1, .int .i64 p1)]) (d := (some 55)) wf (by kernel_rfl) ⟨rfl, trivial⟩ (by kernel_rfl) (by kernel_rfl) (fun _ => pf_p tok rfl rfl rfl rfl) (fun P_4 => ?_)
            obtain ⟨v10, hv10, H⟩ := H
            refine sim_l 5 (ei := [(9, .pointer (some (⟨b3, 0, none⟩ : Addr)))]) (d := (some 56)) wf (by kernel_rfl) ⟨rfl, trivial⟩ (by kernel_rfl) (by kernel_rfl) (pf_y rfl rfl rfl (y_lda tok rfl rfl rfl rfl rfl hv10)) (fun P_5 => ?_)
            obtain ⟨r11, l12, h13, er11, hl12, eh13, H⟩ := H
            refine sim_h 6 [0, 1, 2, 3, 4, 5] [0, 1, 2, 3, 4, 5] (ei := [(54, .map v9), (55, .int .i64 p1), (56, .agg (S_disk_sector.cs v10).toArray)]) wf ⟨P_5, P_4 _, P_3, P_2 _, P_1 _, P_0 _, trivial⟩ (by kernel_rfl) ⟨rfl, rfl, rfl, trivial⟩ (by kernel_rfl) rfl rfl rfl (h_mu (K := Int) (V := S_disk_sector) (d := (.int .i64)) (kf := (Value.int .i64)) (vf := (fun v : S_disk_sector => Value.agg (S_disk_sector.cs v).toArray)) (kt := 3) (et := 67) (k := p1) (v := v10) (m := v9) (l := l12) rfl rfl rfl rfl (by kernel_rfl) (by kernel_rfl) (kInt .i64) er11 hl12 eh13) ?_
            refine sim_end wf ⟨trivial, trivial, trivial, trivial, trivial, trivial, trivial⟩ (by kernel_rfl) ?_
            clear wf P_0 P_1 P_2 P_3 P_4 P_5
            refine x_seq ?_
            refine c_weak [(0, .pointer p0)] ⟨rfl, trivial⟩ ?_
            refine c_seq ?_
            refine c_region ?_
            refine w_p tok rfl rfl rfl ?_
            refine w_call disk_Disk_burn_ok (disk_Disk_burn_ref _ _ _ H) rfl rfl rfl rfl ?_
            rintro _ h15 ⟨r14, rfl, H⟩
            refine w_call disk_ended_ok (disk_ended_ref _ _ _ H) rfl rfl rfl rfl ?_
            rintro _ h17 ⟨r16, rfl, H⟩
            refine w_p tok rfl rfl rfl ?_
            refine w_end ?_
            refine x_seq ?_
            refine c_ret ?_
            exact x_ret _ rfl _ rfl ⟨r16, rfl, H⟩
          ·
            refine c_seq ?_
            refine c_region ?_
            refine w_p tok rfl rfl rfl ?_
            obtain ⟨a18, ha18, H⟩ := H
            refine w_y (y_nil' rfl rfl ha18) rfl rfl ?_
            refine w_p tok rfl rfl rfl ?_
            obtain ⟨v19, hv19, H⟩ := H
            refine w_y (y_ld tok rfl rfl rfl rfl hv19) rfl rfl ?_
            refine w_p tok rfl rfl rfl ?_
            obtain ⟨l20, hl20, H⟩ := H
            refine w_y (y_lk2 (K := Int) (V := S_disk_sector) (d := (.int .i64)) (kf := (Value.int .i64)) (vf := (fun v : S_disk_sector => Value.agg (S_disk_sector.cs v).toArray)) (kt := 3) (et := 67) (k := p1) (z := (⟨([] : List Int), false⟩ : S_disk_sector)) (m := v19) (l := l20) rfl rfl rfl (by kernel_rfl) (by kernel_rfl) (kInt .i64) (zero_a tok (T := tab) rfl rfl rfl) hl20) rfl rfl ?_
            refine w_p tok rfl rfl rfl ?_
            refine w_p tok rfl rfl rfl ?_
            refine w_p tok rfl rfl rfl ?_
            obtain ⟨b21, h22, eb21, eh22, H⟩ := H
            refine w_h (h_alloc tok rfl rfl eb21 eh22) rfl rfl ?_
            obtain ⟨h23, wh23, eh23, H⟩ := H
            refine w_h (h_sts tok rfl rfl rfl rfl rfl (oneC (by kernel_rfl)) wh23 eh23) rfl rfl ?_
            refine w_p tok rfl rfl rfl ?_
            refine w_end ?_
            refine x_seq ?_
            refine c_weak [(0, .pointer p0), (1, .int .i64 p1), (2, Slc.v p2), (8, .bool ((mget l20 p1).isSome))] ⟨rfl, rfl, rfl, rfl, trivial⟩ ?_
            refine c_seq ?_
            refine c_region ?_
            refine w_p tok rfl rfl rfl ?_
            refine w_p tok rfl rfl rfl ?_
            refine w_end ?_
            refine x_seq ?_
            refine c_if H rfl (fun H => ?_) (fun H => ?_)
            ·
              refine c_sim [(0, .pointer p0), (1, .int .i64 p1), (2, Slc.v p2)] (by kernel_rfl) (by kernel_rfl) ⟨rfl, rfl, rfl, trivial⟩ (fun wf => ?_)
              refine sim_p 0 (ei := [(0, .pointer p0)]) (d := (some 36)) wf (by kernel_rfl) ⟨rfl, trivial⟩ (by kernel_rfl) (by kernel_rfl) (fun _ => pf_p tok rfl rfl rfl rfl) (fun P_0 => ?_)
              refine sim_p 1 (ei := [(36, .pointer p0)]) (d := (some 37)) wf (by kernel_rfl) ⟨rfl, trivial⟩ (by kernel_rfl) (by kernel_rfl) (fun _ => pf_y rfl rfl rfl (y_nil' rfl rfl ha18)) (fun P_1 => ?_)
              refine sim_p 2 (ei := [(37, .pointer (some a18))]) (d := (some 38)) wf (by kernel_rfl) ⟨rfl, trivial⟩ (by kernel_rfl) (by kernel_rfl) (fun _ => pf_p tok rfl rfl rfl rfl) (fun P_2 => ?_)
              obtain ⟨v24, hv24, H⟩ := H
              refine sim_l 3 (ei := [(38, .pointer (some (a18.add 1)))]) (d := (some 39)) wf (by kernel_rfl) ⟨rfl, trivial⟩ (by kernel_rfl) (by kernel_rfl) (pf_y rfl rfl rfl (y_ld tok rfl rfl rfl rfl hv24)) (fun P_3 => ?_)
              refine sim_p 4 (ei := [(1, .int .i64 p1)]) (d := (some 40)) wf (by kernel_rfl) ⟨rfl, trivial⟩ (by kernel_rfl) (by kernel_rfl) (fun _ => pf_p tok rfl rfl rfl rfl) (fun P_4 => ?_)
              refine sim_p 5 (ei := [(0, .pointer p0)]) (d := (some 41)) wf (by kernel_rfl) ⟨rfl, trivial⟩ (by kernel_rfl) (by kernel_rfl) (fun _ => pf_p tok rfl rfl rfl rfl) (fun P_5 => ?_)
              refine sim_p 6 (ei := [(41, .pointer p0)]) (d := (some 42)) wf (by kernel_rfl) ⟨rfl, trivial⟩ (by kernel_rfl) (by kernel_rfl) (fun _ => pf_y rfl rfl rfl (y_nil' rfl rfl ha18)) (fun P_6 => ?_)
              refine sim_p 7 (ei := [(42, .pointer (some a18))]) (d := (some 43)) wf (by kernel_rfl) ⟨rfl, trivial⟩ (by kernel_rfl) (by kernel_rfl) (fun _ => pf_p tok rfl rfl rfl rfl) (fun P_7 => ?_)
              obtain ⟨v25, hv25, H⟩ := H
              refine sim_l 8 (ei := [(43, .pointer (some a18))]) (d := (some 44)) wf (by kernel_rfl) ⟨rfl, trivial⟩ (by kernel_rfl) (by kernel_rfl) (pf_y rfl rfl rfl (y_ld tok rfl rfl rfl rfl hv25)) (fun P_8 => ?_)
              refine sim_p 9 (ei := [(1, .int .i64 p1)]) (d := (some 45)) wf (by kernel_rfl) ⟨rfl, trivial⟩ (by kernel_rfl) (by kernel_rfl) (fun _ => pf_p tok rfl rfl rfl rfl) (fun P_9 => ?_)
              obtain ⟨l26, hl26, H⟩ := H
              refine sim_l 10 (ei := [(44, .map v25), (45, .int .i64 p1)]) (d := (some 46)) wf (by kernel_rfl) ⟨rfl, rfl, trivial⟩ (by kernel_rfl) (by kernel_rfl) (pf_y rfl rfl rfl (y_lk (K := Int) (V := S_disk_sector) (d := (.int .i64)) (kf := (Value.int .i64)) (vf := (fun v : S_disk_sector => Value.agg (S_disk_sector.cs v).toArray)) (kt := 3) (et := 67) (k := p1) (z := (⟨([] : List Int), false⟩ : S_disk_sector)) (m := v25) (l := l26) rfl rfl rfl (by kernel_rfl) (by kernel_rfl) (kInt .i64) (zero_a tok (T := tab) rfl rfl rfl) hl26)) (fun P_10 => ?_)
              obtain ⟨r27, l28, h29, er27, hl28, eh29, H⟩ := H
              refine sim_h 11 [0, 1, 2, 3, 4, 5, 6, 7, 8, 9, 10] [0, 1, 2, 3, 4, 5, 6, 7, 8, 9, 10] (ei := [(39, .map v24), (40, .int .i64 p1), (46, .agg (S_disk_sector.cs ((mget l26 p1).getD (⟨([] : List Int), false⟩ : S_disk_sector))).toArray)]) wf ⟨P_10, P_9 _, P_8, P_7 _, P_6 _, P_5 _, P_4 _, P_3, P_2 _, P_1 _, P_0 _, trivial⟩ (by kernel_rfl) ⟨rfl, rfl, rfl, trivial⟩ (by kernel_rfl) rfl rfl rfl (h_mu (K := Int) (V := S_disk_sector) (d := (.int .i64)) (kf := (Value.int .i64)) (vf := (fun v : S_disk_sector => Value.agg (S_disk_sector.cs v).toArray)) (kt := 3) (et := 67) (k := p1) (v := ((mget l26 p1).getD (⟨([] : List Int), false⟩ : S_disk_sector))) (m := v24) (l := l28) rfl rfl rfl rfl (by kernel_rfl) (by kernel_rfl) (kInt .i64) er27 hl28 eh29) ?_
              refine sim_end wf ⟨trivial, trivial, trivial, trivial, trivial, trivial, trivial, trivial, trivial, trivial, trivial, trivial⟩ (by kernel_rfl) ?_
              clear wf P_0 P_1 P_10 P_2 P_3 P_4 P_5 P_6 P_7 P_8 P_9
              exact x_join () H ⟨rfl, rfl, rfl, trivial⟩
            ·
              refine c_skip ?_
              exact x_join () H ⟨rfl, rfl, rfl, trivial⟩
    ·
      refine w_gs (d := 17) rfl (fun hb => ?_) (fun hb => ?_)
      ·
        refine w_skip rfl rfl ?_
        refine w_skip rfl rfl ?_
        refine w_p tok rfl rfl rfl ?_
        refine w_jn () rfl ⟨?_, rfl, rfl, rfl, trivial⟩
        exact congrArg (fun b => some (Value.bool b)) (or_t hb)
      ·
        refine w_p tok rfl rfl rfl ?_
        refine w_p tok rfl rfl rfl ?_
        refine w_p tok rfl rfl rfl ?_
        refine w_jn () rfl ⟨?_, rfl, rfl, rfl, trivial⟩
        exact congrArg (fun b => some (Value.bool b)) (or_f hb)

theorem disk_Disk_Sync_ok : CallOk Go.Proofs.Tryd.prog 26 := ⟨_, Go.Proofs.Tryd.func26, by kernel_rfl, by kernel_rfl⟩
theorem disk_Disk_Sync_ref (p0 : Option Addr) (k : (Int) → Heap → Prop) (h : Heap) (H : disk_Disk_Sync p0 k h) : CallsH Go.Proofs.Tryd.prog 26 #[.pointer p0] h (fun v h' => ∃ r : Int, v = .int .i64 r ∧ k r h') := by
  refine f_enter (N := 17) Go.Proofs.Tryd.func26 rfl rfl rfl (fun w0 => ?_)
  unfold disk_Disk_Sync at H
  refine c_weak [(0, .pointer p0)] ⟨rfl, trivial⟩ ?_
  refine c_seq ?_
  refine c_region ?_
  refine w_p tok rfl rfl rfl ?_
  refine w_end ?_
  refine x_seq ?_
  refine c_seq ?_
  refine c_seq ?_
  refine c_region ?_
  refine w_p tok rfl rfl rfl ?_
  refine w_call disk_Disk_power_ok (disk_Disk_power_ref _ _ _ H) rfl rfl rfl rfl ?_
  rintro _ h2 ⟨r1, rfl, H⟩
  refine w_p tok rfl rfl rfl ?_
  refine w_end ?_
  refine x_seq ?_
  refine c_if H rfl (fun H => ?_) (fun H => ?_)
  ·
    refine c_seq ?_
    refine c_region ?_
    refine w_p tok rfl rfl rfl ?_
    refine w_end ?_
    refine x_seq ?_
    refine c_ret ?_
    refine x_tr ?_
    exact x_ret _ rfl _ rfl ⟨10, rfl, H⟩
  ·
    refine c_skip ?_
    refine x_seq ?_
    refine c_seq ?_
    refine c_region ?_
    refine w_p tok rfl rfl rfl ?_
    refine w_call disk_Disk_burn_ok (disk_Disk_burn_ref _ _ _ H) rfl rfl rfl rfl ?_
    rintro _ h4 ⟨r3, rfl, H⟩
    refine w_p tok rfl rfl rfl ?_
    refine w_end ?_
    refine x_seq ?_
    refine c_seqJ (α := Unit) (fun (s : Unit) => [(3, .bool r3)]) (fun (s : Unit) h => disk_Disk_Sync_j1 r3 k h) ?_ ?_
    ·
      rintro _ h_1 H
      replace H : disk_Disk_Sync_j1 r3 k h_1 := H
      unfold disk_Disk_Sync_j1 at H
      refine c_weak [(3, .bool r3)] ⟨rfl, trivial⟩ ?_
      refine c_seq ?_
      refine c_region ?_
      refine w_p tok rfl rfl rfl ?_
      refine w_call disk_ended_ok (disk_ended_ref _ _ _ H) rfl rfl rfl rfl ?_
      rintro _ h6 ⟨r5, rfl, H⟩
      refine w_p tok rfl rfl rfl ?_
      refine w_end ?_
      refine x_seq ?_
      refine c_ret ?_
      exact x_ret _ rfl _ rfl ⟨r5, rfl, H⟩
    ·
      refine c_seq ?_
      refine c_region ?_
      refine w_p tok rfl rfl rfl ?_
      refine w_p tok rfl rfl rfl ?_
      refine w_end ?_
      refine x_seq ?_
      refine c_weak [(0, .pointer p0), (3, .bool r3), (10, .bool (!r3))] ⟨rfl, rfl, rfl, trivial⟩ ?_
      refine c_if H rfl (fun H => ?_) (fun H => ?_)
      ·
        refine c_region ?_
        refine w_p tok rfl rfl rfl ?_
        obtain ⟨a7, ha7, H⟩ := H
        refine w_y (y_nil' rfl rfl ha7) rfl rfl ?_
        refine w_p tok rfl rfl rfl ?_
        obtain ⟨v8, hv8, H⟩ := H
        refine w_y (y_ld tok rfl rfl rfl rfl hv8) rfl rfl ?_
        obtain ⟨r9, l10, h11, er9, hl10, eh11, H⟩ := H
        refine w_h (h_clr (K := Int) (V := S_disk_sector) (d := (.int .i64)) (kf := (Value.int .i64)) (vf := (fun v : S_disk_sector => Value.agg (S_disk_sector.cs v).toArray)) (kt := 3) (et := 67) (m := v8) (l := l10) rfl rfl (by kernel_rfl) er9 hl10 eh11) rfl rfl ?_
        refine w_end ?_
        exact x_join () H ⟨rfl, trivial⟩
      ·
        refine c_skip ?_
        exact x_join () H ⟨rfl, trivial⟩

theorem disk_Disk_Read_ok : CallOk Go.Proofs.Tryd.prog 32 := ⟨_, Go.Proofs.Tryd.func32, by kernel_rfl, by kernel_rfl⟩
theorem disk_Disk_Read_ref (p0 : Option Addr) (p1 : Int) (k : (Slc × Int) → Heap → Prop) (h : Heap) (H : disk_Disk_Read p0 p1 k h) : CallsH Go.Proofs.Tryd.prog 32 #[.pointer p0, .int .i64 p1] h (fun v h' => ∃ r : Slc × Int, v = .tuple #[Slc.v r.1, .int .i64 r.2] ∧ k r h') := by
  refine f_enter (N := 27) Go.Proofs.Tryd.func32 rfl rfl rfl (fun w0 => ?_)
  unfold disk_Disk_Read at H
  refine c_weak [(0, .pointer p0), (1, .int .i64 p1)] ⟨rfl, rfl, trivial⟩ ?_
  refine c_seq ?_
  refine c_region ?_
  refine w_p tok rfl rfl rfl ?_
  refine w_p tok rfl rfl rfl ?_
  refine w_end ?_
  refine x_seq ?_
  refine c_seq ?_
  refine c_seq ?_
  refine c_region ?_
  refine w_p tok rfl rfl rfl ?_
  refine w_p tok rfl rfl rfl ?_
  refine w_p tok rfl rfl rfl ?_
  refine w_cutU 3 [(12, .bool ((p0.isNone) || (decide (p1 < 0)))), (0, .pointer p0), (1, .int .i64 p1)] ?_ ?_
  ·
    refine w_p tok rfl rfl rfl ?_
    refine w_cutU 3 [(16, .bool (((p0.isNone) || (decide (p1 < 0))) || (decide (p1 ≥ 1024)))), (0, .pointer p0), (1, .int .i64 p1)] ?_ ?_
    ·
      refine w_end ?_
      refine x_seq ?_
      refine c_if H rfl (fun H => ?_) (fun H => ?_)
      ·
        refine c_seq ?_
        refine c_region ?_
        refine w_p tok rfl rfl rfl ?_
        refine w_p tok rfl rfl rfl ?_
        refine w_end ?_
        refine x_seq ?_
        refine c_ret ?_
        refine x_tr ?_
        exact x_ret _ rfl _ rfl ⟨((⟨none, 0, 0⟩ : Slc), 1), rfl, H⟩
      ·
        refine c_skip ?_
        refine x_seq ?_
        refine c_seq ?_
        refine c_region ?_
        refine w_p tok rfl rfl rfl ?_
        obtain ⟨a1, ha1, H⟩ := H
        refine w_y (y_nil' rfl rfl ha1) rfl rfl ?_
        refine w_p tok rfl rfl rfl ?_
        obtain ⟨v2, hv2, H⟩ := H
        refine w_y (y_ld tok rfl rfl rfl rfl hv2) rfl rfl ?_
        refine w_p tok rfl rfl rfl ?_
        obtain ⟨l3, hl3, H⟩ := H
        refine w_y (y_lk (K := Int) (V := S_disk_sector) (d := (.int .i64)) (kf := (Value.int .i64)) (vf := (fun v : S_disk_sector => Value.agg (S_disk_sector.cs v).toArray)) (kt := 3) (et := 67) (k := p1) (z := (⟨([] : List Int), false⟩ : S_disk_sector)) (m := v2) (l := l3) rfl rfl rfl (by kernel_rfl) (by kernel_rfl) (kInt .i64) (zero_a tok (T := tab) rfl rfl rfl) hl3) rfl rfl ?_
        obtain ⟨b4, h5, eb4, eh5, H⟩ := H
        refine w_h (h_alloc tok rfl rfl eb4 eh5) rfl rfl ?_
        obtain ⟨h6, wh6, eh6, H⟩ := H
        refine w_h (h_sts tok rfl rfl rfl rfl rfl (oneC (by kernel_rfl)) wh6 eh6) rfl rfl ?_
        refine w_end ?_
        refine x_seq ?_
        refine c_weak [(6, .pointer (some (⟨b4, 0, none⟩ : Addr)))] ⟨rfl, trivial⟩ ?_
        refine c_seq ?_
        refine c_seq ?_
        refine c_region ?_
        refine w_p tok rfl rfl rfl ?_
        obtain ⟨v7, hv7, H⟩ := H
        refine w_y (y_ld tok rfl rfl rfl rfl hv7) rfl rfl ?_
        refine w_end ?_
        refine x_seq ?_
        refine c_if H rfl (fun H => ?_) (fun H => ?_)
        ·
          refine c_seq ?_
          refine c_region ?_
          refine w_p tok rfl rfl rfl ?_
          refine w_p tok rfl rfl rfl ?_
          refine w_end ?_
          refine x_seq ?_
          refine c_ret ?_
          refine x_tr ?_
          exact x_ret _ rfl _ rfl ⟨((⟨none, 0, 0⟩ : Slc), 9), rfl, H⟩
        ·
          refine c_skip ?_
          refine x_seq ?_
          refine c_seq ?_
          refine c_region ?_
          refine w_p tok rfl rfl rfl ?_
          obtain ⟨s8, ps8, qs8, rs8, es8, H⟩ := H
          refine w_ye (y_sla (L := 0) (H := 128) tok rfl rfl rfl rfl rfl rfl ps8 qs8 rs8) (congrArg Slc.v es8) rfl rfl ?_
          refine w_p tok rfl rfl rfl ?_
          refine w_p tok rfl rfl rfl ?_
          refine w_end ?_
          refine x_seq ?_
          refine c_ret ?_
          exact x_ret _ rfl _ rfl ⟨(s8, 0), rfl, H⟩
    ·
      refine w_gs (d := 13) rfl (fun hb => ?_) (fun hb => ?_)
      ·
        refine w_skip rfl rfl ?_
        refine w_skip rfl rfl ?_
        refine w_p tok rfl rfl rfl ?_
        refine w_jn () rfl ⟨?_, rfl, rfl, trivial⟩
        exact congrArg (fun b => some (Value.bool b)) (or_t hb)
      ·
        refine w_p tok rfl rfl rfl ?_
        refine w_p tok rfl rfl rfl ?_
        refine w_p tok rfl rfl rfl ?_
        refine w_jn () rfl ⟨?_, rfl, rfl, trivial⟩
        exact congrArg (fun b => some (Value.bool b)) (or_f hb)
  ·
    refine w_gs (d := 9) rfl (fun hb => ?_) (fun hb => ?_)
    ·
      refine w_skip rfl rfl ?_
      refine w_skip rfl rfl ?_
      refine w_p tok rfl rfl rfl ?_
      refine w_jn () rfl ⟨?_, rfl, rfl, trivial⟩
      exact congrArg (fun b => some (Value.bool b)) (or_t hb)
    ·
      refine w_p tok rfl rfl rfl ?_
      refine w_p tok rfl rfl rfl ?_
      refine w_p tok rfl rfl rfl ?_
      refine w_jn () rfl ⟨?_, rfl, rfl, trivial⟩
      exact congrArg (fun b => some (Value.bool b)) (or_f hb)

theorem disk_Disk_Fuse_ok : CallOk Go.Proofs.Tryd.prog 8 := ⟨_, Go.Proofs.Tryd.func8, by kernel_rfl, by kernel_rfl⟩
theorem disk_Disk_Fuse_ref (p0 : Option Addr) (p1 : Int) (k : (Int) → Heap → Prop) (h : Heap) (H : disk_Disk_Fuse p0 p1 k h) : CallsH Go.Proofs.Tryd.prog 8 #[.pointer p0, .int .i64 p1] h (fun v h' => ∃ r : Int, v = .int .i64 r ∧ k r h') := by
  refine f_enter (N := 13) Go.Proofs.Tryd.func8 rfl rfl rfl (fun w0 => ?_)
  unfold disk_Disk_Fuse at H
  refine c_weak [(0, .pointer p0), (1, .int .i64 p1)] ⟨rfl, rfl, trivial⟩ ?_
  refine c_seq ?_
  refine c_region ?_
  refine w_p tok rfl rfl rfl ?_
  refine w_end ?_
  refine x_seq ?_
  refine c_seq ?_
  refine c_seq ?_
  refine c_region ?_
  refine w_p tok rfl rfl rfl ?_
  refine w_call disk_Disk_power_ok (disk_Disk_power_ref _ _ _ H) rfl rfl rfl rfl ?_
  rintro _ h2 ⟨r1, rfl, H⟩
  refine w_p tok rfl rfl rfl ?_
  refine w_end ?_
  refine x_seq ?_
  refine c_if H rfl (fun H => ?_) (fun H => ?_)
  ·
    refine c_seq ?_
    refine c_region ?_
    refine w_p tok rfl rfl rfl ?_
    refine w_end ?_
    refine x_seq ?_
    refine c_ret ?_
    refine x_tr ?_
    exact x_ret _ rfl _ rfl ⟨10, rfl, H⟩
  ·
    refine c_skip ?_
    refine x_seq ?_
    refine c_seq ?_
    refine c_region ?_
    refine w_p tok rfl rfl rfl ?_
    refine w_p tok rfl rfl rfl ?_
    refine w_p tok rfl rfl rfl ?_
    obtain ⟨a3, ha3, H⟩ := H
    refine w_y (y_nil' rfl rfl ha3) rfl rfl ?_
    refine w_p tok rfl rfl rfl ?_
    obtain ⟨h4, wh4, eh4, H⟩ := H
    refine w_h (h_st tok rfl rfl rfl rfl rfl rfl wh4 eh4) rfl rfl ?_
    refine w_end ?_
    refine x_seq ?_
    refine c_weak [] trivial ?_
    refine c_seq ?_
    refine c_region ?_
    refine w_p tok rfl rfl rfl ?_
    refine w_end ?_
    refine x_seq ?_
    refine c_ret ?_
    exact x_ret _ rfl _ rfl ⟨0, rfl, H⟩

theorem disk_Disk_Dead_ok : CallOk Go.Proofs.Tryd.prog 11 := ⟨_, Go.Proofs.Tryd.func11, by kernel_rfl, by kernel_rfl⟩
theorem disk_Disk_Dead_ref (p0 : Option Addr) (k : (Bool) → Heap → Prop) (h : Heap) (H : disk_Disk_Dead p0 k h) : CallsH Go.Proofs.Tryd.prog 11 #[.pointer p0] h (fun v h' => ∃ r : Bool, v = .bool r ∧ k r h') := by
  refine f_enter (N := 11) Go.Proofs.Tryd.func11 rfl rfl rfl (fun w0 => ?_)
  unfold disk_Disk_Dead at H
  refine c_weak [(0, .pointer p0)] ⟨rfl, trivial⟩ ?_
  refine c_seq ?_
  refine c_region ?_
  refine w_p tok rfl rfl rfl ?_
  refine w_end ?_
  refine x_seq ?_
  refine c_seq ?_
  refine c_region ?_
  refine w_p tok rfl rfl rfl ?_
  refine w_p tok rfl rfl rfl ?_
  refine w_p tok rfl rfl rfl ?_
  refine w_cut 5 (α := Bool) (fun (s : Bool) => [(10, .bool s)]) (fun (s : Bool) h => disk_Disk_Dead_g1 s k h) ?_ ?_
  ·
    rintro t10_1 h_1 H
    replace H : disk_Disk_Dead_g1 t10_1 k h_1 := H
    unfold disk_Disk_Dead_g1 at H
    refine w_weak [(10, .bool t10_1)] ⟨rfl, trivial⟩ ?_
    refine w_p tok rfl rfl rfl ?_
    refine w_end ?_
    refine x_seq ?_
    refine c_ret ?_
    exact x_ret _ rfl _ rfl ⟨t10_1, rfl, H⟩
  ·
    refine w_gif (d := 5) H rfl (fun H => ?_) (fun H => ?_)
    ·
      refine w_p tok rfl rfl rfl ?_
      obtain ⟨a1, ha1, H⟩ := H
      refine w_y (y_nil' rfl rfl ha1) rfl rfl ?_
      refine w_p tok rfl rfl rfl ?_
      obtain ⟨v2, hv2, H⟩ := H
      refine w_y (y_ld tok rfl rfl rfl rfl hv2) rfl rfl ?_
      refine w_p tok rfl rfl rfl ?_
      exact w_jn v2 H ⟨rfl, trivial⟩
    ·
      refine w_skip rfl rfl ?_
      refine w_skip rfl rfl ?_
      refine w_skip rfl rfl ?_
      refine w_skip rfl rfl ?_
      refine w_p tok rfl rfl rfl ?_
      exact w_jn false H ⟨rfl, trivial⟩

theorem disk_Disk_Boot_ok : CallOk Go.Proofs.Tryd.prog 12 := ⟨_, Go.Proofs.Tryd.func12, by kernel_rfl, by kernel_rfl⟩
theorem disk_Disk_Boot_ref (p0 : Option Addr) (p1 : Slc) (k : (Unit) → Heap → Prop) (h : Heap) (H : disk_Disk_Boot p0 p1 k h) : CallsH Go.Proofs.Tryd.prog 12 #[.pointer p0, Slc.v p1] h (fun v h' => ∃ r : Unit, v = .tuple #[] ∧ k r h') := by
  refine f_enter (N := 65) Go.Proofs.Tryd.func12 rfl rfl rfl (fun w0 => ?_)
  unfold disk_Disk_Boot at H
  refine c_weak [(0, .pointer p0), (1, Slc.v p1)] ⟨rfl, rfl, trivial⟩ ?_
  refine c_seq ?_
  refine c_seq ?_
  refine c_region ?_
  refine w_p tok rfl rfl rfl ?_
  refine w_p tok rfl rfl rfl ?_
  refine w_end ?_
  refine x_seq ?_
  refine c_if H rfl (fun H => ?_) (fun H => ?_)
  ·
    refine c_ret ?_
    refine x_tr ?_
    exact x_ret _ rfl _ rfl ⟨(), rfl, H⟩
  ·
    refine c_skip ?_
    refine x_seq ?_
    refine c_seq ?_
    refine c_seq ?_
    refine c_region ?_
    refine w_p tok rfl rfl rfl ?_
    obtain ⟨a1, ha1, H⟩ := H
    refine w_y (y_nil' rfl rfl ha1) rfl rfl ?_
    refine w_p tok rfl rfl rfl ?_
    obtain ⟨v2, hv2, H⟩ := H
    refine w_y (y_ld tok rfl rfl rfl rfl hv2) rfl rfl ?_
    refine w_call maps_Keys_map_int_disk_sector_int_disk_sector_ok (maps_Keys_map_int_disk_sector_int_disk_sector_ref _ _ _ H) rfl rfl rfl rfl ?_
    rintro _ h4 ⟨r3, rfl, H⟩
    refine w_call slices_Sorted_int_ok (slices_Sorted_int_ref _ _ _ H) rfl rfl rfl rfl ?_
    rintro _ h6 ⟨r5, rfl, H⟩
    refine w_p tok rfl rfl rfl ?_
    refine w_p tok rfl rfl rfl ?_
    refine w_end ?_
    refine x_seq ?_
    refine c_weak [(0, .pointer p0), (1, Slc.v p1), (14, Slc.v r5), (15, .int .i64 (r5.len : Int)), (16, .int .i64 0)] ⟨rfl, rfl, rfl, rfl, rfl, trivial⟩ ?_
    refine c_block ?_
    obtain ⟨I1, μ1, H0, HI⟩ := H
    refine c_loop (σ := Int) (fun (s : Int) => [(16, .int .i64 s), (0, .pointer p0), (1, Slc.v p1), (14, Slc.v r5), (15, .int .i64 (r5.len : Int))]) I1 μ1 0 H0 ⟨rfl, rfl, rfl, rfl, rfl, trivial⟩ ?_
    rintro t16_1 h_1 H
    replace H := HI t16_1 h_1 H
    unfold disk_Disk_Boot_l1b at H
    refine c_weak [(16, .int .i64 t16_1), (0, .pointer p0), (1, Slc.v p1), (14, Slc.v r5), (15, .int .i64 (r5.len : Int))] ⟨rfl, rfl, rfl, rfl, rfl, trivial⟩ ?_
    refine c_seq ?_
    refine c_region ?_
    refine w_p tok rfl rfl rfl ?_
    refine w_end ?_
    refine x_seq ?_
    refine c_seq ?_
    refine c_if H rfl (fun H => ?_) (fun H => ?_)
    ·
      refine c_skip ?_
      refine x_seq ?_
      refine c_seqJ (α := Unit) (fun (s : Unit) => [(0, .pointer p0), (1, Slc.v p1), (14, Slc.v r5), (15, .int .i64 (r5.len : Int)), (16, .int .i64 t16_1)]) (fun (s : Unit) h => disk_Disk_Boot_j2 p0 p1 r5 (r5.len : Int) t16_1 k (fun s h' => I1 s h' ∧ μ1 s h' < μ1 t16_1 h_1) h) ?_ ?_
      ·
        rintro _ h_2 H
        replace H : disk_Disk_Boot_j2 p0 p1 r5 (r5.len : Int) t16_1 k (fun s h' => I1 s h' ∧ μ1 s h' < μ1 t16_1 h_1) h_2 := H
        unfold disk_Disk_Boot_j2 at H
        refine c_weak [(0, .pointer p0), (1, Slc.v p1), (14, Slc.v r5), (15, .int .i64 (r5.len : Int)), (16, .int .i64 t16_1)] ⟨rfl, rfl, rfl, rfl, rfl, trivial⟩ ?_
        refine c_region ?_
        refine w_p tok rfl rfl rfl ?_
        refine w_p tok rfl rfl rfl ?_
        refine w_end ?_
        exact x_join (IntKind.i64.wrap (t16_1 + 1)) H ⟨rfl, rfl, rfl, rfl, rfl, trivial⟩
      ·
        refine c_block ?_
        refine c_seq ?_
        refine c_region ?_
        refine w_p tok rfl rfl rfl ?_
        obtain ⟨a7, ha7, la7, ua7, H⟩ := H
        refine w_y (y_ixa' tok rfl rfl ha7 rfl rfl rfl la7 ua7) rfl rfl ?_
        obtain ⟨v8, hv8, H⟩ := H
        refine w_y (y_ld tok rfl rfl rfl rfl hv8) rfl rfl ?_
        refine w_p tok rfl rfl rfl ?_
        refine w_p tok rfl rfl rfl ?_
        refine w_end ?_
        refine x_seq ?_
        refine c_seq ?_
        refine c_region ?_
        refine w_p tok rfl rfl rfl ?_
        refine w_end ?_
        refine x_seq ?_
        refine c_seqJ (α := Int) (fun (s : Int) => [(6, .int .u8 s), (0, .pointer p0), (1, Slc.v p1), (5, .int .i64 v8), (14, Slc.v r5), (15, .int .i64 (r5.len : Int)), (16, .int .i64 t16_1)]) (fun (s : Int) h => disk_Disk_Boot_j3 p0 p1 v8 r5 (r5.len : Int) t16_1 s k (fun s h' => I1 s h' ∧ μ1 s h' < μ1 t16_1 h_1) h) ?_ ?_
        ·
          rintro t6_3 h_3 H
          replace H : disk_Disk_Boot_j3 p0 p1 v8 r5 (r5.len : Int) t16_1 t6_3 k (fun s h' => I1 s h' ∧ μ1 s h' < μ1 t16_1 h_1) h_3 := H
          unfold disk_Disk_Boot_j3 at H
          refine c_weak [(6, .int .u8 t6_3), (0, .pointer p0), (1, Slc.v p1), (5, .int .i64 v8), (14, Slc.v r5), (15, .int .i64 (r5.len : Int)), (16, .int .i64 t16_1)] ⟨rfl, rfl, rfl, rfl, rfl, rfl, rfl, trivial⟩ ?_
          refine c_seq ?_
          refine c_region ?_
          refine w_p tok rfl rfl rfl ?_
          refine w_end ?_
          refine x_seq ?_
          refine c_block ?_
          refine c_seq ?_
          refine c_region ?_
          refine w_p tok rfl rfl rfl ?_
          refine w_p tok rfl rfl rfl ?_
          refine w_end ?_
          refine x_seq ?_
          refine c_if H rfl (fun H => ?_) (fun H => ?_)
          ·
            refine c_sim [(0, .pointer p0), (1, Slc.v p1), (5, .int .i64 v8), (14, Slc.v r5), (15, .int .i64 (r5.len : Int)), (16, .int .i64 t16_1)] (by kernel_rfl) (by kernel_rfl) ⟨rfl, rfl, rfl, rfl, rfl, rfl, trivial⟩ (fun wf => ?_)
            refine sim_p 0 (ei := [(0, .pointer p0)]) (d := (some 35)) wf (by kernel_rfl) ⟨rfl, trivial⟩ (by kernel_rfl) (by kernel_rfl) (fun _ => pf_p tok rfl rfl rfl rfl) (fun P_0 => ?_)
            obtain ⟨a9, ha9, H⟩ := H
            refine sim_p 1 (ei := [(35, .pointer p0)]) (d := (some 36)) wf (by kernel_rfl) ⟨rfl, trivial⟩ (by kernel_rfl) (by kernel_rfl) (fun _ => pf_y rfl rfl rfl (y_nil' rfl rfl ha9)) (fun P_1 => ?_)
            refine sim_p 2 (ei := [(36, .pointer (some a9))]) (d := (some 37)) wf (by kernel_rfl) ⟨rfl, trivial⟩ (by kernel_rfl) (by kernel_rfl) (fun _ => pf_p tok rfl rfl rfl rfl) (fun P_2 => ?_)
            obtain ⟨v10, hv10, H⟩ := H
            refine sim_l 3 (ei := [(37, .pointer (some a9))]) (d := (some 38)) wf (by kernel_rfl) ⟨rfl, trivial⟩ (by kernel_rfl) (by kernel_rfl) (pf_y rfl rfl rfl (y_ld tok rfl rfl rfl rfl hv10)) (fun P_3 => ?_)
            refine sim_p 4 (ei := [(5, .int .i64 v8)]) (d := (some 39)) wf (by kernel_rfl) ⟨rfl, trivial⟩ (by kernel_rfl) (by kernel_rfl) (fun _ => pf_p tok rfl rfl rfl rfl) (fun P_4 => ?_)
            refine sim_p 5 (ei := [(0, .pointer p0)]) (d := (some 40)) wf (by kernel_rfl) ⟨rfl, trivial⟩ (by kernel_rfl) (by kernel_rfl) (fun _ => pf_p tok rfl rfl rfl rfl) (fun P_5 => ?_)
            refine sim_p 6 (ei := [(40, .pointer p0)]) (d := (some 41)) wf (by kernel_rfl) ⟨rfl, trivial⟩ (by kernel_rfl) (by kernel_rfl) (fun _ => pf_y rfl rfl rfl (y_nil' rfl rfl ha9)) (fun P_6 => ?_)
            refine sim_p 7 (ei := [(41, .pointer (some a9))]) (d := (some 42)) wf (by kernel_rfl) ⟨rfl, trivial⟩ (by kernel_rfl) (by kernel_rfl) (fun _ => pf_p tok rfl rfl rfl rfl) (fun P_7 => ?_)
            obtain ⟨v11, hv11, H⟩ := H
            refine sim_l 8 (ei := [(42, .pointer (some (a9.add 1)))]) (d := (some 43)) wf (by kernel_rfl) ⟨rfl, trivial⟩ (by kernel_rfl) (by kernel_rfl) (pf_y rfl rfl rfl (y_ld tok rfl rfl rfl rfl hv11)) (fun P_8 => ?_)
            refine sim_p 9 (ei := [(5, .int .i64 v8)]) (d := (some 44)) wf (by kernel_rfl) ⟨rfl, trivial⟩ (by kernel_rfl) (by kernel_rfl) (fun _ => pf_p tok rfl rfl rfl rfl) (fun P_9 => ?_)
            obtain ⟨l12, hl12, H⟩ := H
            refine sim_l 10 (ei := [(43, .map v11), (44, .int .i64 v8)]) (d := (some 45)) wf (by kernel_rfl) ⟨rfl, rfl, trivial⟩ (by kernel_rfl) (by kernel_rfl) (pf_y rfl rfl rfl (y_lk (K := Int) (V := S_disk_sector) (d := (.int .i64)) (kf := (Value.int .i64)) (vf := (fun v : S_disk_sector => Value.agg (S_disk_sector.cs v).toArray)) (kt := 3) (et := 67) (k := v8) (z := (⟨([] : List Int), false⟩ : S_disk_sector)) (m := v11) (l := l12) rfl rfl rfl (by kernel_rfl) (by kernel_rfl) (kInt .i64) (zero_a tok (T := tab) rfl rfl rfl) hl12)) (fun P_10 => ?_)
            obtain ⟨r13, l14, h15, er13, hl14, eh15, H⟩ := H
            refine sim_h 11 [0, 1, 2, 3, 4, 5, 6, 7, 8, 9, 10] [0, 1, 2, 3, 4, 5, 6, 7, 8, 9, 10] (ei := [(38, .map v10), (39, .int .i64 v8), (45, .agg (S_disk_sector.cs ((mget l12 v8).getD (⟨([] : List Int), false⟩ : S_disk_sector))).toArray)]) wf ⟨P_10, P_9 _, P_8, P_7 _, P_6 _, P_5 _, P_4 _, P_3, P_2 _, P_1 _, P_0 _, trivial⟩ (by kernel_rfl) ⟨rfl, rfl, rfl, trivial⟩ (by kernel_rfl) rfl rfl rfl (h_mu (K := Int) (V := S_disk_sector) (d := (.int .i64)) (kf := (Value.int .i64)) (vf := (fun v : S_disk_sector => Value.agg (S_disk_sector.cs v).toArray)) (kt := 3) (et := 67) (k := v8) (v := ((mget l12 v8).getD (⟨([] : List Int), false⟩ : S_disk_sector))) (m := v10) (l := l14) rfl rfl rfl rfl (by kernel_rfl) (by kernel_rfl) (kInt .i64) er13 hl14 eh15) ?_
            refine sim_end wf ⟨trivial, trivial, trivial, trivial, trivial, trivial, trivial, trivial, trivial, trivial, trivial, trivial⟩ (by kernel_rfl) ?_
            clear wf P_0 P_1 P_10 P_2 P_3 P_4 P_5 P_6 P_7 P_8 P_9
            refine x_blk ?_
            refine x_blk ?_
            exact x_join () H ⟨rfl, rfl, rfl, rfl, rfl, trivial⟩
          ·
            refine c_seq ?_
            refine c_region ?_
            refine w_p tok rfl rfl rfl ?_
            refine w_p tok rfl rfl rfl ?_
            refine w_end ?_
            refine x_seq ?_
            refine c_if H rfl (fun H => ?_) (fun H => ?_)
            ·
              refine c_region ?_
              refine w_p tok rfl rfl rfl ?_
              obtain ⟨a16, ha16, H⟩ := H
              refine w_y (y_nil' rfl rfl ha16) rfl rfl ?_
              refine w_p tok rfl rfl rfl ?_
              obtain ⟨v17, hv17, H⟩ := H
              refine w_y (y_ld tok rfl rfl rfl rfl hv17) rfl rfl ?_
              refine w_p tok rfl rfl rfl ?_
              refine w_y (y_build tok rfl rfl rfl rfl rfl) rfl rfl ?_
              obtain ⟨r18, l19, h20, er18, hl19, eh20, H⟩ := H
              refine w_h (h_mu (K := Int) (V := S_disk_sector) (d := (.int .i64)) (kf := (Value.int .i64)) (vf := (fun v : S_disk_sector => Value.agg (S_disk_sector.cs v).toArray)) (kt := 3) (et := 67) (k := v8) (v := (⟨([] : List Int), true⟩ : S_disk_sector)) (m := v17) (l := l19) rfl rfl rfl rfl (by kernel_rfl) (by kernel_rfl) (kInt .i64) er18 hl19 eh20) rfl rfl ?_
              refine w_end ?_
              refine x_blk ?_
              refine x_blk ?_
              exact x_join () H ⟨rfl, rfl, rfl, rfl, rfl, trivial⟩
            ·
              refine c_skip ?_
              refine x_blk ?_
              refine x_blk ?_
              exact x_join () H ⟨rfl, rfl, rfl, rfl, rfl, trivial⟩
        ·
          refine c_seq ?_
          refine c_region ?_
          refine w_p tok rfl rfl rfl ?_
          refine w_p tok rfl rfl rfl ?_
          refine w_p tok rfl rfl rfl ?_
          refine w_end ?_
          refine x_seq ?_
          refine c_if H rfl (fun H => ?_) (fun H => ?_)
          ·
            refine c_region ?_
            refine w_p tok rfl rfl rfl ?_
            refine w_p tok rfl rfl rfl ?_
            refine w_p tok rfl rfl rfl ?_
            refine w_p tok rfl rfl rfl ?_
            obtain ⟨z21, H⟩ := H
            refine w_y (y_rem rfl rfl rfl z21) rfl rfl ?_
            obtain ⟨a22, ha22, la22, ua22, H⟩ := H
            refine w_y (y_ixa' tok rfl rfl ha22 rfl rfl rfl la22 ua22) rfl rfl ?_
            obtain ⟨v23, hv23, H⟩ := H
            refine w_y (y_ld tok rfl rfl rfl rfl hv23) rfl rfl ?_
            refine w_p tok rfl rfl rfl ?_
            obtain ⟨x24, ex24, H⟩ := H
            refine w_pe tok rfl (congrArg (fun z => (.int .u8 z : Value)) ex24) rfl rfl ?_
            refine w_end ?_
            exact x_join x24 H ⟨rfl, rfl, rfl, rfl, rfl, rfl, rfl, trivial⟩
          ·
            refine c_skip ?_
            exact x_join 0 H ⟨rfl, rfl, rfl, rfl, rfl, rfl, rfl, trivial⟩
    ·
      refine c_exit ?_
      refine x_te ?_
      refine x_te ?_
      refine x_bh ?_
      refine x_seq ?_
      refine c_seq ?_
      refine c_region ?_
      refine w_p tok rfl rfl rfl ?_
      obtain ⟨a25, ha25, H⟩ := H
      refine w_y (y_nil' rfl rfl ha25) rfl rfl ?_
      refine w_p tok rfl rfl rfl ?_
      obtain ⟨v26, hv26, H⟩ := H
      refine w_y (y_ld tok rfl rfl rfl rfl hv26) rfl rfl ?_
      obtain ⟨r27, l28, h29, er27, hl28, eh29, H⟩ := H
      refine w_h (h_clr (K := Int) (V := S_disk_sector) (d := (.int .i64)) (kf := (Value.int .i64)) (vf := (fun v : S_disk_sector => Value.agg (S_disk_sector.cs v).toArray)) (kt := 3) (et := 67) (m := v26) (l := l28) rfl rfl (by kernel_rfl) er27 hl28 eh29) rfl rfl ?_
      refine w_end ?_
      refine x_seq ?_
      refine c_weak [(0, .pointer p0)] ⟨rfl, trivial⟩ ?_
      refine c_region ?_
      refine w_p tok rfl rfl rfl ?_
      refine w_p tok rfl rfl rfl ?_
      refine w_y (y_nil' rfl rfl ha25) rfl rfl ?_
      refine w_p tok rfl rfl rfl ?_
      obtain ⟨h30, wh30, eh30, H⟩ := H
      refine w_h (h_st tok rfl rfl rfl rfl rfl rfl wh30 eh30) rfl rfl ?_
      refine w_y (y_nil' rfl rfl ha25) rfl rfl ?_
      refine w_p tok rfl rfl rfl ?_
      obtain ⟨h31, wh31, eh31, H⟩ := H
      refine w_h (h_st tok rfl rfl rfl rfl rfl rfl wh31 eh31) rfl rfl ?_
      refine w_end ?_
      exact x_end _ rfl _ rfl ⟨(), rfl, H⟩
end Go.Q.Yf
