/- A part of the proof of statements of this seat: lemmas, no statement of their own. -/
import Derived.Test.YtgbbpanapnkdbaaGreatYqZad
import Derived.Test.YtgbbpanapnkdbaaGreatYqZae
import Derived.Test.YtgbbpanapnkdbaaGreatYqZah
import Derived.Test.YtgbbpanapnkdbaaGreatYqZam
set_option linter.unusedVariables false
set_option linter.unusedSimpArgs false
section
set_option maxRecDepth 100000
set_option maxHeartbeats 1000000
namespace Go.Q.Yq
open Go.Proofs.Tryz
open Go.RowKit in
theorem eqI87 (a b:S_api_Id) (w:World):(Op.equalIn (9998 + 1) 87 (.agg (S_api_Id.cs a).toArray) (.agg (S_api_Id.cs b).toArray)).run Go.Proofs.Tryz.prog w = .ok ((a.f_N == b.f_N) && (a.f_Node == b.f_Node)) w:=by
  have hS:Go.Proofs.Tryz.prog.underlying 87=some (.struct (Go.Proofs.Tryz.prog.fieldsOf 87)):=by kernel_rfl
  have hp:Go.Proofs.Tryz.prog.stoodInHeld 87=false:=by kernel_rfl
  have u25:=Go.Proofs.Tryz.underlying25
  have a25:∀ w,(isAgg 25).run Go.Proofs.Tryz.prog w = .ok false w:=Go.Proofs.Tryz.isAgg25
  have u85:=Go.Proofs.Tryz.underlying85
  have a85:∀ w,(isAgg 85).run Go.Proofs.Tryz.prog w = .ok false w:=Go.Proofs.Tryz.isAgg85
  rw [run_equalIn_struct w 9998 87 _ _ hS hp]
  simp only [Program.fieldsOf,Go.Proofs.Tryz.underlying87,S_api_Id.cs]
  go_simp
  by_cases h0:(a.f_N=b.f_N) <;> by_cases h1:(a.f_Node=b.f_Node) <;> simp [h0,h1]
open Go.RowKit in
theorem eqv89_S_api_Piece (a b:S_api_Piece) (w:World):(Op.equal 89 (.agg (S_api_Piece.cs a).toArray) (.agg (S_api_Piece.cs b).toArray)).run Go.Proofs.Tryz.prog w = .ok ((a.f_Series.toList == b.f_Series.toList) && (a.f_T == b.f_T) && (a.f_V == b.f_V) && ((a.f_Id.f_N == b.f_Id.f_N) && (a.f_Id.f_Node == b.f_Id.f_Node))) w:=by
  have hS:Go.Proofs.Tryz.prog.underlying 89=some (.struct (Go.Proofs.Tryz.prog.fieldsOf 89)):=by kernel_rfl
  have hp:Go.Proofs.Tryz.prog.stoodInHeld 89=false:=by kernel_rfl
  have e87:=eqI87 a.f_Id b.f_Id
  have n87:∀ w,(isAgg 87).run Go.Proofs.Tryz.prog w = .ok true w:=Go.Proofs.Tryz.isAgg87
  have s87:Go.Proofs.Tryz.prog.cellsOf 87=2:=by kernel_rfl
  have u2:=Go.Proofs.Tryz.underlying2
  have a2:∀ w,(isAgg 2).run Go.Proofs.Tryz.prog w = .ok false w:=Go.Proofs.Tryz.isAgg2
  have u9:=Go.Proofs.Tryz.underlying9
  have a9:∀ w,(isAgg 9).run Go.Proofs.Tryz.prog w = .ok false w:=Go.Proofs.Tryz.isAgg9
  have q2:∀ (x y:Int) w,(Op.equalIn (9998 + 1) 2 (.int .i64 x) (.int .i64 y)).run Go.Proofs.Tryz.prog w = .ok (x == y) w:=fun x y w=>by go_simp
  have q9:∀ (x y:ByteArray) w,(Op.equalIn (9998 + 1) 9 (.string x) (.string y)).run Go.Proofs.Tryz.prog w = .ok (x.toList == y.toList) w:=fun x y w=>by go_simp
  unfold Op.equal Op.maxDepth
  rw [show (10000:Nat)=(9998 + 1) + 1 from rfl,run_equalIn_struct w (9998 + 1) 89 _ _ hS hp]
  simp only [Program.fieldsOf,Go.Proofs.Tryz.underlying89,S_api_Piece.cs]
  generalize 9998 + 1=N at e87 q2 q9 ⊢
  go_simp
  simp only [show List.take 2 (S_api_Id.cs a.f_Id)=S_api_Id.cs a.f_Id from rfl,show List.take 2 (S_api_Id.cs b.f_Id)=S_api_Id.cs b.f_Id from rfl,e87,q2,q9,Result.andThen]
  by_cases h0:(a.f_Series.toList=b.f_Series.toList) <;> by_cases h1:(a.f_T=b.f_T) <;> by_cases h2:(a.f_V=b.f_V) <;> by_cases h3:(a.f_Id.f_N=b.f_Id.f_N) <;> by_cases h4:(a.f_Id.f_Node=b.f_Id.f_Node) <;> simp [h0,h1,h2,h3,h4]
open Go.RowKit in
theorem eqI116 (a b:S_api_Wide) (w:World):(Op.equalIn (9998 + 1) 116 (.agg (S_api_Wide.cs a).toArray) (.agg (S_api_Wide.cs b).toArray)).run Go.Proofs.Tryz.prog w = .ok ((a.f_Hi == b.f_Hi) && (a.f_Lo == b.f_Lo)) w:=by
  have hS:Go.Proofs.Tryz.prog.underlying 116=some (.struct (Go.Proofs.Tryz.prog.fieldsOf 116)):=by kernel_rfl
  have hp:Go.Proofs.Tryz.prog.stoodInHeld 116=false:=by kernel_rfl
  have u2:=Go.Proofs.Tryz.underlying2
  have a2:∀ w,(isAgg 2).run Go.Proofs.Tryz.prog w = .ok false w:=Go.Proofs.Tryz.isAgg2
  have u25:=Go.Proofs.Tryz.underlying25
  have a25:∀ w,(isAgg 25).run Go.Proofs.Tryz.prog w = .ok false w:=Go.Proofs.Tryz.isAgg25
  rw [run_equalIn_struct w 9998 116 _ _ hS hp]
  simp only [Program.fieldsOf,Go.Proofs.Tryz.underlying116,S_api_Wide.cs]
  go_simp
  by_cases h0:(a.f_Hi=b.f_Hi) <;> by_cases h1:(a.f_Lo=b.f_Lo) <;> simp [h0,h1]
open Go.RowKit in
theorem eqv118_S_api_Row (a b:S_api_Row) (w:World):(Op.equal 118 (.agg (S_api_Row.cs a).toArray) (.agg (S_api_Row.cs b).toArray)).run Go.Proofs.Tryz.prog w = .ok ((a.f_Series.toList == b.f_Series.toList) && (a.f_T == b.f_T) && ((a.f_W.f_Hi == b.f_W.f_Hi) && (a.f_W.f_Lo == b.f_W.f_Lo))) w:=by
  have hS:Go.Proofs.Tryz.prog.underlying 118=some (.struct (Go.Proofs.Tryz.prog.fieldsOf 118)):=by kernel_rfl
  have hp:Go.Proofs.Tryz.prog.stoodInHeld 118=false:=by kernel_rfl
  have e116:=eqI116 a.f_W b.f_W
  have n116:∀ w,(isAgg 116).run Go.Proofs.Tryz.prog w = .ok true w:=Go.Proofs.Tryz.isAgg116
  have s116:Go.Proofs.Tryz.prog.cellsOf 116=2:=by kernel_rfl
  have u2:=Go.Proofs.Tryz.underlying2
  have a2:∀ w,(isAgg 2).run Go.Proofs.Tryz.prog w = .ok false w:=Go.Proofs.Tryz.isAgg2
  have u9:=Go.Proofs.Tryz.underlying9
  have a9:∀ w,(isAgg 9).run Go.Proofs.Tryz.prog w = .ok false w:=Go.Proofs.Tryz.isAgg9
  have q2:∀ (x y:Int) w,(Op.equalIn (9998 + 1) 2 (.int .i64 x) (.int .i64 y)).run Go.Proofs.Tryz.prog w = .ok (x == y) w:=fun x y w=>by go_simp
  have q9:∀ (x y:ByteArray) w,(Op.equalIn (9998 + 1) 9 (.string x) (.string y)).run Go.Proofs.Tryz.prog w = .ok (x.toList == y.toList) w:=fun x y w=>by go_simp
  unfold Op.equal Op.maxDepth
  rw [show (10000:Nat)=(9998 + 1) + 1 from rfl,run_equalIn_struct w (9998 + 1) 118 _ _ hS hp]
  simp only [Program.fieldsOf,Go.Proofs.Tryz.underlying118,S_api_Row.cs]
  generalize 9998 + 1=N at e116 q2 q9 ⊢
  go_simp
  simp only [show List.take 2 (S_api_Wide.cs a.f_W)=S_api_Wide.cs a.f_W from rfl,show List.take 2 (S_api_Wide.cs b.f_W)=S_api_Wide.cs b.f_W from rfl,e116,q2,q9,Result.andThen]
  by_cases h0:(a.f_Series.toList=b.f_Series.toList) <;> by_cases h1:(a.f_T=b.f_T) <;> by_cases h2:(a.f_W.f_Hi=b.f_W.f_Hi) <;> by_cases h3:(a.f_W.f_Lo=b.f_W.f_Lo) <;> simp [h0,h1,h2,h3]
/-- slices.Index   int int  -/
def slices_Index_int_int_l1b (t0_1:Slc) (t1_1:Int) (t7_1:Int) (t8_1:Int) (k:(Int)->Heap->Prop) (nx1:(Int)->Heap->Prop) (h_1:Heap):Prop :=
  if (decide (t8_1 < t7_1)) then (∃ a1:Addr,t0_1.a=some a1/\(0:Int)<=t8_1/\t8_1 < (t0_1.len:Int)/\(∃ v2:Int,cellH h_1 (a1.add (t8_1.toNat * 1))=some (.int .i64 v2)/\(if (t1_1 == v2) then (k t8_1 h_1) else (nx1 (IntKind.i64.wrap (t8_1 + 1)) h_1)))) else (∃ x3:Int,x3=(-1)/\(k x3 h_1))
def slices_Index_int_int_l1 (t0_1:Slc) (t1_1:Int) (t7_1:Int) (i8:Int) (k:(Int)->Heap->Prop) (h:Heap):Prop :=
  ∃ (I:Int->Heap->Prop) (μ:Int->Heap->Nat),I i8 h/\∀ (t8_1:Int) (h:Heap),I t8_1 h->slices_Index_int_int_l1b t0_1 t1_1 t7_1 t8_1 k (fun s h'=>I s h'/\μ s h' < μ t8_1 h) h
def slices_Index_int_int (p0:Slc) (p1:Int) (k:(Int)->Heap->Prop) (h:Heap):Prop :=
  slices_Index_int_int_l1 p0 p1 (p0.len:Int) 0 k h
/-- slices.Contains   int int  -/
def slices_Contains_int_int (p0:Slc) (p1:Int) (k:(Bool)->Heap->Prop) (h:Heap):Prop :=
  slices_Index_int_int p0 p1 (fun (r1:Int) h2=>k (decide (r1>=0)) h2) h
/-- slices.Clone   quaestor api.Piece quaestor api.Piece  -/
def slices_Clone_api_Piece_api_Piece (p0:Slc) (k:(Slc)->Heap->Prop) (h:Heap):Prop :=
  if (p0.a.isNone) then (k (⟨none,0,0⟩:Slc) h) else (∃ (b1:Nat) (h2:Heap),b1=h.size/\h2=h.push (.cells ([]).toArray 89)/\(∃ l5:List Value,SlcAt h2 p0 l5/\App 89 5 48 [.string ByteArray.empty,.int .i64 0,.int .i64 0,.int .u64 0,.int .u16 0] h2 (⟨some ⟨b1,0,none⟩,0,0⟩:Slc) p0.len l5 (fun s3 h4=>k s3 h4)))
/-- slices.Clone   int int  -/
def slices_Clone_int_int (p0:Slc) (k:(Slc)->Heap->Prop) (h:Heap):Prop :=
  if (p0.a.isNone) then (k (⟨none,0,0⟩:Slc) h) else (∃ (b1:Nat) (h2:Heap),b1=h.size/\h2=h.push (.cells ([]).toArray 3)/\(∃ l5:List Value,SlcAt h2 p0 l5/\App 3 1 8 [.int .i64 0] h2 (⟨some ⟨b1,0,none⟩,0,0⟩:Slc) p0.len l5 (fun s3 h4=>k s3 h4)))
/-- slices.Clone   quaestor api.Row quaestor api.Row  -/
def slices_Clone_api_Row_api_Row (p0:Slc) (k:(Slc)->Heap->Prop) (h:Heap):Prop :=
  if (p0.a.isNone) then (k (⟨none,0,0⟩:Slc) h) else (∃ (b1:Nat) (h2:Heap),b1=h.size/\h2=h.push (.cells ([]).toArray 118)/\(∃ l5:List Value,SlcAt h2 p0 l5/\App 118 4 40 [.string ByteArray.empty,.int .i64 0,.int .i64 0,.int .u64 0] h2 (⟨some ⟨b1,0,none⟩,0,0⟩:Slc) p0.len l5 (fun s3 h4=>k s3 h4)))
/-- slices.Clone   byte byte  -/
def slices_Clone_byte_byte (p0:Slc) (k:(Slc)->Heap->Prop) (h:Heap):Prop :=
  if (p0.a.isNone) then (k (⟨none,0,0⟩:Slc) h) else (∃ (b1:Nat) (h2:Heap),b1=h.size/\h2=h.push (.cells ([]).toArray 5)/\(∃ l5:List Value,SlcAt h2 p0 l5/\App 5 1 1 [.int .u8 0] h2 (⟨some ⟨b1,0,none⟩,0,0⟩:Slc) p0.len l5 (fun s3 h4=>k s3 h4)))
/-- quaestor quorum.Needs -/
def quorum_Needs (p0:S_api_Op) (k:(Int)->Heap->Prop) (h:Heap):Prop :=
  ∃ (b1:Nat) (h2:Heap),b1=h.size/\h2=h.push (.cells (S_api_Op.cs p0).toArray 39)/\(∃ v3:Int,cellH h2 ((⟨b1,0,none⟩:Addr).add 1)=some (.int .i64 v3)/\(if (v3 == 1) then (∃ v4:Slc,cellH h2 ((⟨b1,0,none⟩:Addr).add 27)=some (Slc.v v4)/\(∃ x5:Int,x5=(if (v4.len:Int) < 2 then (v4.len:Int) else 2)/\(k x5 h2))) else (if (v3 == 2) then (∃ v6:Slc,cellH h2 ((⟨b1,0,none⟩:Addr).add 27)=some (Slc.v v6)/\(∃ x7:Int,x7=(if (IntKind.i64.wrap ((v6.len:Int) - 1)) > 1 then (IntKind.i64.wrap ((v6.len:Int) - 1)) else 1)/\(k x7 h2))) else (if (v3 == 3) then (k 1 h2) else (k 0 h2)))))
/-- quaestor quorum.twice -/
def quorum_twice_l1b (t0_1:Slc) (t5_1:Slc) (t6_1:Int) (t7_1:Int) (k:(Bool)->Heap->Prop) (nx1:(Int)->Heap->Prop) (h_1:Heap):Prop :=
  if (decide (t7_1 < t6_1)) then (∃ a1:Addr,t5_1.a=some a1/\(0:Int)<=t7_1/\t7_1 < (t5_1.len:Int)/\(∃ v2:Int,cellH h_1 (a1.add (t7_1.toNat * 1))=some (.int .i64 v2)/\(∃ s3:Slc,(0:Int)<=0/\(0:Int)<=t7_1/\(t7_1:Int)<=(t0_1.cap:Int)/\(t0_1.cap:Int)<=(t0_1.cap:Int)/\s3=subS t0_1 1 (0:Int).toNat t7_1.toNat (t0_1.cap:Int).toNat/\(slices_Contains_int_int s3 v2 (fun (r4:Bool) h5=>if r4 then (k true h5) else (nx1 (IntKind.i64.wrap (t7_1 + 1)) h5)) h_1)))) else (k false h_1)
def quorum_twice_l1 (t0_1:Slc) (t5_1:Slc) (t6_1:Int) (i7:Int) (k:(Bool)->Heap->Prop) (h:Heap):Prop :=
  ∃ (I:Int->Heap->Prop) (μ:Int->Heap->Nat),I i7 h/\∀ (t7_1:Int) (h:Heap),I t7_1 h->quorum_twice_l1b t0_1 t5_1 t6_1 t7_1 k (fun s h'=>I s h'/\μ s h' < μ t7_1 h) h
def quorum_twice (p0:Slc) (k:(Bool)->Heap->Prop) (h:Heap):Prop :=
  quorum_twice_l1 p0 p0 (p0.len:Int) 0 k h
/-- quaestor quorum.copied -/
def quorum_copied (p0:S_api_Op) (k:(S_api_Op)->Heap->Prop) (h:Heap):Prop :=
  ∃ (b1:Nat) (h2:Heap),b1=h.size/\h2=h.push (.cells (S_api_Op.cs p0).toArray 39)/\(∃ (b3:Nat) (h4:Heap),b3=h2.size/\h4=h2.push (.cells (S_api_Op.cs (⟨0,0,ByteArray.empty,(⟨none,0,0⟩:Slc),(⟨ByteArray.empty,0,0,0,0⟩:S_api_Query),(⟨0,ByteArray.empty,0,([]:List Int),(⟨none,0,0⟩:Slc),0⟩:S_api_Command),0,(⟨none,0,0⟩:Slc),(⟨none,0,0⟩:Slc),0,false,0,(⟨none,0,0⟩:Slc)⟩:S_api_Op)).toArray 39)/\(∃ v5:Slc,cellH h4 ((⟨b1,0,none⟩:Addr).add 3)=some (Slc.v v5)/\(∃ v6:Slc,cellH h4 ((⟨b1,0,none⟩:Addr).add 27)=some (Slc.v v6)/\(∃ v7:Slc,cellH h4 ((⟨b1,0,none⟩:Addr).add 28)=some (Slc.v v7)/\(∃ v8:Slc,cellH h4 ((⟨b1,0,none⟩:Addr).add 32)=some (Slc.v v8)/\(slices_Clone_api_Piece_api_Piece v5 (fun (r9:Slc) h10=>cellH h10 ((⟨b1,0,none⟩:Addr).add 32)=some (Slc.v v8)/\cellH h10 ((⟨b1,0,none⟩:Addr).add 28)=some (Slc.v v7)/\cellH h10 ((⟨b1,0,none⟩:Addr).add 27)=some (Slc.v v6)/\(slices_Clone_int_int v6 (fun (r14:Slc) h15=>cellH h15 ((⟨b1,0,none⟩:Addr).add 32)=some (Slc.v v8)/\cellH h15 ((⟨b1,0,none⟩:Addr).add 28)=some (Slc.v v7)/\(slices_Clone_int_int v7 (fun (r18:Slc) h19=>cellH h19 ((⟨b1,0,none⟩:Addr).add 32)=some (Slc.v v8)/\(slices_Clone_api_Row_api_Row v8 (fun (r21:Slc) h22=>∃ h23:Heap,WrH h22 ((⟨b1,0,none⟩:Addr).add 3)/\h23=setH h22 ((⟨b1,0,none⟩:Addr).add 3) (Slc.v r9)/\(∃ h24:Heap,WrH h23 ((⟨b1,0,none⟩:Addr).add 27)/\h24=setH h23 ((⟨b1,0,none⟩:Addr).add 27) (Slc.v r14)/\(∃ h25:Heap,WrH h24 ((⟨b1,0,none⟩:Addr).add 28)/\h25=setH h24 ((⟨b1,0,none⟩:Addr).add 28) (Slc.v r18)/\(∃ h26:Heap,WrH h25 ((⟨b1,0,none⟩:Addr).add 32)/\h26=setH h25 ((⟨b1,0,none⟩:Addr).add 32) (Slc.v r21)/\(∃ v27:Slc,cellH h26 (((⟨b1,0,none⟩:Addr).add 9).add 15)=some (Slc.v v27)/\(slices_Clone_byte_byte v27 (fun (r28:Slc) h29=>∃ h30:Heap,WrH h29 (((⟨b1,0,none⟩:Addr).add 9).add 15)/\h30=setH h29 (((⟨b1,0,none⟩:Addr).add 9).add 15) (Slc.v r28)/\(∃ v31:S_api_Op,CellsAt h30 (⟨b1,0,none⟩:Addr) (S_api_Op.cs v31)/\(∃ h32:Heap,WrsAt h30 (⟨b3,0,none⟩:Addr) 33/\h32=setsH h30 (⟨b3,0,none⟩:Addr) 0 (S_api_Op.cs v31)/\(∃ v33:S_api_Op,CellsAt h32 (⟨b3,0,none⟩:Addr) (S_api_Op.cs v33)/\k v33 h32)))) h26)))))) h19)) h15)) h10)) h4))))))
/-- quaestor quorum.New -/
def quorum_New (k:(Option Addr)->Heap->Prop) (h:Heap):Prop :=
  ∃ (b1:Nat) (h2:Heap),b1=h.size/\h2=h.push (.map #[] 0)/\(∃ (b3:Nat) (h4:Heap),b3=h2.size/\h4=h2.push (.cells (S_quorum_Desk.cs (⟨(some b1)⟩:S_quorum_Desk)).toArray 63)/\(k (some (⟨b3,0,none⟩:Addr)) h4))
/-- (*quaestor quorum.Desk).Start -/
def quorum_Desk_Start_j4 (t0_4:Option Addr) (t3_4:Addr) (k:(Int)->Heap->Prop) (h_4:Heap):Prop :=
  ∃ a16:Addr,t0_4=some a16/\(∃ v17:Option Nat,cellH h_4 a16=some (.map v17)/\(∃ v18:Int,cellH h_4 t3_4=some (.int .u64 v18)/\(∃ (r19:Nat) (l20:List (Int × Option Addr)) (h21:Heap),v17=some r19/\MapAt (K:=Int) (V:=Option Addr) (.int .u64) (Value.int .u64) (fun v:Option Addr=>(.pointer v:Value)) h_4 (some r19) l20/\h21=setM h_4 r19 ((Value.int .u64) v18) (.pointer (some t3_4))/\(k 0 h21))))
def quorum_Desk_Start_g3 (t0_3:Option Addr) (t3_3:Addr) (t24_3:Bool) (k:(Int)->Heap->Prop) (h_3:Heap):Prop :=
  if t24_3 then (k 1 h_3) else (∃ a3:Addr,t0_3=some a3/\(∃ v4:Option Nat,cellH h_3 a3=some (.map v4)/\(∃ v5:Int,cellH h_3 t3_3=some (.int .u64 v5)/\(∃ l6:List (Int × Option Addr),MapAt (K:=Int) (V:=Option Addr) (.int .u64) (Value.int .u64) (fun v:Option Addr=>(.pointer v:Value)) h_3 v4 l6/\(if (mget l6 v5).isSome then (k 7 h_3) else (∃ v7:S_api_Op,CellsAt h_3 t3_3 (S_api_Op.cs v7)/\(quorum_copied v7 (fun (r8:S_api_Op) h9=>∃ h10:Heap,WrsAt h9 t3_3 33/\h10=setsH h9 t3_3 0 (S_api_Op.cs r8)/\(∃ h11:Heap,WrH h10 (t3_3.add 28)/\h11=setH h10 (t3_3.add 28) (Slc.v (⟨none,0,0⟩:Slc))/\(∃ h12:Heap,WrH h11 (t3_3.add 32)/\h12=setH h11 (t3_3.add 32) (Slc.v (⟨none,0,0⟩:Slc))/\(∃ h13:Heap,WrH h12 (t3_3.add 29)/\h13=setH h12 (t3_3.add 29) (.int .i64 0)/\(∃ h14:Heap,WrH h13 (t3_3.add 30)/\h14=setH h13 (t3_3.add 30) (.bool false)/\(∃ h15:Heap,WrH h14 (t3_3.add 31)/\h15=setH h14 (t3_3.add 31) (.int .i64 0)/\(∃ v22:Int,cellH h15 (t3_3.add 1)=some (.int .i64 v22)/\(if (v22 != 1) then (∃ h23:Heap,WrH h15 (t3_3.add 3)/\h23=setH h15 (t3_3.add 3) (Slc.v (⟨none,0,0⟩:Slc))/\(quorum_Desk_Start_j4 t0_3 t3_3 k h23)) else (quorum_Desk_Start_j4 t0_3 t3_3 k h15))))))))) h_3)))))))
def quorum_Desk_Start_g2 (t0_2:Option Addr) (t3_2:Addr) (t19_2:Bool) (k:(Int)->Heap->Prop) (h_2:Heap):Prop :=
  if t19_2 then (quorum_Desk_Start_g3 t0_2 t3_2 true k h_2) else (∃ v24:Slc,cellH h_2 (t3_2.add 27)=some (Slc.v v24)/\(quorum_twice v24 (fun (r25:Bool) h26=>quorum_Desk_Start_g3 t0_2 t3_2 r25 k h26) h_2))
def quorum_Desk_Start_g1 (t0_1:Option Addr) (t3_1:Addr) (t13_1:Bool) (k:(Int)->Heap->Prop) (h_1:Heap):Prop :=
  if t13_1 then (quorum_Desk_Start_g2 t0_1 t3_1 true k h_1) else (∃ v27:Slc,cellH h_1 (t3_1.add 27)=some (Slc.v v27)/\(quorum_Desk_Start_g2 t0_1 t3_1 ((v27.len:Int) == 0) k h_1))
def quorum_Desk_Start (p0:Option Addr) (p1:S_api_Op) (k:(Int)->Heap->Prop) (h:Heap):Prop :=
  ∃ (b1:Nat) (h2:Heap),b1=h.size/\h2=h.push (.cells (S_api_Op.cs p1).toArray 39)/\(if (p0.isNone) then (quorum_Desk_Start_g1 p0 (⟨b1,0,none⟩:Addr) true k h2) else (∃ v28:S_api_Op,CellsAt h2 (⟨b1,0,none⟩:Addr) (S_api_Op.cs v28)/\(quorum_Needs v28 (fun (r29:Int) h30=>quorum_Desk_Start_g1 p0 (⟨b1,0,none⟩:Addr) (r29 == 0) k h30) h2)))
/-- (*quaestor quorum.Desk).open -/
def quorum_Desk_open_g2 (t21_2:Option Addr) (t37_2:Bool) (k:(Option Addr × Bool)->Heap->Prop) (h_2:Heap):Prop :=
  k (t21_2,t37_2) h_2
def quorum_Desk_open_g1 (t2_1:Int) (t8_1:Option Addr) (t21_1:Option Addr) (t29_1:Bool) (k:(Option Addr × Bool)->Heap->Prop) (h_1:Heap):Prop :=
  if t29_1 then (∃ a4:Addr,t8_1=some a4/\(∃ v5:Slc,cellH h_1 (a4.add 27)=some (Slc.v v5)/\(slices_Contains_int_int v5 t2_1 (fun (r6:Bool) h7=>quorum_Desk_open_g2 t21_1 r6 k h7) h_1))) else (quorum_Desk_open_g2 t21_1 false k h_1)
def quorum_Desk_open (p0:Option Addr) (p1:Int) (p2:Int) (k:(Option Addr × Bool)->Heap->Prop) (h:Heap):Prop :=
  if (p0.isNone) then (k (none,false) h) else (∃ a1:Addr,p0=some a1/\(∃ v2:Option Nat,cellH h a1=some (.map v2)/\(∃ l3:List (Int × Option Addr),MapAt (K:=Int) (V:=Option Addr) (.int .u64) (Value.int .u64) (fun v:Option Addr=>(.pointer v:Value)) h v2 l3/\(if (mget l3 p1).isSome then (∃ a8:Addr,((mget l3 p1).getD none)=some a8/\(∃ v9:Bool,cellH h (a8.add 30)=some (.bool v9)/\(quorum_Desk_open_g1 p2 ((mget l3 p1).getD none) ((mget l3 p1).getD none) (!v9) k h))) else (quorum_Desk_open_g1 p2 ((mget l3 p1).getD none) ((mget l3 p1).getD none) false k h)))))
/-- quaestor quorum.ends -/
def quorum_ends_j2 (t0_2:Int) (t10_2:Bool) (k:(Bool)->Heap->Prop) (h_2:Heap):Prop :=
  if t10_2 then (k false h_2) else (k (t0_2 == 3) h_2)
def quorum_ends_j1 (t0_1:Int) (t5_1:Int) (t6_1:Bool) (k:(Bool)->Heap->Prop) (h_1:Heap):Prop :=
  if t6_1 then (k true h_1) else (if (t5_1 == 0) then (quorum_ends_j2 t0_1 (t5_1 == 0) k h_1) else (if (t5_1 == 18) then (quorum_ends_j2 t0_1 (t5_1 == 18) k h_1) else (if (t5_1 == 14) then (quorum_ends_j2 t0_1 (t5_1 == 14) k h_1) else (if (t5_1 == 11) then (quorum_ends_j2 t0_1 (t5_1 == 11) k h_1) else (quorum_ends_j2 t0_1 (t5_1 == 15) k h_1)))))
def quorum_ends (p0:Int) (p1:Int) (k:(Bool)->Heap->Prop) (h:Heap):Prop :=
  if (p1 == 1) then (quorum_ends_j1 p0 p1 (p1 == 1) k h) else (if (p1 == 3) then (quorum_ends_j1 p0 p1 (p1 == 3) k h) else (quorum_ends_j1 p0 p1 (p1 == 17) k h))
/-- (*quaestor quorum.Desk).No -/
def quorum_Desk_No_g1 (t3_1:Int) (t9_1:Option Addr) (t28_1:Bool) (k:(Bool)->Heap->Prop) (h_1:Heap):Prop :=
  if t28_1 then (k false h_1) else (∃ a3:Addr,t9_1=some a3/\(∃ h4:Heap,WrH h_1 (a3.add 30)/\h4=setH h_1 (a3.add 30) (.bool true)/\(∃ h5:Heap,WrH h4 (a3.add 31)/\h5=setH h4 (a3.add 31) (.int .i64 t3_1)/\(k true h5))))
def quorum_Desk_No (p0:Option Addr) (p1:Int) (p2:Int) (p3:Int) (k:(Bool)->Heap->Prop) (h:Heap):Prop :=
  quorum_Desk_open p0 p1 p2 (fun (r1:Option Addr × Bool) h2=>if (!r1.2) then (quorum_Desk_No_g1 p3 r1.1 true k h2) else (∃ a6:Addr,r1.1=some a6/\(∃ v7:Int,cellH h2 (a6.add 1)=some (.int .i64 v7)/\(quorum_ends v7 p3 (fun (r8:Bool) h9=>quorum_Desk_No_g1 p3 r1.1 (!r8) k h9) h2)))) h
/-- (*quaestor quorum.Desk).Op -/
def quorum_Desk_Op (p0:Option Addr) (p1:Int) (k:(S_api_Op × Int)->Heap->Prop) (h:Heap):Prop :=
  ∃ (b1:Nat) (h2:Heap),b1=h.size/\h2=h.push (.cells (S_api_Op.cs (⟨0,0,ByteArray.empty,(⟨none,0,0⟩:Slc),(⟨ByteArray.empty,0,0,0,0⟩:S_api_Query),(⟨0,ByteArray.empty,0,([]:List Int),(⟨none,0,0⟩:Slc),0⟩:S_api_Command),0,(⟨none,0,0⟩:Slc),(⟨none,0,0⟩:Slc),0,false,0,(⟨none,0,0⟩:Slc)⟩:S_api_Op)).toArray 39)/\(if (p0.isNone) then (∃ h3:Heap,WrsAt h2 (⟨b1,0,none⟩:Addr) 33/\h3=setsH h2 (⟨b1,0,none⟩:Addr) 0 (S_api_Op.cs (⟨0,0,ByteArray.empty,(⟨none,0,0⟩:Slc),(⟨ByteArray.empty,0,0,0,0⟩:S_api_Query),(⟨0,ByteArray.empty,0,([]:List Int),(⟨none,0,0⟩:Slc),0⟩:S_api_Command),0,(⟨none,0,0⟩:Slc),(⟨none,0,0⟩:Slc),0,false,0,(⟨none,0,0⟩:Slc)⟩:S_api_Op))/\(∃ v4:S_api_Op,CellsAt h3 (⟨b1,0,none⟩:Addr) (S_api_Op.cs v4)/\k (v4,6) h3)) else (∃ a5:Addr,p0=some a5/\(∃ v6:Option Nat,cellH h2 a5=some (.map v6)/\(∃ l7:List (Int × Option Addr),MapAt (K:=Int) (V:=Option Addr) (.int .u64) (Value.int .u64) (fun v:Option Addr=>(.pointer v:Value)) h2 v6 l7/\(if (!(mget l7 p1).isSome) then (∃ h8:Heap,WrsAt h2 (⟨b1,0,none⟩:Addr) 33/\h8=setsH h2 (⟨b1,0,none⟩:Addr) 0 (S_api_Op.cs (⟨0,0,ByteArray.empty,(⟨none,0,0⟩:Slc),(⟨ByteArray.empty,0,0,0,0⟩:S_api_Query),(⟨0,ByteArray.empty,0,([]:List Int),(⟨none,0,0⟩:Slc),0⟩:S_api_Command),0,(⟨none,0,0⟩:Slc),(⟨none,0,0⟩:Slc),0,false,0,(⟨none,0,0⟩:Slc)⟩:S_api_Op))/\(∃ v9:S_api_Op,CellsAt h8 (⟨b1,0,none⟩:Addr) (S_api_Op.cs v9)/\k (v9,6) h8)) else (∃ a10:Addr,((mget l7 p1).getD none)=some a10/\(∃ v11:S_api_Op,CellsAt h2 a10 (S_api_Op.cs v11)/\(quorum_copied v11 (fun (r12:S_api_Op) h13=>∃ h14:Heap,WrsAt h13 (⟨b1,0,none⟩:Addr) 33/\h14=setsH h13 (⟨b1,0,none⟩:Addr) 0 (S_api_Op.cs r12)/\(∃ v15:S_api_Op,CellsAt h14 (⟨b1,0,none⟩:Addr) (S_api_Op.cs v15)/\k (v15,0) h14)) h2))))))))
/-- (*quaestor quorum.Desk).Result -/
def quorum_Desk_Result_g1 (t4_1:Addr) (t6_1:Addr) (t7_1:Int) (t20_1:Bool) (k:(S_api_Op × Int)->Heap->Prop) (h_1:Heap):Prop :=
  if t20_1 then (∃ h8:Heap,WrsAt h_1 t4_1 33/\h8=setsH h_1 t4_1 0 (S_api_Op.cs (⟨0,0,ByteArray.empty,(⟨none,0,0⟩:Slc),(⟨ByteArray.empty,0,0,0,0⟩:S_api_Query),(⟨0,ByteArray.empty,0,([]:List Int),(⟨none,0,0⟩:Slc),0⟩:S_api_Command),0,(⟨none,0,0⟩:Slc),(⟨none,0,0⟩:Slc),0,false,0,(⟨none,0,0⟩:Slc)⟩:S_api_Op))/\(∃ v9:S_api_Op,CellsAt h8 t4_1 (S_api_Op.cs v9)/\k (v9,14) h8)) else (∃ v10:S_api_Op,CellsAt h_1 t6_1 (S_api_Op.cs v10)/\(∃ h11:Heap,WrsAt h_1 t4_1 33/\h11=setsH h_1 t4_1 0 (S_api_Op.cs v10)/\(∃ v12:S_api_Op,CellsAt h11 t4_1 (S_api_Op.cs v12)/\k (v12,t7_1) h11)))
def quorum_Desk_Result (p0:Option Addr) (p1:Int) (k:(S_api_Op × Int)->Heap->Prop) (h:Heap):Prop :=
  ∃ (b1:Nat) (h2:Heap),b1=h.size/\h2=h.push (.cells (S_api_Op.cs (⟨0,0,ByteArray.empty,(⟨none,0,0⟩:Slc),(⟨ByteArray.empty,0,0,0,0⟩:S_api_Query),(⟨0,ByteArray.empty,0,([]:List Int),(⟨none,0,0⟩:Slc),0⟩:S_api_Command),0,(⟨none,0,0⟩:Slc),(⟨none,0,0⟩:Slc),0,false,0,(⟨none,0,0⟩:Slc)⟩:S_api_Op)).toArray 39)/\(quorum_Desk_Op p0 p1 (fun (r3:S_api_Op × Int) h4=>∃ (b5:Nat) (h6:Heap),b5=h4.size/\h6=h4.push (.cells (S_api_Op.cs (⟨0,0,ByteArray.empty,(⟨none,0,0⟩:Slc),(⟨ByteArray.empty,0,0,0,0⟩:S_api_Query),(⟨0,ByteArray.empty,0,([]:List Int),(⟨none,0,0⟩:Slc),0⟩:S_api_Command),0,(⟨none,0,0⟩:Slc),(⟨none,0,0⟩:Slc),0,false,0,(⟨none,0,0⟩:Slc)⟩:S_api_Op)).toArray 39)/\(∃ h7:Heap,WrsAt h6 (⟨b5,0,none⟩:Addr) 33/\h7=setsH h6 (⟨b5,0,none⟩:Addr) 0 (S_api_Op.cs r3.1)/\(if (r3.2 == 0) then (∃ v13:Bool,cellH h7 ((⟨b5,0,none⟩:Addr).add 30)=some (.bool v13)/\(quorum_Desk_Result_g1 (⟨b1,0,none⟩:Addr) (⟨b5,0,none⟩:Addr) r3.2 (!v13) k h7)) else (quorum_Desk_Result_g1 (⟨b1,0,none⟩:Addr) (⟨b5,0,none⟩:Addr) r3.2 false k h7)))) h2)
/-- quaestor quaestorref13.Great -/
def ref13_Great_l1b (t0_1:Slc) (t1_1:Int) (t5_1:Int) (k:(Bool)->Heap->Prop) (nx1:(Int)->Heap->Prop) (h_1:Heap):Prop :=
  if ((decide (t5_1 < (t0_1.len:Int))) && (decide (t5_1 < t1_1))) then (∃ a1:Addr,t0_1.a=some a1/\(0:Int)<=t5_1/\t5_1 < (t0_1.len:Int)/\(∃ v2:ByteArray,cellH h_1 (a1.add (t5_1.toNat * 5))=some (.string v2)/\(if (decide ((v2.size:Int) > 400)) then (k true h_1) else (∃ x3:Int,x3=(IntKind.i64.wrap (t5_1 + 1))/\(nx1 x3 h_1))))) else (k (decide ((t0_1.len:Int) > t1_1)) h_1)
def ref13_Great_l1 (t0_1:Slc) (t1_1:Int) (i5:Int) (k:(Bool)->Heap->Prop) (h:Heap):Prop :=
  ∃ (I:Int->Heap->Prop) (μ:Int->Heap->Nat),I i5 h/\∀ (t5_1:Int) (h:Heap),I t5_1 h->ref13_Great_l1b t0_1 t1_1 t5_1 k (fun s h'=>I s h'/\μ s h' < μ t5_1 h) h
def ref13_Great (p0:Slc) (p1:Int) (k:(Bool)->Heap->Prop) (h:Heap):Prop :=
  ref13_Great_l1 p0 p1 0 k h
/-- quaestor quaestorlaw31.great -/
def law31_great_g3 (t26_3:Bool) (k:(Bool)->Heap->Prop) (h_3:Heap):Prop :=
  k t26_3 h_3
def law31_great_g2 (t1_2:Addr) (t18_2:Bool) (k:(Bool)->Heap->Prop) (h_2:Heap):Prop :=
  if t18_2 then (law31_great_g3 true k h_2) else (∃ v6:ByteArray,cellH h_2 ((t1_2.add 1).add 4)=some (.string v6)/\(law31_great_g3 (decide ((v6.size:Int) > 300)) k h_2))
def law31_great_g1 (t1_1:Addr) (t11_1:Bool) (k:(Bool)->Heap->Prop) (h_1:Heap):Prop :=
  if t11_1 then (law31_great_g2 t1_1 true k h_1) else (∃ v7:Slc,cellH h_1 ((t1_1.add 1).add 27)=some (Slc.v v7)/\(law31_great_g2 t1_1 (decide ((v7.len:Int) > 40)) k h_1))
def law31_great (p0:S_quaestorlaw31_Act) (k:(Bool)->Heap->Prop) (h:Heap):Prop :=
  ∃ (b1:Nat) (h2:Heap),b1=h.size/\h2=h.push (.cells (S_quaestorlaw31_Act.cs p0).toArray 41)/\(∃ v3:Slc,cellH h2 ((⟨b1,0,none⟩:Addr).add 36)=some (Slc.v v3)/\(ref13_Great v3 20 (fun (r4:Bool) h5=>if r4 then (law31_great_g1 (⟨b1,0,none⟩:Addr) true k h5) else (∃ v8:Slc,cellH h5 (((⟨b1,0,none⟩:Addr).add 1).add 3)=some (Slc.v v8)/\(ref13_Great v8 20 (fun (r9:Bool) h10=>law31_great_g1 (⟨b1,0,none⟩:Addr) r9 k h10) h5))) h2))
/-- quaestor quaestorref01.Pick -/
def ref01_Pick_j1 (t5_1:Int) (k:(Int)->Heap->Prop) (h_1:Heap):Prop :=
  k t5_1 h_1
def ref01_Pick (p0:Int) (p1:Int) (k:(Int)->Heap->Prop) (h:Heap):Prop :=
  if (decide (p1 < 1)) then (k 0 h) else (p1≠0/\(∃ x2:Int,x2=(Int.tmod p0 p1)/\(if (decide (x2 < 0)) then (∃ x3:Int,x3=(IntKind.i64.wrap (x2 + p1))/\(ref01_Pick_j1 x3 k h)) else (ref01_Pick_j1 x2 k h))))
/-- quaestor quaestorref13.Same -/
def ref13_Same_l1b (t0_1:Slc) (t1_1:Slc) (t5_1:Int) (k:(Bool)->Heap->Prop) (nx1:(Int)->Heap->Prop) (h_1:Heap):Prop :=
  if (decide (t5_1 < (t0_1.len:Int))) then (∃ a1:Addr,t0_1.a=some a1/\(0:Int)<=t5_1/\t5_1 < (t0_1.len:Int)/\(∃ v2:S_api_Piece,CellsAt h_1 (a1.add (t5_1.toNat * 5)) (S_api_Piece.cs v2)/\(∃ a3:Addr,t1_1.a=some a3/\(0:Int)<=t5_1/\t5_1 < (t1_1.len:Int)/\(∃ v4:S_api_Piece,CellsAt h_1 (a3.add (t5_1.toNat * 5)) (S_api_Piece.cs v4)/\(if (if BinOp.neq = .eql then ((v2.f_Series.toList == v4.f_Series.toList) && (v2.f_T == v4.f_T) && (v2.f_V == v4.f_V) && ((v2.f_Id.f_N == v4.f_Id.f_N) && (v2.f_Id.f_Node == v4.f_Id.f_Node))) else !((v2.f_Series.toList == v4.f_Series.toList) && (v2.f_T == v4.f_T) && (v2.f_V == v4.f_V) && ((v2.f_Id.f_N == v4.f_Id.f_N) && (v2.f_Id.f_Node == v4.f_Id.f_Node)))) then (k false h_1) else (∃ x5:Int,x5=(IntKind.i64.wrap (t5_1 + 1))/\(nx1 x5 h_1))))))) else (k true h_1)
def ref13_Same_l1 (t0_1:Slc) (t1_1:Slc) (i5:Int) (k:(Bool)->Heap->Prop) (h:Heap):Prop :=
  ∃ (I:Int->Heap->Prop) (μ:Int->Heap->Nat),I i5 h/\∀ (t5_1:Int) (h:Heap),I t5_1 h->ref13_Same_l1b t0_1 t1_1 t5_1 k (fun s h'=>I s h'/\μ s h' < μ t5_1 h) h
def ref13_Same (p0:Slc) (p1:Slc) (k:(Bool)->Heap->Prop) (h:Heap):Prop :=
  if ((p0.len:Int) != (p1.len:Int)) then (k false h) else (ref13_Same_l1 p0 p1 0 k h)
/-- quaestor quaestorref18.SameInts -/
def ref18_SameInts_l1b (t0_1:Slc) (t1_1:Slc) (t5_1:Int) (k:(Bool)->Heap->Prop) (nx1:(Int)->Heap->Prop) (h_1:Heap):Prop :=
  if (decide (t5_1 < (t0_1.len:Int))) then (∃ a1:Addr,t0_1.a=some a1/\(0:Int)<=t5_1/\t5_1 < (t0_1.len:Int)/\(∃ v2:Int,cellH h_1 (a1.add (t5_1.toNat * 1))=some (.int .i64 v2)/\(∃ a3:Addr,t1_1.a=some a3/\(0:Int)<=t5_1/\t5_1 < (t1_1.len:Int)/\(∃ v4:Int,cellH h_1 (a3.add (t5_1.toNat * 1))=some (.int .i64 v4)/\(if (v2 != v4) then (k false h_1) else (∃ x5:Int,x5=(IntKind.i64.wrap (t5_1 + 1))/\(nx1 x5 h_1))))))) else (k true h_1)
def ref18_SameInts_l1 (t0_1:Slc) (t1_1:Slc) (i5:Int) (k:(Bool)->Heap->Prop) (h:Heap):Prop :=
  ∃ (I:Int->Heap->Prop) (μ:Int->Heap->Nat),I i5 h/\∀ (t5_1:Int) (h:Heap),I t5_1 h->ref18_SameInts_l1b t0_1 t1_1 t5_1 k (fun s h'=>I s h'/\μ s h' < μ t5_1 h) h
def ref18_SameInts (p0:Slc) (p1:Slc) (k:(Bool)->Heap->Prop) (h:Heap):Prop :=
  if ((p0.len:Int) != (p1.len:Int)) then (k false h) else (ref18_SameInts_l1 p0 p1 0 k h)
/-- quaestor quaestorref19.SameRows -/
def ref19_SameRows_l1b (t0_1:Slc) (t1_1:Slc) (t5_1:Int) (k:(Bool)->Heap->Prop) (nx1:(Int)->Heap->Prop) (h_1:Heap):Prop :=
  if (decide (t5_1 < (t0_1.len:Int))) then (∃ a1:Addr,t0_1.a=some a1/\(0:Int)<=t5_1/\t5_1 < (t0_1.len:Int)/\(∃ v2:S_api_Row,CellsAt h_1 (a1.add (t5_1.toNat * 4)) (S_api_Row.cs v2)/\(∃ a3:Addr,t1_1.a=some a3/\(0:Int)<=t5_1/\t5_1 < (t1_1.len:Int)/\(∃ v4:S_api_Row,CellsAt h_1 (a3.add (t5_1.toNat * 4)) (S_api_Row.cs v4)/\(if (if BinOp.neq = .eql then ((v2.f_Series.toList == v4.f_Series.toList) && (v2.f_T == v4.f_T) && ((v2.f_W.f_Hi == v4.f_W.f_Hi) && (v2.f_W.f_Lo == v4.f_W.f_Lo))) else !((v2.f_Series.toList == v4.f_Series.toList) && (v2.f_T == v4.f_T) && ((v2.f_W.f_Hi == v4.f_W.f_Hi) && (v2.f_W.f_Lo == v4.f_W.f_Lo)))) then (k false h_1) else (∃ x5:Int,x5=(IntKind.i64.wrap (t5_1 + 1))/\(nx1 x5 h_1))))))) else (k true h_1)
def ref19_SameRows_l1 (t0_1:Slc) (t1_1:Slc) (i5:Int) (k:(Bool)->Heap->Prop) (h:Heap):Prop :=
  ∃ (I:Int->Heap->Prop) (μ:Int->Heap->Nat),I i5 h/\∀ (t5_1:Int) (h:Heap),I t5_1 h->ref19_SameRows_l1b t0_1 t1_1 t5_1 k (fun s h'=>I s h'/\μ s h' < μ t5_1 h) h
def ref19_SameRows (p0:Slc) (p1:Slc) (k:(Bool)->Heap->Prop) (h:Heap):Prop :=
  if ((p0.len:Int) != (p1.len:Int)) then (k false h) else (ref19_SameRows_l1 p0 p1 0 k h)
/-- quaestor quaestorref31.Same -/
def ref31_Same_g9 (t72_9:Bool) (k:(Bool)->Heap->Prop) (h_9:Heap):Prop :=
  k t72_9 h_9
def ref31_Same_g8 (t2_8:Addr) (t3_8:Addr) (t65_8:Bool) (k:(Bool)->Heap->Prop) (h_8:Heap):Prop :=
  if t65_8 then (∃ v7:Slc,cellH h_8 (t2_8.add 32)=some (Slc.v v7)/\(∃ v8:Slc,cellH h_8 (t3_8.add 32)=some (Slc.v v8)/\(ref19_SameRows v7 v8 (fun (r9:Bool) h10=>ref31_Same_g9 r9 k h10) h_8))) else (ref31_Same_g9 false k h_8)
def ref31_Same_g7 (t2_7:Addr) (t3_7:Addr) (t58_7:Bool) (k:(Bool)->Heap->Prop) (h_7:Heap):Prop :=
  if t58_7 then (∃ v11:Int,cellH h_7 (t2_7.add 31)=some (.int .i64 v11)/\(∃ v12:Int,cellH h_7 (t3_7.add 31)=some (.int .i64 v12)/\(ref31_Same_g8 t2_7 t3_7 (v11 == v12) k h_7))) else (ref31_Same_g8 t2_7 t3_7 false k h_7)
def ref31_Same_g6 (t2_6:Addr) (t3_6:Addr) (t51_6:Bool) (k:(Bool)->Heap->Prop) (h_6:Heap):Prop :=
  if t51_6 then (∃ v13:Bool,cellH h_6 (t2_6.add 30)=some (.bool v13)/\(∃ v14:Bool,cellH h_6 (t3_6.add 30)=some (.bool v14)/\(ref31_Same_g7 t2_6 t3_6 ((v13 == v14)) k h_6))) else (ref31_Same_g7 t2_6 t3_6 false k h_6)
def ref31_Same_g5 (t2_5:Addr) (t3_5:Addr) (t44_5:Bool) (k:(Bool)->Heap->Prop) (h_5:Heap):Prop :=
  if t44_5 then (∃ v15:Int,cellH h_5 (t2_5.add 29)=some (.int .i64 v15)/\(∃ v16:Int,cellH h_5 (t3_5.add 29)=some (.int .i64 v16)/\(ref31_Same_g6 t2_5 t3_5 (v15 == v16) k h_5))) else (ref31_Same_g6 t2_5 t3_5 false k h_5)
def ref31_Same_g4 (t2_4:Addr) (t3_4:Addr) (t37_4:Bool) (k:(Bool)->Heap->Prop) (h_4:Heap):Prop :=
  if t37_4 then (∃ v17:Slc,cellH h_4 (t2_4.add 28)=some (Slc.v v17)/\(∃ v18:Slc,cellH h_4 (t3_4.add 28)=some (Slc.v v18)/\(ref18_SameInts v17 v18 (fun (r19:Bool) h20=>ref31_Same_g5 t2_4 t3_4 r19 k h20) h_4))) else (ref31_Same_g5 t2_4 t3_4 false k h_4)
def ref31_Same_g3 (t2_3:Addr) (t3_3:Addr) (t30_3:Bool) (k:(Bool)->Heap->Prop) (h_3:Heap):Prop :=
  if t30_3 then (∃ v21:Slc,cellH h_3 (t2_3.add 27)=some (Slc.v v21)/\(∃ v22:Slc,cellH h_3 (t3_3.add 27)=some (Slc.v v22)/\(ref18_SameInts v21 v22 (fun (r23:Bool) h24=>ref31_Same_g4 t2_3 t3_3 r23 k h24) h_3))) else (ref31_Same_g4 t2_3 t3_3 false k h_3)
def ref31_Same_g2 (t2_2:Addr) (t3_2:Addr) (t23_2:Bool) (k:(Bool)->Heap->Prop) (h_2:Heap):Prop :=
  if t23_2 then (∃ v25:Slc,cellH h_2 (t2_2.add 3)=some (Slc.v v25)/\(∃ v26:Slc,cellH h_2 (t3_2.add 3)=some (Slc.v v26)/\(ref13_Same v25 v26 (fun (r27:Bool) h28=>ref31_Same_g3 t2_2 t3_2 r27 k h28) h_2))) else (ref31_Same_g3 t2_2 t3_2 false k h_2)
def ref31_Same_g1 (t2_1:Addr) (t3_1:Addr) (t16_1:Bool) (k:(Bool)->Heap->Prop) (h_1:Heap):Prop :=
  if t16_1 then (∃ v29:ByteArray,cellH h_1 (t2_1.add 2)=some (.string v29)/\(∃ v30:ByteArray,cellH h_1 (t3_1.add 2)=some (.string v30)/\(ref31_Same_g2 t2_1 t3_1 (v29.toList == v30.toList) k h_1))) else (ref31_Same_g2 t2_1 t3_1 false k h_1)
def ref31_Same (p0:S_api_Op) (p1:S_api_Op) (k:(Bool)->Heap->Prop) (h:Heap):Prop :=
  ∃ (b1:Nat) (h2:Heap),b1=h.size/\h2=h.push (.cells (S_api_Op.cs p0).toArray 39)/\(∃ (b3:Nat) (h4:Heap),b3=h2.size/\h4=h2.push (.cells (S_api_Op.cs p1).toArray 39)/\(∃ v5:Int,cellH h4 (⟨b1,0,none⟩:Addr)=some (.int .u64 v5)/\(∃ v6:Int,cellH h4 (⟨b3,0,none⟩:Addr)=some (.int .u64 v6)/\(if (v5 == v6) then (∃ v31:Int,cellH h4 ((⟨b1,0,none⟩:Addr).add 1)=some (.int .i64 v31)/\(∃ v32:Int,cellH h4 ((⟨b3,0,none⟩:Addr).add 1)=some (.int .i64 v32)/\(ref31_Same_g1 (⟨b1,0,none⟩:Addr) (⟨b3,0,none⟩:Addr) (v31 == v32) k h4))) else (ref31_Same_g1 (⟨b1,0,none⟩:Addr) (⟨b3,0,none⟩:Addr) false k h4)))))
theorem O41:CallOk prog 41:=ck func41
theorem R41 (p0 p1 k h) (H:slices_Index_int_int p0 p1 k h):CallsH prog 41 #[Slc.v p0,.int .i64 p1] h (fun v h'=>∃ r:Int,v = .int .i64 r/\k r h'):=by
 refine fE func41 fun w0=>?_
 refine zF [0,1] (zQ ?_)
 refine w1 tok (zE (zS (zQ ?_)))
 refine w3 tok (zE (zB ?_))
 obtain ⟨I1,μ1,H0,HI⟩:=H
 refine zO (σ:=Int) [0,1,7] (fun (s:Int)=>[(8,.int .i64 s)]) I1 μ1 0 H0 ?_
 rintro t8_1 h_1 H
 replace H:=HI t8_1 h_1 H
 refine zF [8,0,1,7] (zQ ?_)
 refine w1 tok (zE (zS ?_))
 refine zI H ?_ ?_ <;> intro H
 refine zK (zX (zS (zB (zQ (w2 tok (zE (zQ ?_)))))))
 refine w3 tok ?_
 refine wD tok H fun a1 _ H=>?_
 refine wL tok H fun v2 H=>?_
 refine w1 tok (zE (zF [8,0,1,7,5,16] ?_))
 refine zI H ?_ ?_ <;> intro H
 refine zQ (w2 tok (zE (zF [4] (zT (yB (yT (yT (yB (yT ?_)))))))))
 exact x_ret _ rfl _ rfl ⟨t8_1,rfl,H⟩
 refine zK (yL (zX (zR (w2 tok (zW ?_)))))
 exact xJ (IntKind.i64.wrap (t8_1 + 1)) H
 refine zY (yE (yE (yH (zX (zQ ?_)))))
 obtain ⟨x3,ex3,H⟩:=H
 refine w_pe tok rfl (congrArg (fun z=>(.int .i64 z:Value)) ex3) rfl rfl ?_
 refine zE (zT ?_)
 exact x_ret _ rfl _ rfl ⟨x3,rfl,H⟩
theorem O28:CallOk prog 28:=ck func28
theorem R28 (p0 p1 k h) (H:slices_Contains_int_int p0 p1 k h):CallsH prog 28 #[Slc.v p0,.int .i64 p1] h (fun v h'=>∃ r:Bool,v = .bool r/\k r h'):=by
 refine fE func28 fun w0=>?_
 refine zF [0,1] (zQ ?_)
 refine w1 tok (zE (zQ ?_))
 refine w2 tok ?_
 refine wC O41 (R41 _ _ _ _ H) fun r1 h2 H=>?_
 refine w2 tok (zE (zT ?_))
 exact x_ret _ rfl _ rfl ⟨(decide (r1>=0)),rfl,H⟩
theorem O54:CallOk prog 54:=ck func54
theorem R54 (p0 k h) (H:slices_Clone_api_Piece_api_Piece p0 k h):CallsH prog 54 #[Slc.v p0] h (fun v h'=>∃ r:Slc,v=Slc.v r/\k r h'):=by
 refine fE func54 fun w0=>?_
 refine zF [0] (zQ ?_)
 refine w1 tok (zE (zS (zQ ?_)))
 refine w2 tok (zE ?_)
 refine zI H ?_ ?_ <;> intro H
 refine zQ (w1 tok (zE (zT (yT ?_))))
 exact x_ret _ rfl _ rfl ⟨(⟨none,0,0⟩:Slc),rfl,H⟩
 refine zK (zX (zQ ?_))
 obtain ⟨b1,h2,eb1,eh2,H⟩:=H
 refine wH (h_bs tok rfl rfl rfl rfl rfl rfl rfl eb1 eh2) ?_
 refine w1 tok ?_
 obtain ⟨l5,hl5,H⟩:=H
 refine wA (a_app (s:=(⟨some ⟨b1,0,none⟩,0,0⟩:Slc)) (r:=p0) tok rfl rfl rfl rfl rfl hl5 H) ?_
 rintro _ h4 ⟨s3,rfl,H⟩
 refine w1 tok (zE (zT ?_))
 exact x_ret _ rfl _ rfl ⟨s3,rfl,H⟩
theorem O55:CallOk prog 55:=ck func55
theorem R55 (p0 k h) (H:slices_Clone_int_int p0 k h):CallsH prog 55 #[Slc.v p0] h (fun v h'=>∃ r:Slc,v=Slc.v r/\k r h'):=by
 refine fE func55 fun w0=>?_
 refine zF [0] (zQ ?_)
 refine w1 tok (zE (zS (zQ ?_)))
 refine w2 tok (zE ?_)
 refine zI H ?_ ?_ <;> intro H
 refine zQ (w1 tok (zE (zT (yT ?_))))
 exact x_ret _ rfl _ rfl ⟨(⟨none,0,0⟩:Slc),rfl,H⟩
 refine zK (zX (zQ ?_))
 obtain ⟨b1,h2,eb1,eh2,H⟩:=H
 refine wH (h_bs tok rfl rfl rfl rfl rfl rfl rfl eb1 eh2) ?_
 refine w1 tok ?_
 obtain ⟨l5,hl5,H⟩:=H
 refine wA (a_app (s:=(⟨some ⟨b1,0,none⟩,0,0⟩:Slc)) (r:=p0) tok rfl rfl rfl rfl rfl hl5 H) ?_
 rintro _ h4 ⟨s3,rfl,H⟩
 refine w1 tok (zE (zT ?_))
 exact x_ret _ rfl _ rfl ⟨s3,rfl,H⟩
theorem O56:CallOk prog 56:=ck func56
theorem R56 (p0 k h) (H:slices_Clone_api_Row_api_Row p0 k h):CallsH prog 56 #[Slc.v p0] h (fun v h'=>∃ r:Slc,v=Slc.v r/\k r h'):=by
 refine fE func56 fun w0=>?_
 refine zF [0] (zQ ?_)
 refine w1 tok (zE (zS (zQ ?_)))
 refine w2 tok (zE ?_)
 refine zI H ?_ ?_ <;> intro H
 refine zQ (w1 tok (zE (zT (yT ?_))))
 exact x_ret _ rfl _ rfl ⟨(⟨none,0,0⟩:Slc),rfl,H⟩
 refine zK (zX (zQ ?_))
 obtain ⟨b1,h2,eb1,eh2,H⟩:=H
 refine wH (h_bs tok rfl rfl rfl rfl rfl rfl rfl eb1 eh2) ?_
 refine w1 tok ?_
 obtain ⟨l5,hl5,H⟩:=H
 refine wA (a_app (s:=(⟨some ⟨b1,0,none⟩,0,0⟩:Slc)) (r:=p0) tok rfl rfl rfl rfl rfl hl5 H) ?_
 rintro _ h4 ⟨s3,rfl,H⟩
 refine w1 tok (zE (zT ?_))
 exact x_ret _ rfl _ rfl ⟨s3,rfl,H⟩
theorem O57:CallOk prog 57:=ck func57
theorem R57 (p0 k h) (H:slices_Clone_byte_byte p0 k h):CallsH prog 57 #[Slc.v p0] h (fun v h'=>∃ r:Slc,v=Slc.v r/\k r h'):=by
 refine fE func57 fun w0=>?_
 refine zF [0] (zQ ?_)
 refine w1 tok (zE (zS (zQ ?_)))
 refine w2 tok (zE ?_)
 refine zI H ?_ ?_ <;> intro H
 refine zQ (w1 tok (zE (zT (yT ?_))))
 exact x_ret _ rfl _ rfl ⟨(⟨none,0,0⟩:Slc),rfl,H⟩
 refine zK (zX (zQ ?_))
 obtain ⟨b1,h2,eb1,eh2,H⟩:=H
 refine wH (h_bs tok rfl rfl rfl rfl rfl rfl rfl eb1 eh2) ?_
 refine w1 tok ?_
 obtain ⟨l5,hl5,H⟩:=H
 refine wA (a_app (s:=(⟨some ⟨b1,0,none⟩,0,0⟩:Slc)) (r:=p0) tok rfl rfl rfl rfl rfl hl5 H) ?_
 rintro _ h4 ⟨s3,rfl,H⟩
 refine w1 tok (zE (zT ?_))
 exact x_ret _ rfl _ rfl ⟨s3,rfl,H⟩
theorem O19:CallOk prog 19:=ck func19
theorem R19 (p0 k h) (H:quorum_Needs p0 k h):CallsH prog 19 #[.agg (S_api_Op.cs p0).toArray] h (fun v h'=>∃ r:Int,v = .int .i64 r/\k r h'):=by
 refine fE func19 fun w0=>?_
 refine zF [0] (zQ ?_)
 refine wX H fun b1 h2 H=>?_
 refine w1 tok (zE (zS (zQ ?_)))
 refine w1 tok ?_
 refine wL tok H fun v3 H=>?_
 refine zE (zB (zQ (w2 tok (zE ?_))))
 refine zI H ?_ ?_ <;> intro H
 refine zQ (w1 tok ?_)
 refine wL tok H fun v4 H=>?_
 refine w2 tok ?_
 obtain ⟨x5,ex5,H⟩:=H
 refine w_pe tok rfl (congrArg (fun z=>(.int .i64 z:Value)) ex5) rfl rfl ?_
 refine zE (zF [2] (zT (yB (yT ?_))))
 exact x_ret _ rfl _ rfl ⟨x5,rfl,H⟩
 refine zQ (w2 tok (zE ?_))
 refine zI H ?_ ?_ <;> intro H
 refine zQ (w1 tok ?_)
 refine wL tok H fun v6 H=>?_
 refine w3 tok ?_
 obtain ⟨x7,ex7,H⟩:=H
 refine w_pe tok rfl (congrArg (fun z=>(.int .i64 z:Value)) ex7) rfl rfl ?_
 refine zE (zF [2] (zT (yB (yT ?_))))
 exact x_ret _ rfl _ rfl ⟨x7,rfl,H⟩
 refine zQ (w2 tok (zE (zF [18] ?_)))
 refine zI H ?_ ?_ <;> intro H
 refine zQ (w1 tok (zE (zT (yB (yT ?_)))))
 exact x_ret _ rfl _ rfl ⟨1,rfl,H⟩
 refine zK (yL (zX (zQ (w1 tok (zE (zT ?_))))))
 exact x_ret _ rfl _ rfl ⟨0,rfl,H⟩
theorem O33:CallOk prog 33:=ck func33
theorem R33 (p0 k h) (H:quorum_twice p0 k h):CallsH prog 33 #[Slc.v p0] h (fun v h'=>∃ r:Bool,v = .bool r/\k r h'):=by
 refine fE func33 fun w0=>?_
 refine zF [0] (zQ ?_)
 refine w1 tok (zE (zS (zQ ?_)))
 refine w3 tok (zE (zB ?_))
 obtain ⟨I1,μ1,H0,HI⟩:=H
 refine zO (σ:=Int) [0,5,6] (fun (s:Int)=>[(7,.int .i64 s)]) I1 μ1 0 H0 ?_
 rintro t7_1 h_1 H
 replace H:=HI t7_1 h_1 H
 refine zF [7,0,5,6] (zQ ?_)
 refine w1 tok (zE (zS ?_))
 refine zI H ?_ ?_ <;> intro H
 refine zK (zX (zS (zB (zQ (w1 tok ?_)))))
 refine wD tok H fun a1 _ H=>?_
 refine wL tok H fun v2 H=>?_
 refine w2 tok (zE (zQ ?_))
 refine w2 tok ?_
 obtain ⟨s3,ps3,qs3,rs3,ts3,es3,H⟩:=H
 refine wYe (y_sl (s:=p0) (L:=0) (H:=t7_1) (M:=(p0.cap:Int)) tok rfl rfl rfl rfl rfl rfl rfl (by simp) ps3 qs3 rs3 ts3) (congrArg Slc.v es3) ?_
 refine w1 tok ?_
 refine wC O28 (R28 _ _ _ _ H) fun r4 h5 H=>?_
 refine zE (zF [7,0,5,6,16] ?_)
 refine zI H ?_ ?_ <;> intro H
 refine zQ (w1 tok (zE (zT (yB (yT (yT (yB (yT ?_))))))))
 exact x_ret _ rfl _ rfl ⟨true,rfl,H⟩
 refine zK (yL (zX (zR (w2 tok (zW ?_)))))
 exact xJ (IntKind.i64.wrap (t7_1 + 1)) H
 refine zY (yE (yE (yH (zX (zQ (w1 tok (zE (zT ?_))))))))
 exact x_ret _ rfl _ rfl ⟨false,rfl,H⟩
theorem O34:CallOk prog 34:=ck func34
theorem R34 (p0 k h) (H:quorum_copied p0 k h):CallsH prog 34 #[.agg (S_api_Op.cs p0).toArray] h (fun v h'=>∃ r:S_api_Op,v = .agg (S_api_Op.cs r).toArray/\k r h'):=by
 refine fE func34 fun w0=>?_
 refine zF [0] (zQ ?_)
 refine wX H fun b1 h2 H=>?_
 refine wB tok H fun b3 h4 H=>?_
 refine zE (zS ?_)
 refine gB [1,2] ?_
 refine gT 0 [1] tok ?_
 obtain ⟨v5,hv5,H⟩:=H
 refine gL 1 [3] rfl (y_ld tok rfl rfl rfl rfl hv5) ?_
 refine gT 3 [1] tok ?_
 obtain ⟨v6,hv6,H⟩:=H
 refine gL 4 [6] rfl (y_ld tok rfl rfl rfl rfl hv6) ?_
 refine gT 6 [1] tok ?_
 obtain ⟨v7,hv7,H⟩:=H
 refine gL 7 [9] rfl (y_ld tok rfl rfl rfl rfl hv7) ?_
 refine gT 9 [1] tok ?_
 obtain ⟨v8,hv8,H⟩:=H
 refine gL 10 [12] rfl (y_ld tok rfl rfl rfl rfl hv8) ?_
 refine gCr 2 [4] O54 (R54 _ _ _ H) fun r9 h10 H=>?_
 obtain ⟨hy11,hy12,hy13,H⟩:=H
 refine gR rfl (y_ld tok rfl rfl rfl rfl hy11) ?_
 refine gR rfl (y_ld tok rfl rfl rfl rfl hy12) ?_
 refine gR rfl (y_ld tok rfl rfl rfl rfl hy13) ?_
 refine gZ0 ?_
 refine gT 12 [1] tok ?_
 refine gCr 5 [7] O55 (R55 _ _ _ H) fun r14 h15 H=>?_
 obtain ⟨hy16,hy17,H⟩:=H
 refine gR rfl (y_ld tok rfl rfl rfl rfl hy16) ?_
 refine gR rfl (y_ld tok rfl rfl rfl rfl hy17) ?_
 refine gZ0 ?_
 refine gCr 8 [10] O55 (R55 _ _ _ H) fun r18 h19 H=>?_
 obtain ⟨hy20,H⟩:=H
 refine gR rfl (y_ld tok rfl rfl rfl rfl hy20) ?_
 refine gZ0 ?_
 refine gC 11 [13] O56 (R56 _ _ _ H) fun r21 h22 H=>?_
 obtain ⟨h23,wh23,eh23,H⟩:=H
 refine gH 13 [5,15] rfl (h_st tok rfl rfl rfl rfl rfl rfl wh23 eh23) ?_
 refine gT 14 [1] tok ?_
 obtain ⟨h24,wh24,eh24,H⟩:=H
 refine gH 15 [8,16] rfl (h_st tok rfl rfl rfl rfl rfl rfl wh24 eh24) ?_
 refine gT 16 [1] tok ?_
 obtain ⟨h25,wh25,eh25,H⟩:=H
 refine gH 17 [11,17] rfl (h_st tok rfl rfl rfl rfl rfl rfl wh25 eh25) ?_
 refine gT 18 [1] tok ?_
 obtain ⟨h26,wh26,eh26,H⟩:=H
 refine gH 19 [14,18] rfl (h_st tok rfl rfl rfl rfl rfl rfl wh26 eh26) ?_
 refine gZ ?_
 refine zX (zF [1,2] (zQ ?_))
 refine w2 tok ?_
 refine wL tok H fun v27 H=>?_
 refine wC O57 (R57 _ _ _ H) fun r28 h29 H=>?_
 refine w2 tok ?_
 refine wT tok H fun h30 H=>?_
 refine zE (zQ ?_)
 refine wLa tok H fun v31 H=>?_
 refine wTa tok H fun h32 H=>?_
 refine zE (zF [2] (zT ?_))
 obtain ⟨v33,hv33,H⟩:=H
 exact x_retc tok _ rfl [.agg (S_api_Op.cs v33).toArray] ⟨⟨_,_,rfl,rfl,.inr ⟨rfl,_,rfl,rfl,hv33⟩⟩,trivial⟩ ⟨v33,rfl,H⟩
theorem O5:CallOk prog 5:=ck func5
theorem R5 ( k h) (H:quorum_New k h):CallsH prog 5 #[] h (fun v h'=>∃ r:Option Addr,v = .pointer r/\k r h'):=by
 refine fE func5 fun w0=>?_
 refine zQ (w1 tok (zE (zQ ?_)))
 obtain ⟨b1,h2,eb1,eh2,H⟩:=H
 refine wH (h_mkm rfl eb1 eh2) ?_
 refine wY (y_build tok rfl rfl rfl rfl rfl) ?_
 refine wX H fun b3 h4 H=>?_
 refine w1 tok (zE (zT ?_))
 exact x_ret _ rfl _ rfl ⟨(some (ad b3)),rfl,H⟩
theorem O13:CallOk prog 13:=ck func13
theorem R13 (p0 p1 k h) (H:quorum_Desk_Start p0 p1 k h):CallsH prog 13 #[.pointer p0,.agg (S_api_Op.cs p1).toArray] h (fun v h'=>∃ r:Int,v = .int .i64 r/\k r h'):=by
 refine fE func13 fun w0=>?_
 refine zF [0,1] (zQ ?_)
 refine wX H fun b1 h2 H=>?_
 refine w1 tok (zE (zS (zQ ?_)))
 refine w3 tok ?_
 refine vJ 4 (α:=Bool) [0,3] (fun (s:Bool)=>[(13,.bool s)]) (fun (s:Bool) h=>quorum_Desk_Start_g1 p0 (ad b1) s k h) ?_ ?_
 rintro t13_1 h_1 H
 refine vF [13,0,3] ?_
 refine w1 tok ?_
 refine vJ 5 (α:=Bool) [0,3] (fun (s:Bool)=>[(19,.bool s)]) (fun (s:Bool) h=>quorum_Desk_Start_g2 p0 (ad b1) s k h) ?_ ?_
 rintro t19_2 h_2 H
 refine vF [19,0,3] ?_
 refine w1 tok ?_
 refine vJ 4 (α:=Bool) [0,3] (fun (s:Bool)=>[(24,.bool s)]) (fun (s:Bool) h=>quorum_Desk_Start_g3 p0 (ad b1) s k h) ?_ ?_
 rintro t24_3 h_3 H
 refine vF [24,0,3] (zE ?_)
 refine zI H ?_ ?_ <;> intro H
 refine zQ (w1 tok (zE (zT (yT ?_))))
 exact x_ret _ rfl _ rfl ⟨1,rfl,H⟩
 refine zK (zX (zS (zS ?_)))
 refine c_draw (by kernel_rfl) (by kernel_rfl) ?_
 refine q_p tok rfl rfl rfl ?_
 obtain ⟨a3,ha3,H⟩:=H
 refine q_y (y_nil' rfl rfl ha3) rfl rfl ?_
 refine q_p tok rfl rfl rfl ?_
 obtain ⟨v4,hv4,H⟩:=H
 refine q_y (y_ld tok rfl rfl rfl rfl hv4) rfl rfl ?_
 refine q_p tok rfl rfl rfl ?_
 obtain ⟨v5,hv5,H⟩:=H
 refine q_y (y_ld tok rfl rfl rfl rfl hv5) rfl rfl ?_
 obtain ⟨l6,hl6,H⟩:=H
 refine q_y (y_lk2 (K:=Int) (V:=(Option Addr)) (d:=(.int .u64)) (kf:=(Value.int .u64)) (vf:=(fun v:Option Addr=>(.pointer v:Value))) (kt:=25) (et:=65) (k:=v5) (z:=none) (m:=v4) (l:=l6) rfl rfl rfl (by kernel_rfl) (by kernel_rfl) (kInt .u64) (zero_1 tok (T:=tab) rfl rfl rfl) hl6) rfl rfl ?_
 refine q_p tok rfl rfl rfl ?_
 refine q_p tok rfl rfl rfl ?_
 refine q_p tok rfl rfl rfl ?_
 refine q_p tok rfl rfl rfl ?_
 refine q_p tok rfl rfl rfl ?_
 refine q_end ?_
 refine zX (zF [0,3,6] (zQ ?_))
 refine w1 tok (zE ?_)
 refine zI H ?_ ?_ <;> intro H
 refine zQ (w1 tok (zE (zT (yT ?_))))
 exact x_ret _ rfl _ rfl ⟨7,rfl,H⟩
 refine zK (zX (zQ ?_))
 refine wLa tok H fun v7 H=>?_
 refine wC O34 (R34 _ _ _ H) fun r8 h9 H=>?_
 refine wTa tok H fun h10 H=>?_
 refine zE (zQ (w1 tok ?_))
 refine wT tok H fun h11 H=>?_
 refine w1 tok ?_
 refine wT tok H fun h12 H=>?_
 refine w1 tok ?_
 refine wT tok H fun h13 H=>?_
 refine w1 tok ?_
 refine wT tok H fun h14 H=>?_
 refine w1 tok ?_
 refine wT tok H fun h15 H=>?_
 refine zE (zF [0,3] ?_)
 refine zJ (α:=Unit) [0,3] (fun (s:Unit)=>[]) (fun (s:Unit) h=>quorum_Desk_Start_j4 p0 (ad b1) k h) ?_ ?_
 rintro _ h_4 H
 refine zF [0,3] (zS ?_)
 refine gB [0,3] ?_
 refine gT 0 [0] tok ?_
 obtain ⟨a16,ha16,H⟩:=H
 refine gY 1 [47] rfl (fun _=>y_nil' rfl rfl ha16) ?_
 refine gT 2 [48] tok ?_
 obtain ⟨v17,hv17,H⟩:=H
 refine gL 3 [49] rfl (y_ld tok rfl rfl rfl rfl hv17) ?_
 refine gT 4 [3] tok ?_
 obtain ⟨v18,hv18,H⟩:=H
 refine gL 5 [51] rfl (y_ld tok rfl rfl rfl rfl hv18) ?_
 obtain ⟨r19,l20,h21,er19,hl20,eh21,H⟩:=H
 refine gH 6 [3,50,52] rfl (h_mu (K:=Int) (V:=(Option Addr)) (d:=(.int .u64)) (kf:=(Value.int .u64)) (vf:=(fun v:Option Addr=>(.pointer v:Value))) (kt:=25) (et:=65) (k:=v18) (v:=(some (ad b1))) (m:=v17) (l:=l20) rfl rfl rfl rfl (by kernel_rfl) (by kernel_rfl) (kInt .u64) er19 hl20 eh21) ?_
 refine gZ ?_
 refine zX (zF [] (zQ ?_))
 refine w1 tok (zE (zT ?_))
 exact x_ret _ rfl _ rfl ⟨0,rfl,H⟩
 refine zQ (w1 tok ?_)
 refine wL tok H fun v22 H=>?_
 refine w1 tok (zE ?_)
 refine zI H ?_ ?_ <;> intro H
 refine zR (w1 tok ?_)
 refine wT tok H fun h23 H=>?_
 refine zW ?_
 exact xJ () H
 refine zK ?_
 exact xJ () H
 refine vI 20 H ?_ ?_ <;> intro H
 refine wS (wS (wS (w1 tok ?_)))
 exact wJ true H
 refine w1 tok ?_
 refine wL tok H fun v24 H=>?_
 refine wC O33 (R33 _ _ _ H) fun r25 h26 H=>?_
 refine w1 tok ?_
 exact wJ r25 H
 refine vI 14 H ?_ ?_ <;> intro H
 refine wS (wS (wS (wS (w1 tok ?_))))
 exact wJ true H
 refine w1 tok ?_
 refine wL tok H fun v27 H=>?_
 refine w3 tok ?_
 exact wJ ((v27.len:Int) == 0) H
 refine vI 9 H ?_ ?_ <;> intro H
 refine wS (wS (wS (w1 tok ?_)))
 exact wJ true H
 refine wLa tok H fun v28 H=>?_
 refine wC O19 (R19 _ _ _ H) fun r29 h30 H=>?_
 refine w2 tok ?_
 exact wJ (r29 == 0) H
theorem O27:CallOk prog 27:=ck func27
theorem R27 (p0 p1 p2 k h) (H:quorum_Desk_open p0 p1 p2 k h):CallsH prog 27 #[.pointer p0,.int .u64 p1,.int .i64 p2] h (fun v h'=>∃ r:Option Addr × Bool,v = .tuple #[.pointer r.1,.bool r.2]/\k r h'):=by
 refine fE func27 fun w0=>?_
 refine zF [0,1,2] (zQ ?_)
 refine w2 tok (zE (zS (zQ ?_)))
 refine w2 tok (zE ?_)
 refine zI H ?_ ?_ <;> intro H
 refine zQ (w2 tok (zE (zT (yT ?_))))
 exact x_ret _ rfl _ rfl ⟨(none,false),rfl,H⟩
 refine zK (zX (zQ (w1 tok ?_)))
 refine wN H fun a1 _ H=>?_
 refine w1 tok ?_
 refine wL tok H fun v2 H=>?_
 refine w1 tok ?_
 obtain ⟨l3,hl3,H⟩:=H
 refine wY (y_lk2 (K:=Int) (V:=(Option Addr)) (d:=(.int .u64)) (kf:=(Value.int .u64)) (vf:=(fun v:Option Addr=>(.pointer v:Value))) (kt:=25) (et:=65) (k:=p1) (z:=none) (m:=v2) (l:=l3) rfl rfl rfl (by kernel_rfl) (by kernel_rfl) (kInt .u64) (zero_1 tok (T:=tab) rfl rfl rfl) hl3) ?_
 refine w5 tok (zE (zF [2,8,9] (zQ ?_)))
 refine w3 tok ?_
 refine vJ 6 (α:=Bool) [2,8,21] (fun (s:Bool)=>[(29,.bool s)]) (fun (s:Bool) h=>quorum_Desk_open_g1 p2 ((mget l3 p1).getD none) ((mget l3 p1).getD none) s k h) ?_ ?_
 rintro t29_1 h_1 H
 refine vF [29,2,8,21] ?_
 refine w1 tok ?_
 refine vJ 7 (α:=Bool) [21] (fun (s:Bool)=>[(37,.bool s)]) (fun (s:Bool) h=>quorum_Desk_open_g2 ((mget l3 p1).getD none) s k h) ?_ ?_
 rintro t37_2 h_2 H
 refine vF [37,21] ?_
 refine w2 tok (zE (zT ?_))
 exact x_ret _ rfl _ rfl ⟨(((mget l3 p1).getD none),t37_2),rfl,H⟩
 refine vI 30 H ?_ ?_ <;> intro H
 refine w1 tok ?_
 refine wN H fun a4 _ H=>?_
 refine w1 tok ?_
 refine wL tok H fun v5 H=>?_
 refine w1 tok ?_
 refine wC O28 (R28 _ _ _ _ H) fun r6 h7 H=>?_
 refine w1 tok ?_
 exact wJ r6 H
 refine wS (wS (wS (wS (wS (wS (w1 tok ?_))))))
 exact wJ false H
 refine vI 23 H ?_ ?_ <;> intro H
 refine w1 tok ?_
 refine wN H fun a8 _ H=>?_
 refine w1 tok ?_
 refine wL tok H fun v9 H=>?_
 refine w2 tok ?_
 exact wJ (!v9) H
 refine wS (wS (wS (wS (wS (w1 tok ?_)))))
 exact wJ false H
theorem O31:CallOk prog 31:=ck func31
theorem R31 (p0 p1 k h) (H:quorum_ends p0 p1 k h):CallsH prog 31 #[.int .i64 p0,.int .i64 p1] h (fun v h'=>∃ r:Bool,v = .bool r/\k r h'):=by
 refine fE func31 fun w0=>?_
 refine zF [0,1] (zQ ?_)
 refine w1 tok (zE (zS (zQ ?_)))
 refine w1 tok (zE (zB ?_))
 refine zJ (α:=Bool) [0,5] (fun (s:Bool)=>[(6,.bool s)]) (fun (s:Bool) h=>quorum_ends_j1 p0 p1 s k h) ?_ ?_
 rintro t6_1 h_1 H
 refine zF [6,0,5] ?_
 refine zI H ?_ ?_ <;> intro H
 refine zQ (w1 tok (zE (zT (yB (yT ?_)))))
 exact x_ret _ rfl _ rfl ⟨true,rfl,H⟩
 refine zJ (α:=Bool) [0] (fun (s:Bool)=>[(10,.bool s)]) (fun (s:Bool) h=>quorum_ends_j2 p0 s k h) ?_ ?_
 rintro t10_2 h_2 H
 refine zF [10,0] ?_
 refine zI H ?_ ?_ <;> intro H
 refine zQ (w1 tok (zE (zT (yB (yT ?_)))))
 exact x_ret _ rfl _ rfl ⟨false,rfl,H⟩
 refine zK (yL (zX (zQ (w3 tok (zE (zT ?_))))))
 exact x_ret _ rfl _ rfl ⟨(p0 == 3),rfl,H⟩
 refine zQ (w2 tok (zE ?_))
 refine zI H ?_ ?_ <;> intro H
 refine zK ?_
 exact xJ (p1 == 0) H
 refine zQ (w2 tok (zE ?_))
 refine zI H ?_ ?_ <;> intro H
 refine zK ?_
 exact xJ (p1 == 18) H
 refine zQ (w2 tok (zE ?_))
 refine zI H ?_ ?_ <;> intro H
 refine zK ?_
 exact xJ (p1 == 14) H
 refine zQ (w2 tok (zE ?_))
 refine zI H ?_ ?_ <;> intro H
 refine zK ?_
 exact xJ (p1 == 11) H
 refine zR (w2 tok (zW ?_))
 exact xJ (p1 == 15) H
 refine zQ (w2 tok (zE ?_))
 refine zI H ?_ ?_ <;> intro H
 refine zK ?_
 exact xJ (p1 == 1) H
 refine zQ (w2 tok (zE ?_))
 refine zI H ?_ ?_ <;> intro H
 refine zK ?_
 exact xJ (p1 == 3) H
 refine zR (w2 tok (zW ?_))
 exact xJ (p1 == 17) H
theorem O11:CallOk prog 11:=ck func11
theorem R11 (p0 p1 p2 p3 k h) (H:quorum_Desk_No p0 p1 p2 p3 k h):CallsH prog 11 #[.pointer p0,.int .u64 p1,.int .i64 p2,.int .i64 p3] h (fun v h'=>∃ r:Bool,v = .bool r/\k r h'):=by
 refine fE func11 fun w0=>?_
 refine zF [0,1,2,3] (zQ ?_)
 refine w1 tok (zE (zQ ?_))
 refine w3 tok ?_
 refine wC O27 (R27 _ _ _ _ _ H) fun r1 h2 H=>?_
 refine w5 tok (zE (zF [3,9,10] (zS (zQ ?_))))
 refine w3 tok ?_
 refine vJ 8 (α:=Bool) [3,9] (fun (s:Bool)=>[(28,.bool s)]) (fun (s:Bool) h=>quorum_Desk_No_g1 p3 r1.1 s k h) ?_ ?_
 rintro t28_1 h_1 H
 refine vF [28,3,9] (zE ?_)
 refine zI H ?_ ?_ <;> intro H
 refine zQ (w1 tok (zE (zT (yT ?_))))
 exact x_ret _ rfl _ rfl ⟨false,rfl,H⟩
 refine zK (zX (zQ (w3 tok ?_)))
 refine wN H fun a3 ha3 H=>?_
 refine w1 tok ?_
 refine wT tok H fun h4 H=>?_
 refine wY (y_nil' rfl rfl ha3) ?_
 refine w1 tok ?_
 refine wT tok H fun h5 H=>?_
 refine zE (zF [] (zQ ?_))
 refine w1 tok (zE (zT ?_))
 exact x_ret _ rfl _ rfl ⟨true,rfl,H⟩
 refine vI 20 H ?_ ?_ <;> intro H
 refine wS (wS (wS (wS (wS (wS (wS (w1 tok ?_)))))))
 exact wJ true H
 refine w1 tok ?_
 refine wN H fun a6 _ H=>?_
 refine w1 tok ?_
 refine wL tok H fun v7 H=>?_
 refine w1 tok ?_
 refine wC O31 (R31 _ _ _ _ H) fun r8 h9 H=>?_
 refine w2 tok ?_
 exact wJ (!r8) H
theorem O24:CallOk prog 24:=ck func24
theorem R24 (p0 p1 k h) (H:quorum_Desk_Op p0 p1 k h):CallsH prog 24 #[.pointer p0,.int .u64 p1] h (fun v h'=>∃ r:S_api_Op × Int,v = .tuple #[.agg (S_api_Op.cs r.1).toArray,.int .i64 r.2]/\k r h'):=by
 refine fE func24 fun w0=>?_
 refine zF [0,1] (zQ ?_)
 refine wB tok H fun b1 h2 H=>?_
 refine w1 tok (zE (zS (zQ ?_)))
 refine w2 tok (zE ?_)
 refine zI H ?_ ?_ <;> intro H
 refine zQ ?_
 refine wY (y_build tok rfl rfl rfl rfl rfl) ?_
 refine wTa tok H fun h3 H=>?_
 refine w1 tok (zE (zT (yT ?_)))
 obtain ⟨v4,hv4,H⟩:=H
 exact x_retc tok _ rfl [.agg (S_api_Op.cs v4).toArray,.int .i64 6] ⟨⟨_,_,rfl,rfl,.inr ⟨rfl,_,rfl,rfl,hv4⟩⟩,rfl,trivial⟩ ⟨(v4,6),rfl,H⟩
 refine zK (zX (zQ (w1 tok ?_)))
 refine wN H fun a5 _ H=>?_
 refine w1 tok ?_
 refine wL tok H fun v6 H=>?_
 refine w1 tok ?_
 obtain ⟨l7,hl7,H⟩:=H
 refine wY (y_lk2 (K:=Int) (V:=(Option Addr)) (d:=(.int .u64)) (kf:=(Value.int .u64)) (vf:=(fun v:Option Addr=>(.pointer v:Value))) (kt:=25) (et:=65) (k:=p1) (z:=none) (m:=v6) (l:=l7) rfl rfl rfl (by kernel_rfl) (by kernel_rfl) (kInt .u64) (zero_1 tok (T:=tab) rfl rfl rfl) hl7) ?_
 refine w5 tok (zE (zF [4,6,7] (zS (zQ ?_))))
 refine w2 tok (zE ?_)
 refine zI H ?_ ?_ <;> intro H
 refine zQ ?_
 refine wY (y_build tok rfl rfl rfl rfl rfl) ?_
 refine wTa tok H fun h8 H=>?_
 refine w1 tok (zE (zT (yT ?_)))
 obtain ⟨v9,hv9,H⟩:=H
 exact x_retc tok _ rfl [.agg (S_api_Op.cs v9).toArray,.int .i64 6] ⟨⟨_,_,rfl,rfl,.inr ⟨rfl,_,rfl,rfl,hv9⟩⟩,rfl,trivial⟩ ⟨(v9,6),rfl,H⟩
 refine zK (zX (zQ (w1 tok ?_)))
 refine wN H fun a10 _ H=>?_
 refine wLa tok H fun v11 H=>?_
 refine wC O34 (R34 _ _ _ H) fun r12 h13 H=>?_
 refine wTa tok H fun h14 H=>?_
 refine w1 tok (zE (zF [4,5] (zT ?_)))
 obtain ⟨v15,hv15,H⟩:=H
 exact x_retc tok _ rfl [.agg (S_api_Op.cs v15).toArray,.int .i64 0] ⟨⟨_,_,rfl,rfl,.inr ⟨rfl,_,rfl,rfl,hv15⟩⟩,rfl,trivial⟩ ⟨(v15,0),rfl,H⟩
theorem O8:CallOk prog 8:=ck func8
theorem R8 (p0 p1 k h) (H:quorum_Desk_Result p0 p1 k h):CallsH prog 8 #[.pointer p0,.int .u64 p1] h (fun v h'=>∃ r:S_api_Op × Int,v = .tuple #[.agg (S_api_Op.cs r.1).toArray,.int .i64 r.2]/\k r h'):=by
 refine fE func8 fun w0=>?_
 refine zF [0,1] (zQ ?_)
 refine wB tok H fun b1 h2 H=>?_
 refine w1 tok (zE (zQ ?_))
 refine w2 tok ?_
 refine wC O24 (R24 _ _ _ _ H) fun r3 h4 H=>?_
 refine w3 tok ?_
 refine wB tok H fun b5 h6 H=>?_
 refine wTa tok H fun h7 H=>?_
 refine w1 tok (zE (zF [4,6,7] (zS (zQ ?_))))
 refine w3 tok ?_
 refine vJ 4 (α:=Bool) [4,6,7] (fun (s:Bool)=>[(20,.bool s)]) (fun (s:Bool) h=>quorum_Desk_Result_g1 (ad b1) (ad b5) r3.2 s k h) ?_ ?_
 rintro t20_1 h_1 H
 refine vF [20,4,6,7] (zE ?_)
 refine zI H ?_ ?_ <;> intro H
 refine zQ ?_
 refine wY (y_build tok rfl rfl rfl rfl rfl) ?_
 refine wTa tok H fun h8 H=>?_
 refine w1 tok (zE (zT (yT ?_)))
 obtain ⟨v9,hv9,H⟩:=H
 exact x_retc tok _ rfl [.agg (S_api_Op.cs v9).toArray,.int .i64 14] ⟨⟨_,_,rfl,rfl,.inr ⟨rfl,_,rfl,rfl,hv9⟩⟩,rfl,trivial⟩ ⟨(v9,14),rfl,H⟩
 refine zK (zX (zQ ?_))
 refine wLa tok H fun v10 H=>?_
 refine w1 tok ?_
 refine wTa tok H fun h11 H=>?_
 refine w1 tok (zE (zT ?_))
 obtain ⟨v12,hv12,H⟩:=H
 exact x_retc tok _ rfl [.agg (S_api_Op.cs v12).toArray,.int .i64 r3.2] ⟨⟨_,_,rfl,rfl,.inr ⟨rfl,_,rfl,rfl,hv12⟩⟩,rfl,trivial⟩ ⟨(v12,r3.2),rfl,H⟩
 refine vI 16 H ?_ ?_ <;> intro H
 refine w1 tok ?_
 refine wL tok H fun v13 H=>?_
 refine w2 tok ?_
 exact wJ (!v13) H
 refine wS (wS (wS (w1 tok ?_)))
 exact wJ false H
theorem O26:CallOk prog 26:=ck func26
theorem R26 (p0 p1 k h) (H:ref13_Great p0 p1 k h):CallsH prog 26 #[Slc.v p0,.int .i64 p1] h (fun v h'=>∃ r:Bool,v = .bool r/\k r h'):=by
 refine fE func26 fun w0=>?_
 refine zF [0,1] (zQ ?_)
 refine w1 tok (zE (zS (zQ ?_)))
 refine w1 tok (zE (zB ?_))
 obtain ⟨I1,μ1,H0,HI⟩:=H
 refine zO (σ:=Int) [0,1] (fun (s:Int)=>[(5,.int .i64 s)]) I1 μ1 0 H0 ?_
 rintro t5_1 h_1 H
 replace H:=HI t5_1 h_1 H
 refine zF [5,0,1] (zS (zQ ?_))
 refine w5 tok ?_
 refine vU 4 [0,1,5] [(14,.bool ((decide (t5_1 < (p0.len:Int))) && (decide (t5_1 < p1))))] ?_ ?_
 refine zE ?_
 refine zI H ?_ ?_ <;> intro H
 refine zK (zX (zS (zB (zQ (w2 tok ?_)))))
 refine wD tok H fun a1 _ H=>?_
 refine w1 tok ?_
 refine wL tok H fun v2 H=>?_
 refine w2 tok (zE (zF [0,1,5,23] ?_))
 refine zI H ?_ ?_ <;> intro H
 refine zQ (w1 tok (zE (zT (yB (yT (yT (yB (yT ?_))))))))
 exact x_ret _ rfl _ rfl ⟨true,rfl,H⟩
 refine zK (yL (zX (zR (w2 tok ?_))))
 obtain ⟨x3,ex3,H⟩:=H
 refine w_pe tok rfl (congrArg (fun z=>(.int .i64 z:Value)) ex3) rfl rfl ?_
 refine zW ?_
 exact xJ x3 H
 refine zY (yE (yE (yH (zX (zQ (w5 tok (zE (zF [4] (zT ?_)))))))))
 exact x_ret _ rfl _ rfl ⟨(decide ((p0.len:Int) > p1)),rfl,H⟩
 refine vG (d:=10) (fun hb=>?_) (fun hb=>?_)
 refine w4 tok ?_
 refine vK ?_
 exact congrArg (fun b=>some (Value.bool b)) (and_t hb)
 refine wS (wS (wS (w1 tok ?_)))
 refine vK ?_
 exact congrArg (fun b=>some (Value.bool b)) (and_f hb)
theorem law31_great_ok:CallOk prog 6:=ck func6
theorem law31_great_ref (p0 k h) (H:law31_great p0 k h):CallsH prog 6 #[.agg (S_quaestorlaw31_Act.cs p0).toArray] h (fun v h'=>∃ r:Bool,v = .bool r/\k r h'):=by
 refine fE func6 fun w0=>?_
 refine zF [0] (zQ ?_)
 refine wX H fun b1 h2 H=>?_
 refine w1 tok (zE (zQ ?_))
 refine w1 tok ?_
 refine wL tok H fun v3 H=>?_
 refine wC O26 (R26 _ _ _ _ H) fun r4 h5 H=>?_
 refine w1 tok ?_
 refine vJ 5 (α:=Bool) [1] (fun (s:Bool)=>[(11,.bool s)]) (fun (s:Bool) h=>law31_great_g1 (ad b1) s k h) ?_ ?_
 rintro t11_1 h_1 H
 refine vF [11,1] ?_
 refine w1 tok ?_
 refine vJ 6 (α:=Bool) [1] (fun (s:Bool)=>[(18,.bool s)]) (fun (s:Bool) h=>law31_great_g2 (ad b1) s k h) ?_ ?_
 rintro t18_2 h_2 H
 refine vF [18,1] ?_
 refine w1 tok ?_
 refine vJ 7 (α:=Bool) [] (fun (s:Bool)=>[(26,.bool s)]) (fun (s:Bool) h=>law31_great_g3 s k h) ?_ ?_
 rintro t26_3 h_3 H
 refine vF [26] ?_
 refine w1 tok (zE (zT ?_))
 exact x_ret _ rfl _ rfl ⟨t26_3,rfl,H⟩
 refine vI 19 H ?_ ?_ <;> intro H
 refine wS (wS (wS (wS (wS (wS (w1 tok ?_))))))
 exact wJ true H
 refine w3 tok ?_
 refine wL tok H fun v6 H=>?_
 refine w3 tok ?_
 exact wJ (decide ((v6.size:Int) > 300)) H
 refine vI 12 H ?_ ?_ <;> intro H
 refine wS (wS (wS (wS (wS (w1 tok ?_)))))
 exact wJ true H
 refine w2 tok ?_
 refine wL tok H fun v7 H=>?_
 refine w3 tok ?_
 exact wJ (decide ((v7.len:Int) > 40)) H
 refine vI 6 H ?_ ?_ <;> intro H
 refine wS (wS (wS (wS (w1 tok ?_))))
 exact wJ true H
 refine w2 tok ?_
 refine wL tok H fun v8 H=>?_
 refine wC O26 (R26 _ _ _ _ H) fun r9 h10 H=>?_
 refine w1 tok ?_
 exact wJ r9 H
theorem O9:CallOk prog 9:=ck func9
theorem R9 (p0 p1 k h) (H:ref01_Pick p0 p1 k h):CallsH prog 9 #[.int .i64 p0,.int .i64 p1] h (fun v h'=>∃ r:Int,v = .int .i64 r/\k r h'):=by
 refine fE func9 fun w0=>?_
 refine zF [0,1] (zQ ?_)
 refine w1 tok (zE (zS (zQ ?_)))
 refine w2 tok (zE ?_)
 refine zI H ?_ ?_ <;> intro H
 refine zQ (w1 tok (zE (zT (yT ?_))))
 exact x_ret _ rfl _ rfl ⟨0,rfl,H⟩
 refine zK (zX (zQ (w2 tok ?_)))
 obtain ⟨z1,H⟩:=H
 refine wY (y_rem rfl rfl rfl z1) ?_
 obtain ⟨x2,ex2,H⟩:=H
 refine w_pe tok rfl (congrArg (fun z=>(.int .i64 z:Value)) ex2) rfl rfl ?_
 refine zE (zF [1,5] ?_)
 refine zJ (α:=Int) [] (fun (s:Int)=>[(5,.int .i64 s)]) (fun (s:Int) h=>ref01_Pick_j1 s k h) ?_ ?_
 rintro t5_1 h_1 H
 refine zF [5] (zQ ?_)
 refine w2 tok (zE (zT ?_))
 exact x_ret _ rfl _ rfl ⟨t5_1,rfl,H⟩
 refine zQ (w2 tok (zE ?_))
 refine zI H ?_ ?_ <;> intro H
 refine zR (w3 tok ?_)
 obtain ⟨x3,ex3,H⟩:=H
 refine w_pe tok rfl (congrArg (fun z=>(.int .i64 z:Value)) ex3) rfl rfl ?_
 refine zW ?_
 exact xJ x3 H
 refine zK ?_
 exact xJ x2 H
theorem O35:CallOk prog 35:=ck func35
theorem R35 (p0 p1 k h) (H:ref13_Same p0 p1 k h):CallsH prog 35 #[Slc.v p0,Slc.v p1] h (fun v h'=>∃ r:Bool,v = .bool r/\k r h'):=by
 refine fE func35 fun w0=>?_
 refine zF [0,1] (zQ ?_)
 refine w1 tok (zE (zS (zQ ?_)))
 refine w5 tok (zE ?_)
 refine zI H ?_ ?_ <;> intro H
 refine zQ (w1 tok (zE (zF [4] (zT (yT ?_)))))
 exact x_ret _ rfl _ rfl ⟨false,rfl,H⟩
 refine zK (zX (zS (zQ (w1 tok (zE (zB ?_))))))
 obtain ⟨I1,μ1,H0,HI⟩:=H
 refine zO (σ:=Int) [0,1] (fun (s:Int)=>[(5,.int .i64 s)]) I1 μ1 0 H0 ?_
 rintro t5_1 h_1 H
 replace H:=HI t5_1 h_1 H
 refine zF [5,0,1] (zS (zQ ?_))
 refine w4 tok (zE ?_)
 refine zI H ?_ ?_ <;> intro H
 refine zK (zX (zS (zB (zS ?_))))
 refine c_draw (by kernel_rfl) (by kernel_rfl) ?_
 refine q_p tok rfl rfl rfl ?_
 refine q_p tok rfl rfl rfl ?_
 obtain ⟨a1,ha1,la1,ua1,H⟩:=H
 refine q_y (y_ixa' tok rfl rfl ha1 rfl rfl rfl la1 ua1) rfl rfl ?_
 obtain ⟨v2,hv2,H⟩:=H
 refine q_y (y_lda tok rfl rfl rfl rfl rfl hv2) rfl rfl ?_
 refine q_p tok rfl rfl rfl ?_
 refine q_p tok rfl rfl rfl ?_
 obtain ⟨a3,ha3,la3,ua3,H⟩:=H
 refine q_y (y_ixa' tok rfl rfl ha3 rfl rfl rfl la3 ua3) rfl rfl ?_
 obtain ⟨v4,hv4,H⟩:=H
 refine q_y (y_lda tok rfl rfl rfl rfl rfl hv4) rfl rfl ?_
 refine q_y (y_eqs (op:=.neq) (xs:=S_api_Piece.cs v2) (ys:=S_api_Piece.cs v4) (.inr rfl) rfl rfl rfl (eqv89_S_api_Piece v2 v4) (by kernel_rfl)) rfl rfl ?_
 refine q_end ?_
 refine zX (zF [5,0,1,25] ?_)
 refine zI H ?_ ?_ <;> intro H
 refine zQ (w1 tok (zE (zT (yB (yT (yT (yB (yT ?_))))))))
 exact x_ret _ rfl _ rfl ⟨false,rfl,H⟩
 refine zK (yL (zX (zR (w2 tok ?_))))
 obtain ⟨x5,ex5,H⟩:=H
 refine w_pe tok rfl (congrArg (fun z=>(.int .i64 z:Value)) ex5) rfl rfl ?_
 refine zW ?_
 exact xJ x5 H
 refine zY (yE (yE (yH (zX (zF [] (zQ ?_))))))
 refine w1 tok (zE (zT ?_))
 exact x_ret _ rfl _ rfl ⟨true,rfl,H⟩
theorem O36:CallOk prog 36:=ck func36
theorem R36 (p0 p1 k h) (H:ref18_SameInts p0 p1 k h):CallsH prog 36 #[Slc.v p0,Slc.v p1] h (fun v h'=>∃ r:Bool,v = .bool r/\k r h'):=by
 refine fE func36 fun w0=>?_
 refine zF [0,1] (zQ ?_)
 refine w1 tok (zE (zS (zQ ?_)))
 refine w5 tok (zE ?_)
 refine zI H ?_ ?_ <;> intro H
 refine zQ (w1 tok (zE (zF [4] (zT (yT ?_)))))
 exact x_ret _ rfl _ rfl ⟨false,rfl,H⟩
 refine zK (zX (zS (zQ (w1 tok (zE (zB ?_))))))
 obtain ⟨I1,μ1,H0,HI⟩:=H
 refine zO (σ:=Int) [0,1] (fun (s:Int)=>[(5,.int .i64 s)]) I1 μ1 0 H0 ?_
 rintro t5_1 h_1 H
 replace H:=HI t5_1 h_1 H
 refine zF [5,0,1] (zS (zQ ?_))
 refine w4 tok (zE ?_)
 refine zI H ?_ ?_ <;> intro H
 refine zK (zX (zS (zB (zS ?_))))
 refine c_draw (by kernel_rfl) (by kernel_rfl) ?_
 refine q_p tok rfl rfl rfl ?_
 refine q_p tok rfl rfl rfl ?_
 obtain ⟨a1,ha1,la1,ua1,H⟩:=H
 refine q_y (y_ixa' tok rfl rfl ha1 rfl rfl rfl la1 ua1) rfl rfl ?_
 obtain ⟨v2,hv2,H⟩:=H
 refine q_y (y_ld tok rfl rfl rfl rfl hv2) rfl rfl ?_
 refine q_p tok rfl rfl rfl ?_
 refine q_p tok rfl rfl rfl ?_
 obtain ⟨a3,ha3,la3,ua3,H⟩:=H
 refine q_y (y_ixa' tok rfl rfl ha3 rfl rfl rfl la3 ua3) rfl rfl ?_
 obtain ⟨v4,hv4,H⟩:=H
 refine q_y (y_ld tok rfl rfl rfl rfl hv4) rfl rfl ?_
 refine q_p tok rfl rfl rfl ?_
 refine q_end ?_
 refine zX (zF [5,0,1,25] ?_)
 refine zI H ?_ ?_ <;> intro H
 refine zQ (w1 tok (zE (zT (yB (yT (yT (yB (yT ?_))))))))
 exact x_ret _ rfl _ rfl ⟨false,rfl,H⟩
 refine zK (yL (zX (zR (w2 tok ?_))))
 obtain ⟨x5,ex5,H⟩:=H
 refine w_pe tok rfl (congrArg (fun z=>(.int .i64 z:Value)) ex5) rfl rfl ?_
 refine zW ?_
 exact xJ x5 H
 refine zY (yE (yE (yH (zX (zF [] (zQ ?_))))))
 refine w1 tok (zE (zT ?_))
 exact x_ret _ rfl _ rfl ⟨true,rfl,H⟩
theorem O37:CallOk prog 37:=ck func37
theorem R37 (p0 p1 k h) (H:ref19_SameRows p0 p1 k h):CallsH prog 37 #[Slc.v p0,Slc.v p1] h (fun v h'=>∃ r:Bool,v = .bool r/\k r h'):=by
 refine fE func37 fun w0=>?_
 refine zF [0,1] (zQ ?_)
 refine w1 tok (zE (zS (zQ ?_)))
 refine w5 tok (zE ?_)
 refine zI H ?_ ?_ <;> intro H
 refine zQ (w1 tok (zE (zF [4] (zT (yT ?_)))))
 exact x_ret _ rfl _ rfl ⟨false,rfl,H⟩
 refine zK (zX (zS (zQ (w1 tok (zE (zB ?_))))))
 obtain ⟨I1,μ1,H0,HI⟩:=H
 refine zO (σ:=Int) [0,1] (fun (s:Int)=>[(5,.int .i64 s)]) I1 μ1 0 H0 ?_
 rintro t5_1 h_1 H
 replace H:=HI t5_1 h_1 H
 refine zF [5,0,1] (zS (zQ ?_))
 refine w4 tok (zE ?_)
 refine zI H ?_ ?_ <;> intro H
 refine zK (zX (zS (zB (zS ?_))))
 refine c_draw (by kernel_rfl) (by kernel_rfl) ?_
 refine q_p tok rfl rfl rfl ?_
 refine q_p tok rfl rfl rfl ?_
 obtain ⟨a1,ha1,la1,ua1,H⟩:=H
 refine q_y (y_ixa' tok rfl rfl ha1 rfl rfl rfl la1 ua1) rfl rfl ?_
 obtain ⟨v2,hv2,H⟩:=H
 refine q_y (y_lda tok rfl rfl rfl rfl rfl hv2) rfl rfl ?_
 refine q_p tok rfl rfl rfl ?_
 refine q_p tok rfl rfl rfl ?_
 obtain ⟨a3,ha3,la3,ua3,H⟩:=H
 refine q_y (y_ixa' tok rfl rfl ha3 rfl rfl rfl la3 ua3) rfl rfl ?_
 obtain ⟨v4,hv4,H⟩:=H
 refine q_y (y_lda tok rfl rfl rfl rfl rfl hv4) rfl rfl ?_
 refine q_y (y_eqs (op:=.neq) (xs:=S_api_Row.cs v2) (ys:=S_api_Row.cs v4) (.inr rfl) rfl rfl rfl (eqv118_S_api_Row v2 v4) (by kernel_rfl)) rfl rfl ?_
 refine q_end ?_
 refine zX (zF [5,0,1,25] ?_)
 refine zI H ?_ ?_ <;> intro H
 refine zQ (w1 tok (zE (zT (yB (yT (yT (yB (yT ?_))))))))
 exact x_ret _ rfl _ rfl ⟨false,rfl,H⟩
 refine zK (yL (zX (zR (w2 tok ?_))))
 obtain ⟨x5,ex5,H⟩:=H
 refine w_pe tok rfl (congrArg (fun z=>(.int .i64 z:Value)) ex5) rfl rfl ?_
 refine zW ?_
 exact xJ x5 H
 refine zY (yE (yE (yH (zX (zF [] (zQ ?_))))))
 refine w1 tok (zE (zT ?_))
 exact x_ret _ rfl _ rfl ⟨true,rfl,H⟩
theorem O14:CallOk prog 14:=ck func14
theorem R14 (p0 p1 k h) (H:ref31_Same p0 p1 k h):CallsH prog 14 #[.agg (S_api_Op.cs p0).toArray,.agg (S_api_Op.cs p1).toArray] h (fun v h'=>∃ r:Bool,v = .bool r/\k r h'):=by
 refine fE func14 fun w0=>?_
 refine zF [0,1] (zQ ?_)
 refine wX H fun b1 h2 H=>?_
 refine wX H fun b3 h4 H=>?_
 refine w1 tok (zE (zQ ?_))
 refine w1 tok ?_
 refine wL tok H fun v5 H=>?_
 refine w1 tok ?_
 refine wL tok H fun v6 H=>?_
 refine w2 tok ?_
 refine vJ 6 (α:=Bool) [2,3] (fun (s:Bool)=>[(16,.bool s)]) (fun (s:Bool) h=>ref31_Same_g1 (ad b1) (ad b3) s k h) ?_ ?_
 rintro t16_1 h_1 H
 refine vF [16,2,3] ?_
 refine w1 tok ?_
 refine vJ 6 (α:=Bool) [2,3] (fun (s:Bool)=>[(23,.bool s)]) (fun (s:Bool) h=>ref31_Same_g2 (ad b1) (ad b3) s k h) ?_ ?_
 rintro t23_2 h_2 H
 refine vF [23,2,3] ?_
 refine w1 tok ?_
 refine vJ 6 (α:=Bool) [2,3] (fun (s:Bool)=>[(30,.bool s)]) (fun (s:Bool) h=>ref31_Same_g3 (ad b1) (ad b3) s k h) ?_ ?_
 rintro t30_3 h_3 H
 refine vF [30,2,3] ?_
 refine w1 tok ?_
 refine vJ 6 (α:=Bool) [2,3] (fun (s:Bool)=>[(37,.bool s)]) (fun (s:Bool) h=>ref31_Same_g4 (ad b1) (ad b3) s k h) ?_ ?_
 rintro t37_4 h_4 H
 refine vF [37,2,3] ?_
 refine w1 tok ?_
 refine vJ 6 (α:=Bool) [2,3] (fun (s:Bool)=>[(44,.bool s)]) (fun (s:Bool) h=>ref31_Same_g5 (ad b1) (ad b3) s k h) ?_ ?_
 rintro t44_5 h_5 H
 refine vF [44,2,3] ?_
 refine w1 tok ?_
 refine vJ 6 (α:=Bool) [2,3] (fun (s:Bool)=>[(51,.bool s)]) (fun (s:Bool) h=>ref31_Same_g6 (ad b1) (ad b3) s k h) ?_ ?_
 rintro t51_6 h_6 H
 refine vF [51,2,3] ?_
 refine w1 tok ?_
 refine vJ 6 (α:=Bool) [2,3] (fun (s:Bool)=>[(58,.bool s)]) (fun (s:Bool) h=>ref31_Same_g7 (ad b1) (ad b3) s k h) ?_ ?_
 rintro t58_7 h_7 H
 refine vF [58,2,3] ?_
 refine w1 tok ?_
 refine vJ 6 (α:=Bool) [2,3] (fun (s:Bool)=>[(65,.bool s)]) (fun (s:Bool) h=>ref31_Same_g8 (ad b1) (ad b3) s k h) ?_ ?_
 rintro t65_8 h_8 H
 refine vF [65,2,3] ?_
 refine w1 tok ?_
 refine vJ 6 (α:=Bool) [] (fun (s:Bool)=>[(72,.bool s)]) (fun (s:Bool) h=>ref31_Same_g9 s k h) ?_ ?_
 rintro t72_9 h_9 H
 refine vF [72] ?_
 refine w1 tok (zE (zT ?_))
 exact x_ret _ rfl _ rfl ⟨t72_9,rfl,H⟩
 refine vI 66 H ?_ ?_ <;> intro H
 refine w1 tok ?_
 refine wL tok H fun v7 H=>?_
 refine w1 tok ?_
 refine wL tok H fun v8 H=>?_
 refine wC O37 (R37 _ _ _ _ H) fun r9 h10 H=>?_
 refine w1 tok ?_
 exact wJ r9 H
 refine wS (wS (wS (wS (wS (w1 tok ?_)))))
 exact wJ false H
 refine vI 59 H ?_ ?_ <;> intro H
 refine w1 tok ?_
 refine wL tok H fun v11 H=>?_
 refine w1 tok ?_
 refine wL tok H fun v12 H=>?_
 refine w2 tok ?_
 exact wJ (v11 == v12) H
 refine wS (wS (wS (wS (wS (w1 tok ?_)))))
 exact wJ false H
 refine vI 52 H ?_ ?_ <;> intro H
 refine w1 tok ?_
 refine wL tok H fun v13 H=>?_
 refine w1 tok ?_
 refine wL tok H fun v14 H=>?_
 refine w2 tok ?_
 exact wJ ((v13 == v14)) H
 refine wS (wS (wS (wS (wS (w1 tok ?_)))))
 exact wJ false H
 refine vI 45 H ?_ ?_ <;> intro H
 refine w1 tok ?_
 refine wL tok H fun v15 H=>?_
 refine w1 tok ?_
 refine wL tok H fun v16 H=>?_
 refine w2 tok ?_
 exact wJ (v15 == v16) H
 refine wS (wS (wS (wS (wS (w1 tok ?_)))))
 exact wJ false H
 refine vI 38 H ?_ ?_ <;> intro H
 refine w1 tok ?_
 refine wL tok H fun v17 H=>?_
 refine w1 tok ?_
 refine wL tok H fun v18 H=>?_
 refine wC O36 (R36 _ _ _ _ H) fun r19 h20 H=>?_
 refine w1 tok ?_
 exact wJ r19 H
 refine wS (wS (wS (wS (wS (w1 tok ?_)))))
 exact wJ false H
 refine vI 31 H ?_ ?_ <;> intro H
 refine w1 tok ?_
 refine wL tok H fun v21 H=>?_
 refine w1 tok ?_
 refine wL tok H fun v22 H=>?_
 refine wC O36 (R36 _ _ _ _ H) fun r23 h24 H=>?_
 refine w1 tok ?_
 exact wJ r23 H
 refine wS (wS (wS (wS (wS (w1 tok ?_)))))
 exact wJ false H
 refine vI 24 H ?_ ?_ <;> intro H
 refine w1 tok ?_
 refine wL tok H fun v25 H=>?_
 refine w1 tok ?_
 refine wL tok H fun v26 H=>?_
 refine wC O35 (R35 _ _ _ _ H) fun r27 h28 H=>?_
 refine w1 tok ?_
 exact wJ r27 H
 refine wS (wS (wS (wS (wS (w1 tok ?_)))))
 exact wJ false H
 refine vI 17 H ?_ ?_ <;> intro H
 refine w1 tok ?_
 refine wL tok H fun v29 H=>?_
 refine w1 tok ?_
 refine wL tok H fun v30 H=>?_
 refine w2 tok ?_
 exact wJ (v29.toList == v30.toList) H
 refine wS (wS (wS (wS (wS (w1 tok ?_)))))
 exact wJ false H
 refine vI 10 H ?_ ?_ <;> intro H
 refine w1 tok ?_
 refine wL tok H fun v31 H=>?_
 refine w1 tok ?_
 refine wL tok H fun v32 H=>?_
 refine w2 tok ?_
 exact wJ (v31 == v32) H
 refine wS (wS (wS (wS (wS (w1 tok ?_)))))
 exact wJ false H
end Go.Q.Yq
end
