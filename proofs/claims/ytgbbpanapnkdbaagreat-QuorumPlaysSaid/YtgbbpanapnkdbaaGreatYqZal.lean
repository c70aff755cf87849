/- A part of the proof of statements of this seat: lemmas, no statement of their own. -/
import Derived.Test.YtgbbpanapnkdbaaGreatYqZad
import Derived.Test.YtgbbpanapnkdbaaGreatYqZae
import Derived.Test.YtgbbpanapnkdbaaGreatYqZaf
import Derived.Test.YtgbbpanapnkdbaaGreatYqZak
set_option linter.unusedVariables false
set_option linter.unusedSimpArgs false
set_option maxRecDepth 100000
set_option maxHeartbeats 1000000
section
namespace Go.Q.Yq
open Go.Proofs.Tryz
open Go.RowKit in
theorem QM (a b:aG) (w:World):(Op.equalIn (9998 + 1) 87 (.agg (aG.cs a).toArray) (.agg (aG.cs b).toArray)).run Go.Proofs.Tryz.prog w = .ok ((a.f_N == b.f_N) && (a.aR == b.aR)) w:=by
  have hS:Go.Proofs.Tryz.prog.underlying 87=some (.struct (Go.Proofs.Tryz.prog.fieldsOf 87)):=by kernel_rfl
  have hp:Go.Proofs.Tryz.prog.stoodInHeld 87=false:=by kernel_rfl
  have u25:=Go.Proofs.Tryz.underlying25
  have a25:∀ w,(isAgg 25).run Go.Proofs.Tryz.prog w = .ok false w:=Go.Proofs.Tryz.isAgg25
  have u85:=Go.Proofs.Tryz.underlying85
  have a85:∀ w,(isAgg 85).run Go.Proofs.Tryz.prog w = .ok false w:=Go.Proofs.Tryz.isAgg85
  rw [run_equalIn_struct w 9998 87 _ _ hS hp]
  simp only [Program.fieldsOf,Go.Proofs.Tryz.underlying87,aG.cs]
  go_simp
  by_cases h0:(a.f_N=b.f_N) <;> by_cases h1:(a.aR=b.aR) <;> simp [h0,h1]
open Go.RowKit in
theorem CV (a b:ae) (w:World):(Op.equal 89 (.agg (ae.cs a).toArray) (.agg (ae.cs b).toArray)).run Go.Proofs.Tryz.prog w = .ok ((a.ak.toList == b.ak.toList) && (a.f_T == b.f_T) && (a.f_V == b.f_V) && ((a.dB.f_N == b.dB.f_N) && (a.dB.aR == b.dB.aR))) w:=by
  have hS:Go.Proofs.Tryz.prog.underlying 89=some (.struct (Go.Proofs.Tryz.prog.fieldsOf 89)):=by kernel_rfl
  have hp:Go.Proofs.Tryz.prog.stoodInHeld 89=false:=by kernel_rfl
  have e87:=QM a.dB b.dB
  have n87:∀ w,(isAgg 87).run Go.Proofs.Tryz.prog w = .ok true w:=Go.Proofs.Tryz.isAgg87
  have s87:Go.Proofs.Tryz.prog.cellsOf 87=2:=by kernel_rfl
  have u2:=Go.Proofs.Tryz.underlying2
  have a2:∀ w,(isAgg 2).run Go.Proofs.Tryz.prog w = .ok false w:=Go.Proofs.Tryz.isAgg2
  have u9:=Go.Proofs.Tryz.underlying9
  have a9:∀ w,(isAgg 9).run Go.Proofs.Tryz.prog w = .ok false w:=Go.Proofs.Tryz.isAgg9
  have q2:∀ (x y:Int) w,(Op.equalIn (9998 + 1) 2 (.int .i64 x) (.int .i64 y)).run Go.Proofs.Tryz.prog w = .ok (x == y) w:=fun x y w=>by go_simp
  have q9:∀ (x y:ByteArray) w,(Op.equalIn (9998 + 1) 9 (.string x) (.string y)).run Go.Proofs.Tryz.prog w = .ok (x.toList == y.toList) w:=fun x y w=>by go_simp
  unfold Op.equal Op.maxDepth
  rw [show (10000:Nat)=(9998 + 1) + 1 from rfl,run_equalIn_struct w (9998 + 1) 89 _ _ hS hp]
  simp only [Program.fieldsOf,Go.Proofs.Tryz.underlying89,ae.cs]
  generalize 9998 + 1=N at e87 q2 q9 ⊢
  go_simp
  simp only [show List.take 2 (aG.cs a.dB)=aG.cs a.dB from rfl,show List.take 2 (aG.cs b.dB)=aG.cs b.dB from rfl,e87,q2,q9,Result.andThen]
  by_cases h0:(a.ak.toList=b.ak.toList) <;> by_cases h1:(a.f_T=b.f_T) <;> by_cases h2:(a.f_V=b.f_V) <;> by_cases h3:(a.dB.f_N=b.dB.f_N) <;> by_cases h4:(a.dB.aR=b.dB.aR) <;> simp [h0,h1,h2,h3,h4]
open Go.RowKit in
theorem PN (a b:au) (w:World):(Op.equalIn (9998 + 1) 116 (.agg (au.cs a).toArray) (.agg (au.cs b).toArray)).run Go.Proofs.Tryz.prog w = .ok ((a.mH == b.mH) && (a.nA == b.nA)) w:=by
  have hS:Go.Proofs.Tryz.prog.underlying 116=some (.struct (Go.Proofs.Tryz.prog.fieldsOf 116)):=by kernel_rfl
  have hp:Go.Proofs.Tryz.prog.stoodInHeld 116=false:=by kernel_rfl
  have u2:=Go.Proofs.Tryz.underlying2
  have a2:∀ w,(isAgg 2).run Go.Proofs.Tryz.prog w = .ok false w:=Go.Proofs.Tryz.isAgg2
  have u25:=Go.Proofs.Tryz.underlying25
  have a25:∀ w,(isAgg 25).run Go.Proofs.Tryz.prog w = .ok false w:=Go.Proofs.Tryz.isAgg25
  rw [run_equalIn_struct w 9998 116 _ _ hS hp]
  simp only [Program.fieldsOf,Go.Proofs.Tryz.underlying116,au.cs]
  go_simp
  by_cases h0:(a.mH=b.mH) <;> by_cases h1:(a.nA=b.nA) <;> simp [h0,h1]
open Go.RowKit in
theorem DI (a b:aH) (w:World):(Op.equal 118 (.agg (aH.cs a).toArray) (.agg (aH.cs b).toArray)).run Go.Proofs.Tryz.prog w = .ok ((a.ak.toList == b.ak.toList) && (a.f_T == b.f_T) && ((a.f_W.mH == b.f_W.mH) && (a.f_W.nA == b.f_W.nA))) w:=by
  have hS:Go.Proofs.Tryz.prog.underlying 118=some (.struct (Go.Proofs.Tryz.prog.fieldsOf 118)):=by kernel_rfl
  have hp:Go.Proofs.Tryz.prog.stoodInHeld 118=false:=by kernel_rfl
  have e116:=PN a.f_W b.f_W
  have n116:∀ w,(isAgg 116).run Go.Proofs.Tryz.prog w = .ok true w:=Go.Proofs.Tryz.isAgg116
  have s116:Go.Proofs.Tryz.prog.cellsOf 116=2:=by kernel_rfl
  have u2:=Go.Proofs.Tryz.underlying2
  have a2:∀ w,(isAgg 2).run Go.Proofs.Tryz.prog w = .ok false w:=Go.Proofs.Tryz.isAgg2
  have u9:=Go.Proofs.Tryz.underlying9
  have a9:∀ w,(isAgg 9).run Go.Proofs.Tryz.prog w = .ok false w:=Go.Proofs.Tryz.isAgg9
  have q2:∀ (x y:Int) w,(Op.equalIn (9998 + 1) 2 (.int .i64 x) (.int .i64 y)).run Go.Proofs.Tryz.prog w = .ok (x == y) w:=fun x y w=>by go_simp
  have q9:∀ (x y:ByteArray) w,(Op.equalIn (9998 + 1) 9 (.string x) (.string y)).run Go.Proofs.Tryz.prog w = .ok (x.toList == y.toList) w:=fun x y w=>by go_simp
  unfold Op.equal Op.maxDepth
  rw [show (10000:Nat)=(9998 + 1) + 1 from rfl,run_equalIn_struct w (9998 + 1) 118 _ _ hS hp]
  simp only [Program.fieldsOf,Go.Proofs.Tryz.underlying118,aH.cs]
  generalize 9998 + 1=N at e116 q2 q9 ⊢
  go_simp
  simp only [show List.take 2 (au.cs a.f_W)=au.cs a.f_W from rfl,show List.take 2 (au.cs b.f_W)=au.cs b.f_W from rfl,e116,q2,q9,Result.andThen]
  by_cases h0:(a.ak.toList=b.ak.toList) <;> by_cases h1:(a.f_T=b.f_T) <;> by_cases h2:(a.f_W.mH=b.f_W.mH) <;> by_cases h3:(a.f_W.nA=b.f_W.nA) <;> simp [h0,h1,h2,h3]
/-- slices.Index   int int  -/
def qb (b_:Slc) (d_:Int) (f_:Int) (a_:Int) (k:KP Int) (nx1:KP Int) (h_1:Heap):Prop :=
  if (decide (a_ < f_)) then (∃ a1,b_.a=some a1/\(0:Int)<=a_/\a_ < (b_.len:Int)/\(∃ v2,ah h_1 (a1.add (a_.toNat * 1))=some (.int .i64 v2)/\(if (d_ == v2) then (k a_ h_1) else (nx1 (IntKind.i64.wrap (a_ + 1)) h_1)))) else (∃ x3,x3=(-1)/\(k x3 h_1))
def qI (b_:Slc) (d_:Int) (f_:Int) (i8:Int) (k:KP Int) (h:Heap):Prop :=
  ∃ (I:KP Int) (μ:Int->Heap->Nat),I i8 h/\∀ (a_:Int) (h:Heap),I a_ h->qb b_ d_ f_ a_ k (fun s h'=>I s h'/\μ s h' < μ a_ h) h
def lH (p0:Slc) (p1:Int) (k:KP Int) (h:Heap):Prop :=
  qI p0 p1 (p0.len:Int) 0 k h
/-- slices.Contains   int int  -/
def dJ (p0:Slc) (p1:Int) (k:KP Bool) (h:Heap):Prop :=
  lH p0 p1 (fun r1 h2=>k (decide (r1>=0)) h2) h
/-- slices.Clone   quaestor api.Piece quaestor api.Piece  -/
def gF (p0:Slc) (k:KP Slc) (h:Heap):Prop :=
  if (p0.a.isNone) then (k (⟨none,0,0⟩:Slc) h) else (∃ b1 h2,b1=h.size/\h2=h.push (.cells ([]).toArray 89)/\(∃ l5,SlcAt h2 p0 l5/\App 89 5 48 [.string ByteArray.empty,.int .i64 0,.int .i64 0,.int .u64 0,.int .u16 0] h2 (⟨some ⟨b1,0,none⟩,0,0⟩:Slc) p0.len l5 (fun s3 h4=>k s3 h4)))
/-- slices.Clone   int int  -/
def mr (p0:Slc) (k:KP Slc) (h:Heap):Prop :=
  if (p0.a.isNone) then (k (⟨none,0,0⟩:Slc) h) else (∃ b1 h2,b1=h.size/\h2=h.push (.cells ([]).toArray 3)/\(∃ l5,SlcAt h2 p0 l5/\App 3 1 8 [.int .i64 0] h2 (⟨some ⟨b1,0,none⟩,0,0⟩:Slc) p0.len l5 (fun s3 h4=>k s3 h4)))
/-- slices.Clone   quaestor api.Row quaestor api.Row  -/
def jM (p0:Slc) (k:KP Slc) (h:Heap):Prop :=
  if (p0.a.isNone) then (k (⟨none,0,0⟩:Slc) h) else (∃ b1 h2,b1=h.size/\h2=h.push (.cells ([]).toArray 118)/\(∃ l5,SlcAt h2 p0 l5/\App 118 4 40 [.string ByteArray.empty,.int .i64 0,.int .i64 0,.int .u64 0] h2 (⟨some ⟨b1,0,none⟩,0,0⟩:Slc) p0.len l5 (fun s3 h4=>k s3 h4)))
/-- slices.Clone   byte byte  -/
def nV (p0:Slc) (k:KP Slc) (h:Heap):Prop :=
  if (p0.a.isNone) then (k (⟨none,0,0⟩:Slc) h) else (∃ b1 h2,b1=h.size/\h2=h.push (.cells ([]).toArray 5)/\(∃ l5,SlcAt h2 p0 l5/\App 5 1 1 [.int .u8 0] h2 (⟨some ⟨b1,0,none⟩,0,0⟩:Slc) p0.len l5 (fun s3 h4=>k s3 h4)))
/-- quaestor quorum.Needs -/
def nU (p0:aj) (k:KP Int) (h:Heap):Prop :=
  ∃ b1 h2,b1=h.size/\h2=h.push (.cells (aj.cs p0).toArray 39)/\(∃ v3,ah h2 ((ad b1).add 1)=some (.int .i64 v3)/\(if (v3 == 1) then (∃ v4,ah h2 ((ad b1).add 27)=some (Slc.v v4)/\(∃ x5,x5=(if (v4.len:Int) < 2 then (v4.len:Int) else 2)/\(k x5 h2))) else (if (v3 == 2) then (∃ v6,ah h2 ((ad b1).add 27)=some (Slc.v v6)/\(∃ x7,x7=(if (IntKind.i64.wrap ((v6.len:Int) - 1)) > 1 then (IntKind.i64.wrap ((v6.len:Int) - 1)) else 1)/\(k x7 h2))) else (if (v3 == 3) then (k 1 h2) else (k 0 h2)))))
/-- quaestor quorum.twice -/
def yM (b_:Slc) (d_:Slc) (f_:Int) (a_:Int) (k:KP Bool) (nx1:KP Int) (h_1:Heap):Prop :=
  if (decide (a_ < f_)) then (∃ a1,d_.a=some a1/\(0:Int)<=a_/\a_ < (d_.len:Int)/\(∃ v2,ah h_1 (a1.add (a_.toNat * 1))=some (.int .i64 v2)/\(∃ s3,(0:Int)<=0/\(0:Int)<=a_/\(a_:Int)<=(b_.cap:Int)/\(b_.cap:Int)<=(b_.cap:Int)/\s3=rY b_ 1 (0:Int).toNat a_.toNat (b_.cap:Int).toNat/\(dJ s3 v2 (fun r4 h5=>if r4 then (k true h5) else (nx1 (IntKind.i64.wrap (a_ + 1)) h5)) h_1)))) else (k false h_1)
def Af (b_:Slc) (d_:Slc) (f_:Int) (i7:Int) (k:KP Bool) (h:Heap):Prop :=
  ∃ (I:KP Int) (μ:Int->Heap->Nat),I i7 h/\∀ (a_:Int) (h:Heap),I a_ h->yM b_ d_ f_ a_ k (fun s h'=>I s h'/\μ s h' < μ a_ h) h
def vo (p0:Slc) (k:KP Bool) (h:Heap):Prop :=
  Af p0 p0 (p0.len:Int) 0 k h
/-- quaestor quorum.copied -/
def qh (p0:aj) (k:KP aj) (h:Heap):Prop :=
  ∃ b1 h2,b1=h.size/\h2=h.push (.cells (aj.cs p0).toArray 39)/\(∃ b3 h4,b3=h2.size/\h4=h2.push (.cells (aj.cs (⟨0,0,ByteArray.empty,(⟨none,0,0⟩:Slc),(⟨ByteArray.empty,0,0,0,0⟩:aC),(⟨0,ByteArray.empty,0,([]:List Int),(⟨none,0,0⟩:Slc),0⟩:aT),0,(⟨none,0,0⟩:Slc),(⟨none,0,0⟩:Slc),0,false,0,(⟨none,0,0⟩:Slc)⟩:aj)).toArray 39)/\(∃ v5,ah h4 ((ad b1).add 3)=some (Slc.v v5)/\(∃ v6,ah h4 ((ad b1).add 27)=some (Slc.v v6)/\(∃ v7,ah h4 ((ad b1).add 28)=some (Slc.v v7)/\(∃ v8,ah h4 ((ad b1).add 32)=some (Slc.v v8)/\(gF v5 (fun r9 h10=>ah h10 ((ad b1).add 32)=some (Slc.v v8)/\ah h10 ((ad b1).add 28)=some (Slc.v v7)/\ah h10 ((ad b1).add 27)=some (Slc.v v6)/\(mr v6 (fun r14 h15=>ah h15 ((ad b1).add 32)=some (Slc.v v8)/\ah h15 ((ad b1).add 28)=some (Slc.v v7)/\(mr v7 (fun r18 h19=>ah h19 ((ad b1).add 32)=some (Slc.v v8)/\(jM v8 (fun r21 h22=>∃ h23,WrH h22 ((ad b1).add 3)/\h23=setH h22 ((ad b1).add 3) (Slc.v r9)/\(∃ h24,WrH h23 ((ad b1).add 27)/\h24=setH h23 ((ad b1).add 27) (Slc.v r14)/\(∃ h25,WrH h24 ((ad b1).add 28)/\h25=setH h24 ((ad b1).add 28) (Slc.v r18)/\(∃ h26,WrH h25 ((ad b1).add 32)/\h26=setH h25 ((ad b1).add 32) (Slc.v r21)/\(∃ v27,ah h26 (((ad b1).add 9).add 15)=some (Slc.v v27)/\(nV v27 (fun r28 h29=>∃ h30,WrH h29 (((ad b1).add 9).add 15)/\h30=setH h29 (((ad b1).add 9).add 15) (Slc.v r28)/\(∃ v31,ai h30 (ad b1) (aj.cs v31)/\(∃ h32,aN h30 (ad b3) 33/\h32=aM h30 (ad b3) 0 (aj.cs v31)/\(∃ v33,ai h32 (ad b3) (aj.cs v33)/\k v33 h32)))) h26)))))) h19)) h15)) h10)) h4))))))
/-- quaestor quorum.New -/
def wV (k:KP (Option Addr)) (h:Heap):Prop :=
  ∃ b1 h2,b1=h.size/\h2=h.push (.map #[] 0)/\(∃ b3 h4,b3=h2.size/\h4=h2.push (.cells (tJ.cs (⟨(some b1)⟩:tJ)).toArray 63)/\(k (some (ad b3)) h4))
/-- (*quaestor quorum.Desk).Start -/
def iV (b_:Option Addr) (a_:Addr) (k:KP Int) (h_4:Heap):Prop :=
  ∃ a16,b_=some a16/\(∃ v17,ah h_4 a16=some (.map v17)/\(∃ v18,ah h_4 a_=some (.int .u64 v18)/\(∃ (r19:Nat) (l20:List (Int × Option Addr)) (h21:Heap),v17=some r19/\MapAt (K:=Int) (V:=Option Addr) (.int .u64) (Value.int .u64) (fun v:Option Addr=>(.pointer v:Value)) h_4 (some r19) l20/\h21=ry h_4 r19 ((Value.int .u64) v18) (.pointer (some a_))/\(k 0 h21))))
def fH (b_:Option Addr) (a_:Addr) (d_:Bool) (k:KP Int) (h_3:Heap):Prop :=
  if d_ then (k 1 h_3) else (∃ a3,b_=some a3/\(∃ v4,ah h_3 a3=some (.map v4)/\(∃ v5,ah h_3 a_=some (.int .u64 v5)/\(∃ l6:List (Int × Option Addr),MapAt (K:=Int) (V:=Option Addr) (.int .u64) (Value.int .u64) (fun v:Option Addr=>(.pointer v:Value)) h_3 v4 l6/\(if (jP l6 v5).isSome then (k 7 h_3) else (∃ v7,ai h_3 a_ (aj.cs v7)/\(qh v7 (fun r8 h9=>∃ h10,aN h9 a_ 33/\h10=aM h9 a_ 0 (aj.cs r8)/\(∃ h11,WrH h10 (a_.add 28)/\h11=setH h10 (a_.add 28) (Slc.v (⟨none,0,0⟩:Slc))/\(∃ h12,WrH h11 (a_.add 32)/\h12=setH h11 (a_.add 32) (Slc.v (⟨none,0,0⟩:Slc))/\(∃ h13,WrH h12 (a_.add 29)/\h13=setH h12 (a_.add 29) (.int .i64 0)/\(∃ h14,WrH h13 (a_.add 30)/\h14=setH h13 (a_.add 30) (.bool false)/\(∃ h15,WrH h14 (a_.add 31)/\h15=setH h14 (a_.add 31) (.int .i64 0)/\(∃ v22,ah h15 (a_.add 1)=some (.int .i64 v22)/\(if (v22 != 1) then (∃ h23,WrH h15 (a_.add 3)/\h23=setH h15 (a_.add 3) (Slc.v (⟨none,0,0⟩:Slc))/\(iV b_ a_ k h23)) else (iV b_ a_ k h15))))))))) h_3)))))))
def fJ (b_:Option Addr) (a_:Addr) (d_:Bool) (k:KP Int) (h_2:Heap):Prop :=
  if d_ then (fH b_ a_ true k h_2) else (∃ v24,ah h_2 (a_.add 27)=some (Slc.v v24)/\(vo v24 (fun r25 h26=>fH b_ a_ r25 k h26) h_2))
def lW (b_:Option Addr) (a_:Addr) (d_:Bool) (k:KP Int) (h_1:Heap):Prop :=
  if d_ then (fJ b_ a_ true k h_1) else (∃ v27,ah h_1 (a_.add 27)=some (Slc.v v27)/\(fJ b_ a_ ((v27.len:Int) == 0) k h_1))
def lJ (p0:Option Addr) (p1:aj) (k:KP Int) (h:Heap):Prop :=
  ∃ b1 h2,b1=h.size/\h2=h.push (.cells (aj.cs p1).toArray 39)/\(if (p0.isNone) then (lW p0 (ad b1) true k h2) else (∃ v28,ai h2 (ad b1) (aj.cs v28)/\(nU v28 (fun r29 h30=>lW p0 (ad b1) (r29 == 0) k h30) h2)))
/-- (*quaestor quorum.Desk).open -/
def gQ (a_:Option Addr) (b_:Bool) (k:KP (Option Addr × Bool)) (h_2:Heap):Prop :=
  k (a_,b_) h_2
def jQ (b_:Int) (d_:Option Addr) (a_:Option Addr) (f_:Bool) (k:KP (Option Addr × Bool)) (h_1:Heap):Prop :=
  if f_ then (∃ a4,d_=some a4/\(∃ v5,ah h_1 (a4.add 27)=some (Slc.v v5)/\(dJ v5 b_ (fun r6 h7=>gQ a_ r6 k h7) h_1))) else (gQ a_ false k h_1)
def nI (p0:Option Addr) (p1:Int) (p2:Int) (k:KP (Option Addr × Bool)) (h:Heap):Prop :=
  if (p0.isNone) then (k (none,false) h) else (∃ a1,p0=some a1/\(∃ v2,ah h a1=some (.map v2)/\(∃ l3:List (Int × Option Addr),MapAt (K:=Int) (V:=Option Addr) (.int .u64) (Value.int .u64) (fun v:Option Addr=>(.pointer v:Value)) h v2 l3/\(if (jP l3 p1).isSome then (∃ a8,((jP l3 p1).getD none)=some a8/\(∃ v9,ah h (a8.add 30)=some (.bool v9)/\(jQ p2 ((jP l3 p1).getD none) ((jP l3 p1).getD none) (!v9) k h))) else (jQ p2 ((jP l3 p1).getD none) ((jP l3 p1).getD none) false k h)))))
/-- quaestor quorum.ends -/
def kC (a_:Int) (b_:Bool) (k:KP Bool) (h_2:Heap):Prop :=
  if b_ then (k false h_2) else (k (a_ == 3) h_2)
def pq (b_:Int) (a_:Int) (d_:Bool) (k:KP Bool) (h_1:Heap):Prop :=
  if d_ then (k true h_1) else (if (a_ == 0) then (kC b_ (a_ == 0) k h_1) else (if (a_ == 18) then (kC b_ (a_ == 18) k h_1) else (if (a_ == 14) then (kC b_ (a_ == 14) k h_1) else (if (a_ == 11) then (kC b_ (a_ == 11) k h_1) else (kC b_ (a_ == 15) k h_1)))))
def xI (p0:Int) (p1:Int) (k:KP Bool) (h:Heap):Prop :=
  if (p1 == 1) then (pq p0 p1 (p1 == 1) k h) else (if (p1 == 3) then (pq p0 p1 (p1 == 3) k h) else (pq p0 p1 (p1 == 17) k h))
/-- (*quaestor quorum.Desk).No -/
def jA (a_:Int) (b_:Option Addr) (d_:Bool) (k:KP Bool) (h_1:Heap):Prop :=
  if d_ then (k false h_1) else (∃ a3,b_=some a3/\(∃ h4,WrH h_1 (a3.add 30)/\h4=setH h_1 (a3.add 30) (.bool true)/\(∃ h5,WrH h4 (a3.add 31)/\h5=setH h4 (a3.add 31) (.int .i64 a_)/\(k true h5))))
def rH (p0:Option Addr) (p1:Int) (p2:Int) (p3:Int) (k:KP Bool) (h:Heap):Prop :=
  nI p0 p1 p2 (fun r1 h2=>if (!r1.2) then (jA p3 r1.1 true k h2) else (∃ a6,r1.1=some a6/\(∃ v7,ah h2 (a6.add 1)=some (.int .i64 v7)/\(xI v7 p3 (fun r8 h9=>jA p3 r1.1 (!r8) k h9) h2)))) h
/-- (*quaestor quorum.Desk).Op -/
def mO (p0:Option Addr) (p1:Int) (k:KP (aj × Int)) (h:Heap):Prop :=
  ∃ b1 h2,b1=h.size/\h2=h.push (.cells (aj.cs (⟨0,0,ByteArray.empty,(⟨none,0,0⟩:Slc),(⟨ByteArray.empty,0,0,0,0⟩:aC),(⟨0,ByteArray.empty,0,([]:List Int),(⟨none,0,0⟩:Slc),0⟩:aT),0,(⟨none,0,0⟩:Slc),(⟨none,0,0⟩:Slc),0,false,0,(⟨none,0,0⟩:Slc)⟩:aj)).toArray 39)/\(if (p0.isNone) then (∃ h3,aN h2 (ad b1) 33/\h3=aM h2 (ad b1) 0 (aj.cs (⟨0,0,ByteArray.empty,(⟨none,0,0⟩:Slc),(⟨ByteArray.empty,0,0,0,0⟩:aC),(⟨0,ByteArray.empty,0,([]:List Int),(⟨none,0,0⟩:Slc),0⟩:aT),0,(⟨none,0,0⟩:Slc),(⟨none,0,0⟩:Slc),0,false,0,(⟨none,0,0⟩:Slc)⟩:aj))/\(∃ v4,ai h3 (ad b1) (aj.cs v4)/\k (v4,6) h3)) else (∃ a5,p0=some a5/\(∃ v6,ah h2 a5=some (.map v6)/\(∃ l7:List (Int × Option Addr),MapAt (K:=Int) (V:=Option Addr) (.int .u64) (Value.int .u64) (fun v:Option Addr=>(.pointer v:Value)) h2 v6 l7/\(if (!(jP l7 p1).isSome) then (∃ h8,aN h2 (ad b1) 33/\h8=aM h2 (ad b1) 0 (aj.cs (⟨0,0,ByteArray.empty,(⟨none,0,0⟩:Slc),(⟨ByteArray.empty,0,0,0,0⟩:aC),(⟨0,ByteArray.empty,0,([]:List Int),(⟨none,0,0⟩:Slc),0⟩:aT),0,(⟨none,0,0⟩:Slc),(⟨none,0,0⟩:Slc),0,false,0,(⟨none,0,0⟩:Slc)⟩:aj))/\(∃ v9,ai h8 (ad b1) (aj.cs v9)/\k (v9,6) h8)) else (∃ a10,((jP l7 p1).getD none)=some a10/\(∃ v11,ai h2 a10 (aj.cs v11)/\(qh v11 (fun r12 h13=>∃ h14,aN h13 (ad b1) 33/\h14=aM h13 (ad b1) 0 (aj.cs r12)/\(∃ v15,ai h14 (ad b1) (aj.cs v15)/\k (v15,0) h14)) h2))))))))
/-- (*quaestor quorum.Desk).Result -/
def iy (a_:Addr) (b_:Addr) (d_:Int) (f_:Bool) (k:KP (aj × Int)) (h_1:Heap):Prop :=
  if f_ then (∃ h8,aN h_1 a_ 33/\h8=aM h_1 a_ 0 (aj.cs (⟨0,0,ByteArray.empty,(⟨none,0,0⟩:Slc),(⟨ByteArray.empty,0,0,0,0⟩:aC),(⟨0,ByteArray.empty,0,([]:List Int),(⟨none,0,0⟩:Slc),0⟩:aT),0,(⟨none,0,0⟩:Slc),(⟨none,0,0⟩:Slc),0,false,0,(⟨none,0,0⟩:Slc)⟩:aj))/\(∃ v9,ai h8 a_ (aj.cs v9)/\k (v9,14) h8)) else (∃ v10,ai h_1 b_ (aj.cs v10)/\(∃ h11,aN h_1 a_ 33/\h11=aM h_1 a_ 0 (aj.cs v10)/\(∃ v12,ai h11 a_ (aj.cs v12)/\k (v12,d_) h11)))
def iC (p0:Option Addr) (p1:Int) (k:KP (aj × Int)) (h:Heap):Prop :=
  ∃ b1 h2,b1=h.size/\h2=h.push (.cells (aj.cs (⟨0,0,ByteArray.empty,(⟨none,0,0⟩:Slc),(⟨ByteArray.empty,0,0,0,0⟩:aC),(⟨0,ByteArray.empty,0,([]:List Int),(⟨none,0,0⟩:Slc),0⟩:aT),0,(⟨none,0,0⟩:Slc),(⟨none,0,0⟩:Slc),0,false,0,(⟨none,0,0⟩:Slc)⟩:aj)).toArray 39)/\(mO p0 p1 (fun r3 h4=>∃ b5 h6,b5=h4.size/\h6=h4.push (.cells (aj.cs (⟨0,0,ByteArray.empty,(⟨none,0,0⟩:Slc),(⟨ByteArray.empty,0,0,0,0⟩:aC),(⟨0,ByteArray.empty,0,([]:List Int),(⟨none,0,0⟩:Slc),0⟩:aT),0,(⟨none,0,0⟩:Slc),(⟨none,0,0⟩:Slc),0,false,0,(⟨none,0,0⟩:Slc)⟩:aj)).toArray 39)/\(∃ h7,aN h6 (ad b5) 33/\h7=aM h6 (ad b5) 0 (aj.cs r3.1)/\(if (r3.2 == 0) then (∃ v13,ah h7 ((ad b5).add 30)=some (.bool v13)/\(iy (ad b1) (ad b5) r3.2 (!v13) k h7)) else (iy (ad b1) (ad b5) r3.2 false k h7)))) h2)
/-- quaestor quaestorref13.Great -/
def Ao (b_:Slc) (d_:Int) (a_:Int) (k:KP Bool) (nx1:KP Int) (h_1:Heap):Prop :=
  if ((decide (a_ < (b_.len:Int))) && (decide (a_ < d_))) then (∃ a1,b_.a=some a1/\(0:Int)<=a_/\a_ < (b_.len:Int)/\(∃ v2,ah h_1 (a1.add (a_.toNat * 5))=some (.string v2)/\(if (decide ((v2.size:Int) > 400)) then (k true h_1) else (∃ x3,x3=(IntKind.i64.wrap (a_ + 1))/\(nx1 x3 h_1))))) else (k (decide ((b_.len:Int) > d_)) h_1)
def Bj (b_:Slc) (d_:Int) (i5:Int) (k:KP Bool) (h:Heap):Prop :=
  ∃ (I:KP Int) (μ:Int->Heap->Nat),I i5 h/\∀ (a_:Int) (h:Heap),I a_ h->Ao b_ d_ a_ k (fun s h'=>I s h'/\μ s h' < μ a_ h) h
def uz (p0:Slc) (p1:Int) (k:KP Bool) (h:Heap):Prop :=
  Bj p0 p1 0 k h
/-- quaestor quaestorlaw31.great -/
def mU (a_:Bool) (k:KP Bool) (h_3:Heap):Prop :=
  k a_ h_3
def pI (a_:Addr) (b_:Bool) (k:KP Bool) (h_2:Heap):Prop :=
  if b_ then (mU true k h_2) else (∃ v6,ah h_2 ((a_.add 1).add 4)=some (.string v6)/\(mU (decide ((v6.size:Int) > 300)) k h_2))
def mM (a_:Addr) (b_:Bool) (k:KP Bool) (h_1:Heap):Prop :=
  if b_ then (pI a_ true k h_1) else (∃ v7,ah h_1 ((a_.add 1).add 27)=some (Slc.v v7)/\(pI a_ (decide ((v7.len:Int) > 40)) k h_1))
def xM (p0:S_quaestorlaw31_Act) (k:KP Bool) (h:Heap):Prop :=
  ∃ b1 h2,b1=h.size/\h2=h.push (.cells (S_quaestorlaw31_Act.cs p0).toArray 41)/\(∃ v3,ah h2 ((ad b1).add 36)=some (Slc.v v3)/\(uz v3 20 (fun r4 h5=>if r4 then (mM (ad b1) true k h5) else (∃ v8,ah h5 (((ad b1).add 1).add 3)=some (Slc.v v8)/\(uz v8 20 (fun r9 h10=>mM (ad b1) r9 k h10) h5))) h2))
/-- quaestor quaestorref01.Pick -/
def tq (a_:Int) (k:KP Int) (h_1:Heap):Prop :=
  k a_ h_1
def zw (p0:Int) (p1:Int) (k:KP Int) (h:Heap):Prop :=
  if (decide (p1 < 1)) then (k 0 h) else (p1≠0/\(∃ x2,x2=(Int.tmod p0 p1)/\(if (decide (x2 < 0)) then (∃ x3,x3=(IntKind.i64.wrap (x2 + p1))/\(tq x3 k h)) else (tq x2 k h))))
/-- quaestor quaestorref13.Same -/
def Bh (b_:Slc) (d_:Slc) (a_:Int) (k:KP Bool) (nx1:KP Int) (h_1:Heap):Prop :=
  if (decide (a_ < (b_.len:Int))) then (∃ a1,b_.a=some a1/\(0:Int)<=a_/\a_ < (b_.len:Int)/\(∃ v2,ai h_1 (a1.add (a_.toNat * 5)) (ae.cs v2)/\(∃ a3,d_.a=some a3/\(0:Int)<=a_/\a_ < (d_.len:Int)/\(∃ v4,ai h_1 (a3.add (a_.toNat * 5)) (ae.cs v4)/\(if (if BinOp.neq = .eql then ((v2.ak.toList == v4.ak.toList) && (v2.f_T == v4.f_T) && (v2.f_V == v4.f_V) && ((v2.dB.f_N == v4.dB.f_N) && (v2.dB.aR == v4.dB.aR))) else !((v2.ak.toList == v4.ak.toList) && (v2.f_T == v4.f_T) && (v2.f_V == v4.f_V) && ((v2.dB.f_N == v4.dB.f_N) && (v2.dB.aR == v4.dB.aR)))) then (k false h_1) else (∃ x5,x5=(IntKind.i64.wrap (a_ + 1))/\(nx1 x5 h_1))))))) else (k true h_1)
def BZ (b_:Slc) (d_:Slc) (i5:Int) (k:KP Bool) (h:Heap):Prop :=
  ∃ (I:KP Int) (μ:Int->Heap->Nat),I i5 h/\∀ (a_:Int) (h:Heap),I a_ h->Bh b_ d_ a_ k (fun s h'=>I s h'/\μ s h' < μ a_ h) h
def zo (p0:Slc) (p1:Slc) (k:KP Bool) (h:Heap):Prop :=
  if ((p0.len:Int) != (p1.len:Int)) then (k false h) else (BZ p0 p1 0 k h)
/-- quaestor quaestorref18.SameInts -/
def vT (b_:Slc) (d_:Slc) (a_:Int) (k:KP Bool) (nx1:KP Int) (h_1:Heap):Prop :=
  if (decide (a_ < (b_.len:Int))) then (∃ a1,b_.a=some a1/\(0:Int)<=a_/\a_ < (b_.len:Int)/\(∃ v2,ah h_1 (a1.add (a_.toNat * 1))=some (.int .i64 v2)/\(∃ a3,d_.a=some a3/\(0:Int)<=a_/\a_ < (d_.len:Int)/\(∃ v4,ah h_1 (a3.add (a_.toNat * 1))=some (.int .i64 v4)/\(if (v2 != v4) then (k false h_1) else (∃ x5,x5=(IntKind.i64.wrap (a_ + 1))/\(nx1 x5 h_1))))))) else (k true h_1)
def xU (b_:Slc) (d_:Slc) (i5:Int) (k:KP Bool) (h:Heap):Prop :=
  ∃ (I:KP Int) (μ:Int->Heap->Nat),I i5 h/\∀ (a_:Int) (h:Heap),I a_ h->vT b_ d_ a_ k (fun s h'=>I s h'/\μ s h' < μ a_ h) h
def pJ (p0:Slc) (p1:Slc) (k:KP Bool) (h:Heap):Prop :=
  if ((p0.len:Int) != (p1.len:Int)) then (k false h) else (xU p0 p1 0 k h)
/-- quaestor quaestorref19.SameRows -/
def wF (b_:Slc) (d_:Slc) (a_:Int) (k:KP Bool) (nx1:KP Int) (h_1:Heap):Prop :=
  if (decide (a_ < (b_.len:Int))) then (∃ a1,b_.a=some a1/\(0:Int)<=a_/\a_ < (b_.len:Int)/\(∃ v2,ai h_1 (a1.add (a_.toNat * 4)) (aH.cs v2)/\(∃ a3,d_.a=some a3/\(0:Int)<=a_/\a_ < (d_.len:Int)/\(∃ v4,ai h_1 (a3.add (a_.toNat * 4)) (aH.cs v4)/\(if (if BinOp.neq = .eql then ((v2.ak.toList == v4.ak.toList) && (v2.f_T == v4.f_T) && ((v2.f_W.mH == v4.f_W.mH) && (v2.f_W.nA == v4.f_W.nA))) else !((v2.ak.toList == v4.ak.toList) && (v2.f_T == v4.f_T) && ((v2.f_W.mH == v4.f_W.mH) && (v2.f_W.nA == v4.f_W.nA)))) then (k false h_1) else (∃ x5,x5=(IntKind.i64.wrap (a_ + 1))/\(nx1 x5 h_1))))))) else (k true h_1)
def xW (b_:Slc) (d_:Slc) (i5:Int) (k:KP Bool) (h:Heap):Prop :=
  ∃ (I:KP Int) (μ:Int->Heap->Nat),I i5 h/\∀ (a_:Int) (h:Heap),I a_ h->wF b_ d_ a_ k (fun s h'=>I s h'/\μ s h' < μ a_ h) h
def qY (p0:Slc) (p1:Slc) (k:KP Bool) (h:Heap):Prop :=
  if ((p0.len:Int) != (p1.len:Int)) then (k false h) else (xW p0 p1 0 k h)
/-- quaestor quaestorref31.Same -/
def sQ (a_:Bool) (k:KP Bool) (h_9:Heap):Prop :=
  k a_ h_9
def tC (a_:Addr) (b_:Addr) (d_:Bool) (k:KP Bool) (h_8:Heap):Prop :=
  if d_ then (∃ v7,ah h_8 (a_.add 32)=some (Slc.v v7)/\(∃ v8,ah h_8 (b_.add 32)=some (Slc.v v8)/\(qY v7 v8 (fun r9 h10=>sQ r9 k h10) h_8))) else (sQ false k h_8)
def tN (a_:Addr) (b_:Addr) (d_:Bool) (k:KP Bool) (h_7:Heap):Prop :=
  if d_ then (∃ v11,ah h_7 (a_.add 31)=some (.int .i64 v11)/\(∃ v12,ah h_7 (b_.add 31)=some (.int .i64 v12)/\(tC a_ b_ (v11 == v12) k h_7))) else (tC a_ b_ false k h_7)
def sP (a_:Addr) (b_:Addr) (d_:Bool) (k:KP Bool) (h_6:Heap):Prop :=
  if d_ then (∃ v13,ah h_6 (a_.add 30)=some (.bool v13)/\(∃ v14,ah h_6 (b_.add 30)=some (.bool v14)/\(tN a_ b_ ((v13 == v14)) k h_6))) else (tN a_ b_ false k h_6)
def tK (a_:Addr) (b_:Addr) (d_:Bool) (k:KP Bool) (h_5:Heap):Prop :=
  if d_ then (∃ v15,ah h_5 (a_.add 29)=some (.int .i64 v15)/\(∃ v16,ah h_5 (b_.add 29)=some (.int .i64 v16)/\(sP a_ b_ (v15 == v16) k h_5))) else (sP a_ b_ false k h_5)
def sW (a_:Addr) (b_:Addr) (d_:Bool) (k:KP Bool) (h_4:Heap):Prop :=
  if d_ then (∃ v17,ah h_4 (a_.add 28)=some (Slc.v v17)/\(∃ v18,ah h_4 (b_.add 28)=some (Slc.v v18)/\(pJ v17 v18 (fun r19 h20=>tK a_ b_ r19 k h20) h_4))) else (tK a_ b_ false k h_4)
def tL (a_:Addr) (b_:Addr) (d_:Bool) (k:KP Bool) (h_3:Heap):Prop :=
  if d_ then (∃ v21,ah h_3 (a_.add 27)=some (Slc.v v21)/\(∃ v22,ah h_3 (b_.add 27)=some (Slc.v v22)/\(pJ v21 v22 (fun r23 h24=>sW a_ b_ r23 k h24) h_3))) else (sW a_ b_ false k h_3)
def sS (a_:Addr) (b_:Addr) (d_:Bool) (k:KP Bool) (h_2:Heap):Prop :=
  if d_ then (∃ v25,ah h_2 (a_.add 3)=some (Slc.v v25)/\(∃ v26,ah h_2 (b_.add 3)=some (Slc.v v26)/\(zo v25 v26 (fun r27 h28=>tL a_ b_ r27 k h28) h_2))) else (tL a_ b_ false k h_2)
def sO (a_:Addr) (b_:Addr) (d_:Bool) (k:KP Bool) (h_1:Heap):Prop :=
  if d_ then (∃ v29,ah h_1 (a_.add 2)=some (.string v29)/\(∃ v30,ah h_1 (b_.add 2)=some (.string v30)/\(sS a_ b_ (v29.toList == v30.toList) k h_1))) else (sS a_ b_ false k h_1)
def sF (p0:aj) (p1:aj) (k:KP Bool) (h:Heap):Prop :=
  ∃ b1 h2,b1=h.size/\h2=h.push (.cells (aj.cs p0).toArray 39)/\(∃ b3 h4,b3=h2.size/\h4=h2.push (.cells (aj.cs p1).toArray 39)/\(∃ v5,ah h4 (ad b1)=some (.int .u64 v5)/\(∃ v6,ah h4 (ad b3)=some (.int .u64 v6)/\(if (v5 == v6) then (∃ v31,ah h4 ((ad b1).add 1)=some (.int .i64 v31)/\(∃ v32,ah h4 ((ad b3).add 1)=some (.int .i64 v32)/\(sO (ad b1) (ad b3) (v31 == v32) k h4))) else (sO (ad b1) (ad b3) false k h4)))))
theorem O41:aF prog 41:=ck func41
theorem R41 (p0 p1 k h) (H:lH p0 p1 k h):CallsH prog 41 #[Slc.v p0,.int .i64 p1] h (rI .i64 k):=by
 refine fE func41 fun w0=>?_
 refine zF [0,1] (zQ ?_)
 refine w1 Z (zE (zS (zQ ?_)))
 refine w3 Z (zE (zB ?_))
 obtain ⟨I1,μ1,H0,HI⟩:=H
 refine zO (σ:=Int) [0,1,7] (fun (s:Int)=>[(8,.int .i64 s)]) I1 μ1 0 H0 ?_
 rintro a_ h_1 H
 replace H:=HI a_ h_1 H
 refine zF [8,0,1,7] (zQ ?_)
 refine w1 Z (zE (zS ?_))
 refine zI H ?_ ?_ <;> intro H
 refine zK (zX (zS (zB (zQ (w2 Z (zE (zQ ?_)))))))
 refine w3 Z ?_
 refine wD Z H fun a1 _ H=>?_
 refine wL Z H fun v2 H=>?_
 refine w1 Z (zE (zF [8,0,1,7,5,16] ?_))
 refine zI H ?_ ?_ <;> intro H
 refine zQ (w2 Z (zE (zF [4] (zT (yB (yT (yT (yB (yT ?_)))))))))
 exact aB _ rfl _ rfl ⟨a_,rfl,H⟩
 refine zK (yL (zX (zR (w2 Z (zW ?_)))))
 exact xJ (IntKind.i64.wrap (a_ + 1)) H
 refine zY (yE (yE (yH (zX (zQ ?_)))))
 refine wQ Z H fun x3 H=>?_
 refine zE (zT ?_)
 exact aB _ rfl _ rfl ⟨x3,rfl,H⟩
theorem O28:aF prog 28:=ck func28
theorem R28 (p0 p1 k h) (H:dJ p0 p1 k h):CallsH prog 28 #[Slc.v p0,.int .i64 p1] h (rB k):=by
 refine fE func28 fun w0=>?_
 refine zF [0,1] (zQ ?_)
 refine w1 Z (zE (zQ ?_))
 refine w2 Z ?_
 refine wC O41 (R41 _ _ _ _ H) fun r1 h2 H=>?_
 refine w2 Z (zE (zT ?_))
 exact aB _ rfl _ rfl ⟨(decide (r1>=0)),rfl,H⟩
theorem O54:aF prog 54:=ck func54
theorem R54 (p0 k h) (H:gF p0 k h):CallsH prog 54 #[Slc.v p0] h (rS k):=by
 refine fE func54 fun w0=>?_
 refine zF [0] (zQ ?_)
 refine w1 Z (zE (zS (zQ ?_)))
 refine w2 Z (zE ?_)
 refine zI H ?_ ?_ <;> intro H
 refine zQ (w1 Z (zE (zT (yT ?_))))
 exact aB _ rfl _ rfl ⟨(⟨none,0,0⟩:Slc),rfl,H⟩
 refine zK (zX (zQ ?_))
 obtain ⟨b1,h2,eb1,eh2,H⟩:=H
 refine wH (nJ Z rfl rfl rfl rfl rfl rfl rfl eb1 eh2) ?_
 refine w1 Z ?_
 obtain ⟨l5,hl5,H⟩:=H
 refine wA (ji (s:=(⟨some ⟨b1,0,none⟩,0,0⟩:Slc)) (r:=p0) Z rfl rfl rfl rfl rfl hl5 H) ?_
 rintro _ h4 ⟨s3,rfl,H⟩
 refine w1 Z (zE (zT ?_))
 exact aB _ rfl _ rfl ⟨s3,rfl,H⟩
theorem O55:aF prog 55:=ck func55
theorem R55 (p0 k h) (H:mr p0 k h):CallsH prog 55 #[Slc.v p0] h (rS k):=by
 refine fE func55 fun w0=>?_
 refine zF [0] (zQ ?_)
 refine w1 Z (zE (zS (zQ ?_)))
 refine w2 Z (zE ?_)
 refine zI H ?_ ?_ <;> intro H
 refine zQ (w1 Z (zE (zT (yT ?_))))
 exact aB _ rfl _ rfl ⟨(⟨none,0,0⟩:Slc),rfl,H⟩
 refine zK (zX (zQ ?_))
 obtain ⟨b1,h2,eb1,eh2,H⟩:=H
 refine wH (nJ Z rfl rfl rfl rfl rfl rfl rfl eb1 eh2) ?_
 refine w1 Z ?_
 obtain ⟨l5,hl5,H⟩:=H
 refine wA (ji (s:=(⟨some ⟨b1,0,none⟩,0,0⟩:Slc)) (r:=p0) Z rfl rfl rfl rfl rfl hl5 H) ?_
 rintro _ h4 ⟨s3,rfl,H⟩
 refine w1 Z (zE (zT ?_))
 exact aB _ rfl _ rfl ⟨s3,rfl,H⟩
theorem O56:aF prog 56:=ck func56
theorem R56 (p0 k h) (H:jM p0 k h):CallsH prog 56 #[Slc.v p0] h (rS k):=by
 refine fE func56 fun w0=>?_
 refine zF [0] (zQ ?_)
 refine w1 Z (zE (zS (zQ ?_)))
 refine w2 Z (zE ?_)
 refine zI H ?_ ?_ <;> intro H
 refine zQ (w1 Z (zE (zT (yT ?_))))
 exact aB _ rfl _ rfl ⟨(⟨none,0,0⟩:Slc),rfl,H⟩
 refine zK (zX (zQ ?_))
 obtain ⟨b1,h2,eb1,eh2,H⟩:=H
 refine wH (nJ Z rfl rfl rfl rfl rfl rfl rfl eb1 eh2) ?_
 refine w1 Z ?_
 obtain ⟨l5,hl5,H⟩:=H
 refine wA (ji (s:=(⟨some ⟨b1,0,none⟩,0,0⟩:Slc)) (r:=p0) Z rfl rfl rfl rfl rfl hl5 H) ?_
 rintro _ h4 ⟨s3,rfl,H⟩
 refine w1 Z (zE (zT ?_))
 exact aB _ rfl _ rfl ⟨s3,rfl,H⟩
theorem O57:aF prog 57:=ck func57
theorem R57 (p0 k h) (H:nV p0 k h):CallsH prog 57 #[Slc.v p0] h (rS k):=by
 refine fE func57 fun w0=>?_
 refine zF [0] (zQ ?_)
 refine w1 Z (zE (zS (zQ ?_)))
 refine w2 Z (zE ?_)
 refine zI H ?_ ?_ <;> intro H
 refine zQ (w1 Z (zE (zT (yT ?_))))
 exact aB _ rfl _ rfl ⟨(⟨none,0,0⟩:Slc),rfl,H⟩
 refine zK (zX (zQ ?_))
 obtain ⟨b1,h2,eb1,eh2,H⟩:=H
 refine wH (nJ Z rfl rfl rfl rfl rfl rfl rfl eb1 eh2) ?_
 refine w1 Z ?_
 obtain ⟨l5,hl5,H⟩:=H
 refine wA (ji (s:=(⟨some ⟨b1,0,none⟩,0,0⟩:Slc)) (r:=p0) Z rfl rfl rfl rfl rfl hl5 H) ?_
 rintro _ h4 ⟨s3,rfl,H⟩
 refine w1 Z (zE (zT ?_))
 exact aB _ rfl _ rfl ⟨s3,rfl,H⟩
theorem O19:aF prog 19:=ck func19
theorem R19 (p0 k h) (H:nU p0 k h):CallsH prog 19 #[.agg (aj.cs p0).toArray] h (rI .i64 k):=by
 refine fE func19 fun w0=>?_
 refine zF [0] (zQ ?_)
 refine wX H fun b1 h2 H=>?_
 refine w1 Z (zE (zS (zQ ?_)))
 refine w1 Z ?_
 refine wL Z H fun v3 H=>?_
 refine zE (zB (zQ (w2 Z (zE ?_))))
 refine zI H ?_ ?_ <;> intro H
 refine zQ (w1 Z ?_)
 refine wL Z H fun v4 H=>?_
 refine w2 Z ?_
 refine wQ Z H fun x5 H=>?_
 refine zE (zF [2] (zT (yB (yT ?_))))
 exact aB _ rfl _ rfl ⟨x5,rfl,H⟩
 refine zQ (w2 Z (zE ?_))
 refine zI H ?_ ?_ <;> intro H
 refine zQ (w1 Z ?_)
 refine wL Z H fun v6 H=>?_
 refine w3 Z ?_
 refine wQ Z H fun x7 H=>?_
 refine zE (zF [2] (zT (yB (yT ?_))))
 exact aB _ rfl _ rfl ⟨x7,rfl,H⟩
 refine zQ (w2 Z (zE (zF [18] ?_)))
 refine zI H ?_ ?_ <;> intro H
 refine zQ (w1 Z (zE (zT (yB (yT ?_)))))
 exact aB _ rfl _ rfl ⟨1,rfl,H⟩
 refine zK (yL (zX (zQ (w1 Z (zE (zT ?_))))))
 exact aB _ rfl _ rfl ⟨0,rfl,H⟩
theorem O33:aF prog 33:=ck func33
theorem R33 (p0 k h) (H:vo p0 k h):CallsH prog 33 #[Slc.v p0] h (rB k):=by
 refine fE func33 fun w0=>?_
 refine zF [0] (zQ ?_)
 refine w1 Z (zE (zS (zQ ?_)))
 refine w3 Z (zE (zB ?_))
 obtain ⟨I1,μ1,H0,HI⟩:=H
 refine zO (σ:=Int) [0,5,6] (fun (s:Int)=>[(7,.int .i64 s)]) I1 μ1 0 H0 ?_
 rintro a_ h_1 H
 replace H:=HI a_ h_1 H
 refine zF [7,0,5,6] (zQ ?_)
 refine w1 Z (zE (zS ?_))
 refine zI H ?_ ?_ <;> intro H
 refine zK (zX (zS (zB (zQ (w1 Z ?_)))))
 refine wD Z H fun a1 _ H=>?_
 refine wL Z H fun v2 H=>?_
 refine w2 Z (zE (zQ ?_))
 refine w2 Z ?_
 obtain ⟨s3,ps3,qs3,rs3,ts3,es3,H⟩:=H
 refine wYe (Jg (s:=p0) (L:=0) (H:=a_) (M:=(p0.cap:Int)) Z rfl rfl rfl rfl rfl rfl rfl (by simp) ps3 qs3 rs3 ts3) (congrArg Slc.v es3) ?_
 refine w1 Z ?_
 refine wC O28 (R28 _ _ _ _ H) fun r4 h5 H=>?_
 refine zE (zF [7,0,5,6,16] ?_)
 refine zI H ?_ ?_ <;> intro H
 refine zQ (w1 Z (zE (zT (yB (yT (yT (yB (yT ?_))))))))
 exact aB _ rfl _ rfl ⟨true,rfl,H⟩
 refine zK (yL (zX (zR (w2 Z (zW ?_)))))
 exact xJ (IntKind.i64.wrap (a_ + 1)) H
 refine zY (yE (yE (yH (zX (zQ (w1 Z (zE (zT ?_))))))))
 exact aB _ rfl _ rfl ⟨false,rfl,H⟩
theorem O34:aF prog 34:=ck func34
theorem R34 (p0 k h) (H:qh p0 k h):CallsH prog 34 #[.agg (aj.cs p0).toArray] h (fun v h'=>∃ r:aj,v = .agg (aj.cs r).toArray/\k r h'):=by
 refine fE func34 fun w0=>?_
 refine zF [0] (zQ ?_)
 refine wX H fun b1 h2 H=>?_
 refine wB Z H fun b3 h4 H=>?_
 refine zE (zS ?_)
 refine gB [1,2] ?_
 refine gT 0 [1] Z ?_
 refine gl 1 [3] Z H fun v5 H=>?_
 refine gT 3 [1] Z ?_
 refine gl 4 [6] Z H fun v6 H=>?_
 refine gT 6 [1] Z ?_
 refine gl 7 [9] Z H fun v7 H=>?_
 refine gT 9 [1] Z ?_
 refine gl 10 [12] Z H fun v8 H=>?_
 refine gCr 2 [4] O54 (R54 _ _ _ H) fun r9 h10 H=>?_
 obtain ⟨hy11,hy12,hy13,H⟩:=H
 refine gR rfl (fq Z rfl rfl rfl rfl hy11) ?_
 refine gR rfl (fq Z rfl rfl rfl rfl hy12) ?_
 refine gR rfl (fq Z rfl rfl rfl rfl hy13) ?_
 refine gZ0 ?_
 refine gT 12 [1] Z ?_
 refine gCr 5 [7] O55 (R55 _ _ _ H) fun r14 h15 H=>?_
 obtain ⟨hy16,hy17,H⟩:=H
 refine gR rfl (fq Z rfl rfl rfl rfl hy16) ?_
 refine gR rfl (fq Z rfl rfl rfl rfl hy17) ?_
 refine gZ0 ?_
 refine gCr 8 [10] O55 (R55 _ _ _ H) fun r18 h19 H=>?_
 obtain ⟨hy20,H⟩:=H
 refine gR rfl (fq Z rfl rfl rfl rfl hy20) ?_
 refine gZ0 ?_
 refine gC 11 [13] O56 (R56 _ _ _ H) fun r21 h22 H=>?_
 refine gs 13 [5,15] Z H fun h23 H=>?_
 refine gT 14 [1] Z ?_
 refine gs 15 [8,16] Z H fun h24 H=>?_
 refine gT 16 [1] Z ?_
 refine gs 17 [11,17] Z H fun h25 H=>?_
 refine gT 18 [1] Z ?_
 refine gs 19 [14,18] Z H fun h26 H=>?_
 refine gZ ?_
 refine zX (zF [1,2] (zQ ?_))
 refine w2 Z ?_
 refine wL Z H fun v27 H=>?_
 refine wC O57 (R57 _ _ _ H) fun r28 h29 H=>?_
 refine w2 Z ?_
 refine wT Z H fun h30 H=>?_
 refine zE (zQ ?_)
 refine wLa Z H fun v31 H=>?_
 refine wTa Z H fun h32 H=>?_
 refine zE (zF [2] (zT ?_))
 obtain ⟨v33,hv33,H⟩:=H
 exact fu Z _ rfl [.agg (aj.cs v33).toArray] ⟨⟨_,_,rfl,rfl,.inr ⟨rfl,_,rfl,rfl,hv33⟩⟩,trivial⟩ ⟨v33,rfl,H⟩
theorem O5:aF prog 5:=ck func5
theorem R5 ( k h) (H:wV k h):CallsH prog 5 #[] h (fun v h'=>∃ r:Option Addr,v = .pointer r/\k r h'):=by
 refine fE func5 fun w0=>?_
 refine zQ (w1 Z (zE (zQ ?_)))
 obtain ⟨b1,h2,eb1,eh2,H⟩:=H
 refine wH (Lx rfl eb1 eh2) ?_
 refine wY (bU Z rfl rfl rfl rfl rfl) ?_
 refine wX H fun b3 h4 H=>?_
 refine w1 Z (zE (zT ?_))
 exact aB _ rfl _ rfl ⟨(some (ad b3)),rfl,H⟩
theorem O13:aF prog 13:=ck func13
theorem R13 (p0 p1 k h) (H:lJ p0 p1 k h):CallsH prog 13 #[.pointer p0,.agg (aj.cs p1).toArray] h (rI .i64 k):=by
 refine fE func13 fun w0=>?_
 refine zF [0,1] (zQ ?_)
 refine wX H fun b1 h2 H=>?_
 refine w1 Z (zE (zS (zQ ?_)))
 refine w3 Z ?_
 refine vJ 4 (α:=Bool) [0,3] (fun (s:Bool)=>[(13,.bool s)]) (fun (s:Bool) h=>lW p0 (ad b1) s k h) ?_ ?_
 rintro a_ h_1 H
 refine vF [13,0,3] ?_
 refine w1 Z ?_
 refine vJ 5 (α:=Bool) [0,3] (fun (s:Bool)=>[(19,.bool s)]) (fun (s:Bool) h=>fJ p0 (ad b1) s k h) ?_ ?_
 rintro b_ h_2 H
 refine vF [19,0,3] ?_
 refine w1 Z ?_
 refine vJ 4 (α:=Bool) [0,3] (fun (s:Bool)=>[(24,.bool s)]) (fun (s:Bool) h=>fH p0 (ad b1) s k h) ?_ ?_
 rintro d_ h_3 H
 refine vF [24,0,3] (zE ?_)
 refine zI H ?_ ?_ <;> intro H
 refine zQ (w1 Z (zE (zT (yT ?_))))
 exact aB _ rfl _ rfl ⟨1,rfl,H⟩
 refine zK (zX (zS (zS ?_)))
 refine qZ (by kernel_rfl) (by kernel_rfl) ?_
 refine qp Z ?_
 obtain ⟨a3,ha3,H⟩:=H
 refine q_y (bP rfl rfl ha3) rfl rfl ?_
 refine qp Z ?_
 obtain ⟨v4,hv4,H⟩:=H
 refine q_y (fq Z rfl rfl rfl rfl hv4) rfl rfl ?_
 refine qp Z ?_
 obtain ⟨v5,hv5,H⟩:=H
 refine q_y (fq Z rfl rfl rfl rfl hv5) rfl rfl ?_
 obtain ⟨l6,hl6,H⟩:=H
 refine q_y (Jj (K:=Int) (V:=(Option Addr)) (d:=(.int .u64)) (kf:=(Value.int .u64)) (vf:=(fun v:Option Addr=>(.pointer v:Value))) (kt:=25) (et:=65) (k:=v5) (z:=none) (m:=v4) (l:=l6) rfl rfl rfl (by kernel_rfl) (by kernel_rfl) (IK .u64) (DC Z (T:=tab) rfl rfl rfl) hl6) rfl rfl ?_
 refine qp Z ?_
 refine qp Z ?_
 refine qp Z ?_
 refine qp Z ?_
 refine qp Z ?_
 refine xK ?_
 refine zX (zF [0,3,6] (zQ ?_))
 refine w1 Z (zE ?_)
 refine zI H ?_ ?_ <;> intro H
 refine zQ (w1 Z (zE (zT (yT ?_))))
 exact aB _ rfl _ rfl ⟨7,rfl,H⟩
 refine zK (zX (zQ ?_))
 refine wLa Z H fun v7 H=>?_
 refine wC O34 (R34 _ _ _ H) fun r8 h9 H=>?_
 refine wTa Z H fun h10 H=>?_
 refine zE (zQ (w1 Z ?_))
 refine wT Z H fun h11 H=>?_
 refine w1 Z ?_
 refine wT Z H fun h12 H=>?_
 refine w1 Z ?_
 refine wT Z H fun h13 H=>?_
 refine w1 Z ?_
 refine wT Z H fun h14 H=>?_
 refine w1 Z ?_
 refine wT Z H fun h15 H=>?_
 refine zE (zF [0,3] ?_)
 refine zJ (α:=Unit) [0,3] (fun (s:Unit)=>[]) (fun (s:Unit) h=>iV p0 (ad b1) k h) ?_ ?_
 rintro _ h_4 H
 refine zF [0,3] (zS ?_)
 refine gB [0,3] ?_
 refine gT 0 [0] Z ?_
 obtain ⟨a16,ha16,H⟩:=H
 refine gY 1 [47] rfl (fun _=>bP rfl rfl ha16) ?_
 refine gT 2 [48] Z ?_
 refine gl 3 [49] Z H fun v17 H=>?_
 refine gT 4 [3] Z ?_
 refine gl 5 [51] Z H fun v18 H=>?_
 obtain ⟨r19,l20,h21,er19,hl20,eh21,H⟩:=H
 refine gH 6 [3,50,52] rfl (Qa (K:=Int) (V:=(Option Addr)) (d:=(.int .u64)) (kf:=(Value.int .u64)) (vf:=(fun v:Option Addr=>(.pointer v:Value))) (kt:=25) (et:=65) (k:=v18) (v:=(some (ad b1))) (m:=v17) (l:=l20) rfl rfl rfl rfl (by kernel_rfl) (by kernel_rfl) (IK .u64) er19 hl20 eh21) ?_
 refine gZ ?_
 refine zX (zF [] (zQ ?_))
 refine w1 Z (zE (zT ?_))
 exact aB _ rfl _ rfl ⟨0,rfl,H⟩
 refine zQ (w1 Z ?_)
 refine wL Z H fun v22 H=>?_
 refine w1 Z (zE ?_)
 refine zI H ?_ ?_ <;> intro H
 refine zR (w1 Z ?_)
 refine wT Z H fun h23 H=>?_
 refine zW ?_
 exact xJ () H
 refine zK ?_
 exact xJ () H
 refine vI 20 H ?_ ?_ <;> intro H
 refine wS (wS (wS (w1 Z ?_)))
 exact wJ true H
 refine w1 Z ?_
 refine wL Z H fun v24 H=>?_
 refine wC O33 (R33 _ _ _ H) fun r25 h26 H=>?_
 refine w1 Z ?_
 exact wJ r25 H
 refine vI 14 H ?_ ?_ <;> intro H
 refine wS (wS (wS (wS (w1 Z ?_))))
 exact wJ true H
 refine w1 Z ?_
 refine wL Z H fun v27 H=>?_
 refine w3 Z ?_
 exact wJ ((v27.len:Int) == 0) H
 refine vI 9 H ?_ ?_ <;> intro H
 refine wS (wS (wS (w1 Z ?_)))
 exact wJ true H
 refine wLa Z H fun v28 H=>?_
 refine wC O19 (R19 _ _ _ H) fun r29 h30 H=>?_
 refine w2 Z ?_
 exact wJ (r29 == 0) H
theorem O27:aF prog 27:=ck func27
theorem R27 (p0 p1 p2 k h) (H:nI p0 p1 p2 k h):CallsH prog 27 #[.pointer p0,.int .u64 p1,.int .i64 p2] h (fun v h'=>∃ r:Option Addr × Bool,v = .tuple #[.pointer r.1,.bool r.2]/\k r h'):=by
 refine fE func27 fun w0=>?_
 refine zF [0,1,2] (zQ ?_)
 refine w2 Z (zE (zS (zQ ?_)))
 refine w2 Z (zE ?_)
 refine zI H ?_ ?_ <;> intro H
 refine zQ (w2 Z (zE (zT (yT ?_))))
 exact aB _ rfl _ rfl ⟨(none,false),rfl,H⟩
 refine zK (zX (zQ (w1 Z ?_)))
 refine wN H fun a1 _ H=>?_
 refine w1 Z ?_
 refine wL Z H fun v2 H=>?_
 refine w1 Z ?_
 obtain ⟨l3,hl3,H⟩:=H
 refine wY (Jj (K:=Int) (V:=(Option Addr)) (d:=(.int .u64)) (kf:=(Value.int .u64)) (vf:=(fun v:Option Addr=>(.pointer v:Value))) (kt:=25) (et:=65) (k:=p1) (z:=none) (m:=v2) (l:=l3) rfl rfl rfl (by kernel_rfl) (by kernel_rfl) (IK .u64) (DC Z (T:=tab) rfl rfl rfl) hl3) ?_
 refine w5 Z (zE (zF [2,8,9] (zQ ?_)))
 refine w3 Z ?_
 refine vJ 6 (α:=Bool) [2,8,21] (fun (s:Bool)=>[(29,.bool s)]) (fun (s:Bool) h=>jQ p2 ((jP l3 p1).getD none) ((jP l3 p1).getD none) s k h) ?_ ?_
 rintro b_ h_1 H
 refine vF [29,2,8,21] ?_
 refine w1 Z ?_
 refine vJ 7 (α:=Bool) [21] (fun (s:Bool)=>[(37,.bool s)]) (fun (s:Bool) h=>gQ ((jP l3 p1).getD none) s k h) ?_ ?_
 rintro a_ h_2 H
 refine vF [37,21] ?_
 refine w2 Z (zE (zT ?_))
 exact aB _ rfl _ rfl ⟨(((jP l3 p1).getD none),a_),rfl,H⟩
 refine vI 30 H ?_ ?_ <;> intro H
 refine w1 Z ?_
 refine wN H fun a4 _ H=>?_
 refine w1 Z ?_
 refine wL Z H fun v5 H=>?_
 refine w1 Z ?_
 refine wC O28 (R28 _ _ _ _ H) fun r6 h7 H=>?_
 refine w1 Z ?_
 exact wJ r6 H
 refine wS (wS (wS (wS (wS (wS (w1 Z ?_))))))
 exact wJ false H
 refine vI 23 H ?_ ?_ <;> intro H
 refine w1 Z ?_
 refine wN H fun a8 _ H=>?_
 refine w1 Z ?_
 refine wL Z H fun v9 H=>?_
 refine w2 Z ?_
 exact wJ (!v9) H
 refine wS (wS (wS (wS (wS (w1 Z ?_)))))
 exact wJ false H
theorem O31:aF prog 31:=ck func31
theorem R31 (p0 p1 k h) (H:xI p0 p1 k h):CallsH prog 31 #[.int .i64 p0,.int .i64 p1] h (rB k):=by
 refine fE func31 fun w0=>?_
 refine zF [0,1] (zQ ?_)
 refine w1 Z (zE (zS (zQ ?_)))
 refine w1 Z (zE (zB ?_))
 refine zJ (α:=Bool) [0,5] (fun (s:Bool)=>[(6,.bool s)]) (fun (s:Bool) h=>pq p0 p1 s k h) ?_ ?_
 rintro a_ h_1 H
 refine zF [6,0,5] ?_
 refine zI H ?_ ?_ <;> intro H
 refine zQ (w1 Z (zE (zT (yB (yT ?_)))))
 exact aB _ rfl _ rfl ⟨true,rfl,H⟩
 refine zJ (α:=Bool) [0] (fun (s:Bool)=>[(10,.bool s)]) (fun (s:Bool) h=>kC p0 s k h) ?_ ?_
 rintro b_ h_2 H
 refine zF [10,0] ?_
 refine zI H ?_ ?_ <;> intro H
 refine zQ (w1 Z (zE (zT (yB (yT ?_)))))
 exact aB _ rfl _ rfl ⟨false,rfl,H⟩
 refine zK (yL (zX (zQ (w3 Z (zE (zT ?_))))))
 exact aB _ rfl _ rfl ⟨(p0 == 3),rfl,H⟩
 refine zQ (w2 Z (zE ?_))
 refine zI H ?_ ?_ <;> intro H
 refine zK ?_
 exact xJ (p1 == 0) H
 refine zQ (w2 Z (zE ?_))
 refine zI H ?_ ?_ <;> intro H
 refine zK ?_
 exact xJ (p1 == 18) H
 refine zQ (w2 Z (zE ?_))
 refine zI H ?_ ?_ <;> intro H
 refine zK ?_
 exact xJ (p1 == 14) H
 refine zQ (w2 Z (zE ?_))
 refine zI H ?_ ?_ <;> intro H
 refine zK ?_
 exact xJ (p1 == 11) H
 refine zR (w2 Z (zW ?_))
 exact xJ (p1 == 15) H
 refine zQ (w2 Z (zE ?_))
 refine zI H ?_ ?_ <;> intro H
 refine zK ?_
 exact xJ (p1 == 1) H
 refine zQ (w2 Z (zE ?_))
 refine zI H ?_ ?_ <;> intro H
 refine zK ?_
 exact xJ (p1 == 3) H
 refine zR (w2 Z (zW ?_))
 exact xJ (p1 == 17) H
theorem O11:aF prog 11:=ck func11
theorem R11 (p0 p1 p2 p3 k h) (H:rH p0 p1 p2 p3 k h):CallsH prog 11 #[.pointer p0,.int .u64 p1,.int .i64 p2,.int .i64 p3] h (rB k):=by
 refine fE func11 fun w0=>?_
 refine zF [0,1,2,3] (zQ ?_)
 refine w1 Z (zE (zQ ?_))
 refine w3 Z ?_
 refine wC O27 (R27 _ _ _ _ _ H) fun r1 h2 H=>?_
 refine w5 Z (zE (zF [3,9,10] (zS (zQ ?_))))
 refine w3 Z ?_
 refine vJ 8 (α:=Bool) [3,9] (fun (s:Bool)=>[(28,.bool s)]) (fun (s:Bool) h=>jA p3 r1.1 s k h) ?_ ?_
 rintro a_ h_1 H
 refine vF [28,3,9] (zE ?_)
 refine zI H ?_ ?_ <;> intro H
 refine zQ (w1 Z (zE (zT (yT ?_))))
 exact aB _ rfl _ rfl ⟨false,rfl,H⟩
 refine zK (zX (zQ (w3 Z ?_)))
 refine wN H fun a3 ha3 H=>?_
 refine w1 Z ?_
 refine wT Z H fun h4 H=>?_
 refine wY (bP rfl rfl ha3) ?_
 refine w1 Z ?_
 refine wT Z H fun h5 H=>?_
 refine zE (zF [] (zQ ?_))
 refine w1 Z (zE (zT ?_))
 exact aB _ rfl _ rfl ⟨true,rfl,H⟩
 refine vI 20 H ?_ ?_ <;> intro H
 refine wS (wS (wS (wS (wS (wS (wS (w1 Z ?_)))))))
 exact wJ true H
 refine w1 Z ?_
 refine wN H fun a6 _ H=>?_
 refine w1 Z ?_
 refine wL Z H fun v7 H=>?_
 refine w1 Z ?_
 refine wC O31 (R31 _ _ _ _ H) fun r8 h9 H=>?_
 refine w2 Z ?_
 exact wJ (!r8) H
theorem O24:aF prog 24:=ck func24
theorem R24 (p0 p1 k h) (H:mO p0 p1 k h):CallsH prog 24 #[.pointer p0,.int .u64 p1] h (fun v h'=>∃ r:aj × Int,v = .tuple #[.agg (aj.cs r.1).toArray,.int .i64 r.2]/\k r h'):=by
 refine fE func24 fun w0=>?_
 refine zF [0,1] (zQ ?_)
 refine wB Z H fun b1 h2 H=>?_
 refine w1 Z (zE (zS (zQ ?_)))
 refine w2 Z (zE ?_)
 refine zI H ?_ ?_ <;> intro H
 refine zQ ?_
 refine wY (bU Z rfl rfl rfl rfl rfl) ?_
 refine wTa Z H fun h3 H=>?_
 refine w1 Z (zE (zT (yT ?_)))
 obtain ⟨v4,hv4,H⟩:=H
 exact fu Z _ rfl [.agg (aj.cs v4).toArray,.int .i64 6] ⟨⟨_,_,rfl,rfl,.inr ⟨rfl,_,rfl,rfl,hv4⟩⟩,rfl,trivial⟩ ⟨(v4,6),rfl,H⟩
 refine zK (zX (zQ (w1 Z ?_)))
 refine wN H fun a5 _ H=>?_
 refine w1 Z ?_
 refine wL Z H fun v6 H=>?_
 refine w1 Z ?_
 obtain ⟨l7,hl7,H⟩:=H
 refine wY (Jj (K:=Int) (V:=(Option Addr)) (d:=(.int .u64)) (kf:=(Value.int .u64)) (vf:=(fun v:Option Addr=>(.pointer v:Value))) (kt:=25) (et:=65) (k:=p1) (z:=none) (m:=v6) (l:=l7) rfl rfl rfl (by kernel_rfl) (by kernel_rfl) (IK .u64) (DC Z (T:=tab) rfl rfl rfl) hl7) ?_
 refine w5 Z (zE (zF [4,6,7] (zS (zQ ?_))))
 refine w2 Z (zE ?_)
 refine zI H ?_ ?_ <;> intro H
 refine zQ ?_
 refine wY (bU Z rfl rfl rfl rfl rfl) ?_
 refine wTa Z H fun h8 H=>?_
 refine w1 Z (zE (zT (yT ?_)))
 obtain ⟨v9,hv9,H⟩:=H
 exact fu Z _ rfl [.agg (aj.cs v9).toArray,.int .i64 6] ⟨⟨_,_,rfl,rfl,.inr ⟨rfl,_,rfl,rfl,hv9⟩⟩,rfl,trivial⟩ ⟨(v9,6),rfl,H⟩
 refine zK (zX (zQ (w1 Z ?_)))
 refine wN H fun a10 _ H=>?_
 refine wLa Z H fun v11 H=>?_
 refine wC O34 (R34 _ _ _ H) fun r12 h13 H=>?_
 refine wTa Z H fun h14 H=>?_
 refine w1 Z (zE (zF [4,5] (zT ?_)))
 obtain ⟨v15,hv15,H⟩:=H
 exact fu Z _ rfl [.agg (aj.cs v15).toArray,.int .i64 0] ⟨⟨_,_,rfl,rfl,.inr ⟨rfl,_,rfl,rfl,hv15⟩⟩,rfl,trivial⟩ ⟨(v15,0),rfl,H⟩
theorem O8:aF prog 8:=ck func8
theorem R8 (p0 p1 k h) (H:iC p0 p1 k h):CallsH prog 8 #[.pointer p0,.int .u64 p1] h (fun v h'=>∃ r:aj × Int,v = .tuple #[.agg (aj.cs r.1).toArray,.int .i64 r.2]/\k r h'):=by
 refine fE func8 fun w0=>?_
 refine zF [0,1] (zQ ?_)
 refine wB Z H fun b1 h2 H=>?_
 refine w1 Z (zE (zQ ?_))
 refine w2 Z ?_
 refine wC O24 (R24 _ _ _ _ H) fun r3 h4 H=>?_
 refine w3 Z ?_
 refine wB Z H fun b5 h6 H=>?_
 refine wTa Z H fun h7 H=>?_
 refine w1 Z (zE (zF [4,6,7] (zS (zQ ?_))))
 refine w3 Z ?_
 refine vJ 4 (α:=Bool) [4,6,7] (fun (s:Bool)=>[(20,.bool s)]) (fun (s:Bool) h=>iy (ad b1) (ad b5) r3.2 s k h) ?_ ?_
 rintro a_ h_1 H
 refine vF [20,4,6,7] (zE ?_)
 refine zI H ?_ ?_ <;> intro H
 refine zQ ?_
 refine wY (bU Z rfl rfl rfl rfl rfl) ?_
 refine wTa Z H fun h8 H=>?_
 refine w1 Z (zE (zT (yT ?_)))
 obtain ⟨v9,hv9,H⟩:=H
 exact fu Z _ rfl [.agg (aj.cs v9).toArray,.int .i64 14] ⟨⟨_,_,rfl,rfl,.inr ⟨rfl,_,rfl,rfl,hv9⟩⟩,rfl,trivial⟩ ⟨(v9,14),rfl,H⟩
 refine zK (zX (zQ ?_))
 refine wLa Z H fun v10 H=>?_
 refine w1 Z ?_
 refine wTa Z H fun h11 H=>?_
 refine w1 Z (zE (zT ?_))
 obtain ⟨v12,hv12,H⟩:=H
 exact fu Z _ rfl [.agg (aj.cs v12).toArray,.int .i64 r3.2] ⟨⟨_,_,rfl,rfl,.inr ⟨rfl,_,rfl,rfl,hv12⟩⟩,rfl,trivial⟩ ⟨(v12,r3.2),rfl,H⟩
 refine vI 16 H ?_ ?_ <;> intro H
 refine w1 Z ?_
 refine wL Z H fun v13 H=>?_
 refine w2 Z ?_
 exact wJ (!v13) H
 refine wS (wS (wS (w1 Z ?_)))
 exact wJ false H
theorem O26:aF prog 26:=ck func26
theorem R26 (p0 p1 k h) (H:uz p0 p1 k h):CallsH prog 26 #[Slc.v p0,.int .i64 p1] h (rB k):=by
 refine fE func26 fun w0=>?_
 refine zF [0,1] (zQ ?_)
 refine w1 Z (zE (zS (zQ ?_)))
 refine w1 Z (zE (zB ?_))
 obtain ⟨I1,μ1,H0,HI⟩:=H
 refine zO (σ:=Int) [0,1] (fun (s:Int)=>[(5,.int .i64 s)]) I1 μ1 0 H0 ?_
 rintro a_ h_1 H
 replace H:=HI a_ h_1 H
 refine zF [5,0,1] (zS (zQ ?_))
 refine w5 Z ?_
 refine vU 4 [0,1,5] [(14,.bool ((decide (a_ < (p0.len:Int))) && (decide (a_ < p1))))] ?_ ?_
 refine zE ?_
 refine zI H ?_ ?_ <;> intro H
 refine zK (zX (zS (zB (zQ (w2 Z ?_)))))
 refine wD Z H fun a1 _ H=>?_
 refine w1 Z ?_
 refine wL Z H fun v2 H=>?_
 refine w2 Z (zE (zF [0,1,5,23] ?_))
 refine zI H ?_ ?_ <;> intro H
 refine zQ (w1 Z (zE (zT (yB (yT (yT (yB (yT ?_))))))))
 exact aB _ rfl _ rfl ⟨true,rfl,H⟩
 refine zK (yL (zX (zR (w2 Z ?_))))
 refine wQ Z H fun x3 H=>?_
 refine zW ?_
 exact xJ x3 H
 refine zY (yE (yE (yH (zX (zQ (w5 Z (zE (zF [4] (zT ?_)))))))))
 exact aB _ rfl _ rfl ⟨(decide ((p0.len:Int) > p1)),rfl,H⟩
 refine vG (d:=10) (fun hb=>?_) (fun hb=>?_)
 refine w4 Z ?_
 refine vK ?_
 exact congrArg (fun b=>some (Value.bool b)) (jD hb)
 refine wS (wS (wS (w1 Z ?_)))
 refine vK ?_
 exact congrArg (fun b=>some (Value.bool b)) (jH hb)
theorem EK:aF prog 6:=ck func6
theorem Em (p0 k h) (H:xM p0 k h):CallsH prog 6 #[.agg (S_quaestorlaw31_Act.cs p0).toArray] h (rB k):=by
 refine fE func6 fun w0=>?_
 refine zF [0] (zQ ?_)
 refine wX H fun b1 h2 H=>?_
 refine w1 Z (zE (zQ ?_))
 refine w1 Z ?_
 refine wL Z H fun v3 H=>?_
 refine wC O26 (R26 _ _ _ _ H) fun r4 h5 H=>?_
 refine w1 Z ?_
 refine vJ 5 (α:=Bool) [1] (fun (s:Bool)=>[(11,.bool s)]) (fun (s:Bool) h=>mM (ad b1) s k h) ?_ ?_
 rintro b_ h_1 H
 refine vF [11,1] ?_
 refine w1 Z ?_
 refine vJ 6 (α:=Bool) [1] (fun (s:Bool)=>[(18,.bool s)]) (fun (s:Bool) h=>pI (ad b1) s k h) ?_ ?_
 rintro d_ h_2 H
 refine vF [18,1] ?_
 refine w1 Z ?_
 refine vJ 7 (α:=Bool) [] (fun (s:Bool)=>[(26,.bool s)]) (fun (s:Bool) h=>mU s k h) ?_ ?_
 rintro a_ h_3 H
 refine vF [26] ?_
 refine w1 Z (zE (zT ?_))
 exact aB _ rfl _ rfl ⟨a_,rfl,H⟩
 refine vI 19 H ?_ ?_ <;> intro H
 refine wS (wS (wS (wS (wS (wS (w1 Z ?_))))))
 exact wJ true H
 refine w3 Z ?_
 refine wL Z H fun v6 H=>?_
 refine w3 Z ?_
 exact wJ (decide ((v6.size:Int) > 300)) H
 refine vI 12 H ?_ ?_ <;> intro H
 refine wS (wS (wS (wS (wS (w1 Z ?_)))))
 exact wJ true H
 refine w2 Z ?_
 refine wL Z H fun v7 H=>?_
 refine w3 Z ?_
 exact wJ (decide ((v7.len:Int) > 40)) H
 refine vI 6 H ?_ ?_ <;> intro H
 refine wS (wS (wS (wS (w1 Z ?_))))
 exact wJ true H
 refine w2 Z ?_
 refine wL Z H fun v8 H=>?_
 refine wC O26 (R26 _ _ _ _ H) fun r9 h10 H=>?_
 refine w1 Z ?_
 exact wJ r9 H
theorem O9:aF prog 9:=ck func9
theorem R9 (p0 p1 k h) (H:zw p0 p1 k h):CallsH prog 9 #[.int .i64 p0,.int .i64 p1] h (rI .i64 k):=by
 refine fE func9 fun w0=>?_
 refine zF [0,1] (zQ ?_)
 refine w1 Z (zE (zS (zQ ?_)))
 refine w2 Z (zE ?_)
 refine zI H ?_ ?_ <;> intro H
 refine zQ (w1 Z (zE (zT (yT ?_))))
 exact aB _ rfl _ rfl ⟨0,rfl,H⟩
 refine zK (zX (zQ (w2 Z ?_)))
 obtain ⟨z1,H⟩:=H
 refine wY (Oj rfl rfl rfl z1) ?_
 refine wQ Z H fun x2 H=>?_
 refine zE (zF [1,5] ?_)
 refine zJ (α:=Int) [] (fun (s:Int)=>[(5,.int .i64 s)]) (fun (s:Int) h=>tq s k h) ?_ ?_
 rintro a_ h_1 H
 refine zF [5] (zQ ?_)
 refine w2 Z (zE (zT ?_))
 exact aB _ rfl _ rfl ⟨a_,rfl,H⟩
 refine zQ (w2 Z (zE ?_))
 refine zI H ?_ ?_ <;> intro H
 refine zR (w3 Z ?_)
 refine wQ Z H fun x3 H=>?_
 refine zW ?_
 exact xJ x3 H
 refine zK ?_
 exact xJ x2 H
theorem O35:aF prog 35:=ck func35
theorem R35 (p0 p1 k h) (H:zo p0 p1 k h):CallsH prog 35 #[Slc.v p0,Slc.v p1] h (rB k):=by
 refine fE func35 fun w0=>?_
 refine zF [0,1] (zQ ?_)
 refine w1 Z (zE (zS (zQ ?_)))
 refine w5 Z (zE ?_)
 refine zI H ?_ ?_ <;> intro H
 refine zQ (w1 Z (zE (zF [4] (zT (yT ?_)))))
 exact aB _ rfl _ rfl ⟨false,rfl,H⟩
 refine zK (zX (zS (zQ (w1 Z (zE (zB ?_))))))
 obtain ⟨I1,μ1,H0,HI⟩:=H
 refine zO (σ:=Int) [0,1] (fun (s:Int)=>[(5,.int .i64 s)]) I1 μ1 0 H0 ?_
 rintro a_ h_1 H
 replace H:=HI a_ h_1 H
 refine zF [5,0,1] (zS (zQ ?_))
 refine w4 Z (zE ?_)
 refine zI H ?_ ?_ <;> intro H
 refine zK (zX (zS (zB (zS ?_))))
 refine qZ (by kernel_rfl) (by kernel_rfl) ?_
 refine qp Z ?_
 refine qp Z ?_
 obtain ⟨a1,ha1,la1,ua1,H⟩:=H
 refine q_y (lh Z rfl rfl ha1 rfl rfl rfl la1 ua1) rfl rfl ?_
 obtain ⟨v2,hv2,H⟩:=H
 refine q_y (fC Z rfl rfl rfl rfl rfl hv2) rfl rfl ?_
 refine qp Z ?_
 refine qp Z ?_
 obtain ⟨a3,ha3,la3,ua3,H⟩:=H
 refine q_y (lh Z rfl rfl ha3 rfl rfl rfl la3 ua3) rfl rfl ?_
 obtain ⟨v4,hv4,H⟩:=H
 refine q_y (fC Z rfl rfl rfl rfl rfl hv4) rfl rfl ?_
 refine q_y (GR (op:=.neq) (xs:=ae.cs v2) (ys:=ae.cs v4) (.inr rfl) rfl rfl rfl (CV v2 v4) (by kernel_rfl)) rfl rfl ?_
 refine xK ?_
 refine zX (zF [5,0,1,25] ?_)
 refine zI H ?_ ?_ <;> intro H
 refine zQ (w1 Z (zE (zT (yB (yT (yT (yB (yT ?_))))))))
 exact aB _ rfl _ rfl ⟨false,rfl,H⟩
 refine zK (yL (zX (zR (w2 Z ?_))))
 refine wQ Z H fun x5 H=>?_
 refine zW ?_
 exact xJ x5 H
 refine zY (yE (yE (yH (zX (zF [] (zQ ?_))))))
 refine w1 Z (zE (zT ?_))
 exact aB _ rfl _ rfl ⟨true,rfl,H⟩
theorem O36:aF prog 36:=ck func36
theorem R36 (p0 p1 k h) (H:pJ p0 p1 k h):CallsH prog 36 #[Slc.v p0,Slc.v p1] h (rB k):=by
 refine fE func36 fun w0=>?_
 refine zF [0,1] (zQ ?_)
 refine w1 Z (zE (zS (zQ ?_)))
 refine w5 Z (zE ?_)
 refine zI H ?_ ?_ <;> intro H
 refine zQ (w1 Z (zE (zF [4] (zT (yT ?_)))))
 exact aB _ rfl _ rfl ⟨false,rfl,H⟩
 refine zK (zX (zS (zQ (w1 Z (zE (zB ?_))))))
 obtain ⟨I1,μ1,H0,HI⟩:=H
 refine zO (σ:=Int) [0,1] (fun (s:Int)=>[(5,.int .i64 s)]) I1 μ1 0 H0 ?_
 rintro a_ h_1 H
 replace H:=HI a_ h_1 H
 refine zF [5,0,1] (zS (zQ ?_))
 refine w4 Z (zE ?_)
 refine zI H ?_ ?_ <;> intro H
 refine zK (zX (zS (zB (zS ?_))))
 refine qZ (by kernel_rfl) (by kernel_rfl) ?_
 refine qp Z ?_
 refine qp Z ?_
 obtain ⟨a1,ha1,la1,ua1,H⟩:=H
 refine q_y (lh Z rfl rfl ha1 rfl rfl rfl la1 ua1) rfl rfl ?_
 obtain ⟨v2,hv2,H⟩:=H
 refine q_y (fq Z rfl rfl rfl rfl hv2) rfl rfl ?_
 refine qp Z ?_
 refine qp Z ?_
 obtain ⟨a3,ha3,la3,ua3,H⟩:=H
 refine q_y (lh Z rfl rfl ha3 rfl rfl rfl la3 ua3) rfl rfl ?_
 obtain ⟨v4,hv4,H⟩:=H
 refine q_y (fq Z rfl rfl rfl rfl hv4) rfl rfl ?_
 refine qp Z ?_
 refine xK ?_
 refine zX (zF [5,0,1,25] ?_)
 refine zI H ?_ ?_ <;> intro H
 refine zQ (w1 Z (zE (zT (yB (yT (yT (yB (yT ?_))))))))
 exact aB _ rfl _ rfl ⟨false,rfl,H⟩
 refine zK (yL (zX (zR (w2 Z ?_))))
 refine wQ Z H fun x5 H=>?_
 refine zW ?_
 exact xJ x5 H
 refine zY (yE (yE (yH (zX (zF [] (zQ ?_))))))
 refine w1 Z (zE (zT ?_))
 exact aB _ rfl _ rfl ⟨true,rfl,H⟩
theorem O37:aF prog 37:=ck func37
theorem R37 (p0 p1 k h) (H:qY p0 p1 k h):CallsH prog 37 #[Slc.v p0,Slc.v p1] h (rB k):=by
 refine fE func37 fun w0=>?_
 refine zF [0,1] (zQ ?_)
 refine w1 Z (zE (zS (zQ ?_)))
 refine w5 Z (zE ?_)
 refine zI H ?_ ?_ <;> intro H
 refine zQ (w1 Z (zE (zF [4] (zT (yT ?_)))))
 exact aB _ rfl _ rfl ⟨false,rfl,H⟩
 refine zK (zX (zS (zQ (w1 Z (zE (zB ?_))))))
 obtain ⟨I1,μ1,H0,HI⟩:=H
 refine zO (σ:=Int) [0,1] (fun (s:Int)=>[(5,.int .i64 s)]) I1 μ1 0 H0 ?_
 rintro a_ h_1 H
 replace H:=HI a_ h_1 H
 refine zF [5,0,1] (zS (zQ ?_))
 refine w4 Z (zE ?_)
 refine zI H ?_ ?_ <;> intro H
 refine zK (zX (zS (zB (zS ?_))))
 refine qZ (by kernel_rfl) (by kernel_rfl) ?_
 refine qp Z ?_
 refine qp Z ?_
 obtain ⟨a1,ha1,la1,ua1,H⟩:=H
 refine q_y (lh Z rfl rfl ha1 rfl rfl rfl la1 ua1) rfl rfl ?_
 obtain ⟨v2,hv2,H⟩:=H
 refine q_y (fC Z rfl rfl rfl rfl rfl hv2) rfl rfl ?_
 refine qp Z ?_
 refine qp Z ?_
 obtain ⟨a3,ha3,la3,ua3,H⟩:=H
 refine q_y (lh Z rfl rfl ha3 rfl rfl rfl la3 ua3) rfl rfl ?_
 obtain ⟨v4,hv4,H⟩:=H
 refine q_y (fC Z rfl rfl rfl rfl rfl hv4) rfl rfl ?_
 refine q_y (GR (op:=.neq) (xs:=aH.cs v2) (ys:=aH.cs v4) (.inr rfl) rfl rfl rfl (DI v2 v4) (by kernel_rfl)) rfl rfl ?_
 refine xK ?_
 refine zX (zF [5,0,1,25] ?_)
 refine zI H ?_ ?_ <;> intro H
 refine zQ (w1 Z (zE (zT (yB (yT (yT (yB (yT ?_))))))))
 exact aB _ rfl _ rfl ⟨false,rfl,H⟩
 refine zK (yL (zX (zR (w2 Z ?_))))
 refine wQ Z H fun x5 H=>?_
 refine zW ?_
 exact xJ x5 H
 refine zY (yE (yE (yH (zX (zF [] (zQ ?_))))))
 refine w1 Z (zE (zT ?_))
 exact aB _ rfl _ rfl ⟨true,rfl,H⟩
theorem O14:aF prog 14:=ck func14
theorem R14 (p0 p1 k h) (H:sF p0 p1 k h):CallsH prog 14 #[.agg (aj.cs p0).toArray,.agg (aj.cs p1).toArray] h (rB k):=by
 refine fE func14 fun w0=>?_
 refine zF [0,1] (zQ ?_)
 refine wX H fun b1 h2 H=>?_
 refine wX H fun b3 h4 H=>?_
 refine w1 Z (zE (zQ ?_))
 refine w1 Z ?_
 refine wL Z H fun v5 H=>?_
 refine w1 Z ?_
 refine wL Z H fun v6 H=>?_
 refine w2 Z ?_
 refine vJ 6 (α:=Bool) [2,3] (fun (s:Bool)=>[(16,.bool s)]) (fun (s:Bool) h=>sO (ad b1) (ad b3) s k h) ?_ ?_
 rintro b_ h_1 H
 refine vF [16,2,3] ?_
 refine w1 Z ?_
 refine vJ 6 (α:=Bool) [2,3] (fun (s:Bool)=>[(23,.bool s)]) (fun (s:Bool) h=>sS (ad b1) (ad b3) s k h) ?_ ?_
 rintro d_ h_2 H
 refine vF [23,2,3] ?_
 refine w1 Z ?_
 refine vJ 6 (α:=Bool) [2,3] (fun (s:Bool)=>[(30,.bool s)]) (fun (s:Bool) h=>tL (ad b1) (ad b3) s k h) ?_ ?_
 rintro f_ h_3 H
 refine vF [30,2,3] ?_
 refine w1 Z ?_
 refine vJ 6 (α:=Bool) [2,3] (fun (s:Bool)=>[(37,.bool s)]) (fun (s:Bool) h=>sW (ad b1) (ad b3) s k h) ?_ ?_
 rintro g_ h_4 H
 refine vF [37,2,3] ?_
 refine w1 Z ?_
 refine vJ 6 (α:=Bool) [2,3] (fun (s:Bool)=>[(44,.bool s)]) (fun (s:Bool) h=>tK (ad b1) (ad b3) s k h) ?_ ?_
 rintro h_ h_5 H
 refine vF [44,2,3] ?_
 refine w1 Z ?_
 refine vJ 6 (α:=Bool) [2,3] (fun (s:Bool)=>[(51,.bool s)]) (fun (s:Bool) h=>sP (ad b1) (ad b3) s k h) ?_ ?_
 rintro j_ h_6 H
 refine vF [51,2,3] ?_
 refine w1 Z ?_
 refine vJ 6 (α:=Bool) [2,3] (fun (s:Bool)=>[(58,.bool s)]) (fun (s:Bool) h=>tN (ad b1) (ad b3) s k h) ?_ ?_
 rintro l_ h_7 H
 refine vF [58,2,3] ?_
 refine w1 Z ?_
 refine vJ 6 (α:=Bool) [2,3] (fun (s:Bool)=>[(65,.bool s)]) (fun (s:Bool) h=>tC (ad b1) (ad b3) s k h) ?_ ?_
 rintro m_ h_8 H
 refine vF [65,2,3] ?_
 refine w1 Z ?_
 refine vJ 6 (α:=Bool) [] (fun (s:Bool)=>[(72,.bool s)]) (fun (s:Bool) h=>sQ s k h) ?_ ?_
 rintro a_ h_9 H
 refine vF [72] ?_
 refine w1 Z (zE (zT ?_))
 exact aB _ rfl _ rfl ⟨a_,rfl,H⟩
 refine vI 66 H ?_ ?_ <;> intro H
 refine w1 Z ?_
 refine wL Z H fun v7 H=>?_
 refine w1 Z ?_
 refine wL Z H fun v8 H=>?_
 refine wC O37 (R37 _ _ _ _ H) fun r9 h10 H=>?_
 refine w1 Z ?_
 exact wJ r9 H
 refine wS (wS (wS (wS (wS (w1 Z ?_)))))
 exact wJ false H
 refine vI 59 H ?_ ?_ <;> intro H
 refine w1 Z ?_
 refine wL Z H fun v11 H=>?_
 refine w1 Z ?_
 refine wL Z H fun v12 H=>?_
 refine w2 Z ?_
 exact wJ (v11 == v12) H
 refine wS (wS (wS (wS (wS (w1 Z ?_)))))
 exact wJ false H
 refine vI 52 H ?_ ?_ <;> intro H
 refine w1 Z ?_
 refine wL Z H fun v13 H=>?_
 refine w1 Z ?_
 refine wL Z H fun v14 H=>?_
 refine w2 Z ?_
 exact wJ ((v13 == v14)) H
 refine wS (wS (wS (wS (wS (w1 Z ?_)))))
 exact wJ false H
 refine vI 45 H ?_ ?_ <;> intro H
 refine w1 Z ?_
 refine wL Z H fun v15 H=>?_
 refine w1 Z ?_
 refine wL Z H fun v16 H=>?_
 refine w2 Z ?_
 exact wJ (v15 == v16) H
 refine wS (wS (wS (wS (wS (w1 Z ?_)))))
 exact wJ false H
 refine vI 38 H ?_ ?_ <;> intro H
 refine w1 Z ?_
 refine wL Z H fun v17 H=>?_
 refine w1 Z ?_
 refine wL Z H fun v18 H=>?_
 refine wC O36 (R36 _ _ _ _ H) fun r19 h20 H=>?_
 refine w1 Z ?_
 exact wJ r19 H
 refine wS (wS (wS (wS (wS (w1 Z ?_)))))
 exact wJ false H
 refine vI 31 H ?_ ?_ <;> intro H
 refine w1 Z ?_
 refine wL Z H fun v21 H=>?_
 refine w1 Z ?_
 refine wL Z H fun v22 H=>?_
 refine wC O36 (R36 _ _ _ _ H) fun r23 h24 H=>?_
 refine w1 Z ?_
 exact wJ r23 H
 refine wS (wS (wS (wS (wS (w1 Z ?_)))))
 exact wJ false H
 refine vI 24 H ?_ ?_ <;> intro H
 refine w1 Z ?_
 refine wL Z H fun v25 H=>?_
 refine w1 Z ?_
 refine wL Z H fun v26 H=>?_
 refine wC O35 (R35 _ _ _ _ H) fun r27 h28 H=>?_
 refine w1 Z ?_
 exact wJ r27 H
 refine wS (wS (wS (wS (wS (w1 Z ?_)))))
 exact wJ false H
 refine vI 17 H ?_ ?_ <;> intro H
 refine w1 Z ?_
 refine wL Z H fun v29 H=>?_
 refine w1 Z ?_
 refine wL Z H fun v30 H=>?_
 refine w2 Z ?_
 exact wJ (v29.toList == v30.toList) H
 refine wS (wS (wS (wS (wS (w1 Z ?_)))))
 exact wJ false H
 refine vI 10 H ?_ ?_ <;> intro H
 refine w1 Z ?_
 refine wL Z H fun v31 H=>?_
 refine w1 Z ?_
 refine wL Z H fun v32 H=>?_
 refine w2 Z ?_
 exact wJ (v31 == v32) H
 refine wS (wS (wS (wS (wS (w1 Z ?_)))))
 exact wJ false H
end Go.Q.Yq
end
