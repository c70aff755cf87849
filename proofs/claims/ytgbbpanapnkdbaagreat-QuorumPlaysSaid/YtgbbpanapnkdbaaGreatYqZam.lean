/- A part of the proof of statements of this seat: lemmas, no statement of their own. -/
import Derived.Test.YtgbbpanapnkdbaaGreatYqZad
import Derived.Test.YtgbbpanapnkdbaaGreatYqZae
import Derived.Test.YtgbbpanapnkdbaaGreatYqZaj
import Derived.Test.YtgbbpanapnkdbaaGreatYqZal
set_option linter.unusedVariables false
set_option linter.unusedSimpArgs false
set_option maxRecDepth 100000
set_option maxHeartbeats 1000000
section
namespace Go.Q.Yq
open Go.Proofs.Tryz
open Go.RowKit in
theorem ER (a b:aG) (w:World):(Op.equal 87 (.agg (aG.cs a).toArray) (.agg (aG.cs b).toArray)).run Go.Proofs.Tryz.prog w = .ok ((a.f_N == b.f_N) && (a.aR == b.aR)) w:=by
  have hS:Go.Proofs.Tryz.prog.underlying 87=some (.struct (Go.Proofs.Tryz.prog.fieldsOf 87)):=by kernel_rfl
  have hp:Go.Proofs.Tryz.prog.stoodInHeld 87=false:=by kernel_rfl
  have u25:=Go.Proofs.Tryz.underlying25
  have a25:∀ w,(isAgg 25).run Go.Proofs.Tryz.prog w = .ok false w:=Go.Proofs.Tryz.isAgg25
  have u85:=Go.Proofs.Tryz.underlying85
  have a85:∀ w,(isAgg 85).run Go.Proofs.Tryz.prog w = .ok false w:=Go.Proofs.Tryz.isAgg85
  unfold Op.equal Op.maxDepth
  rw [show (10000:Nat)=9999 + 1 from rfl,run_equalIn_struct w 9999 87 _ _ hS hp]
  simp only [Program.fieldsOf,Go.Proofs.Tryz.underlying87,aG.cs]
  go_simp
  by_cases h0:(a.f_N=b.f_N) <;> by_cases h1:(a.aR=b.aR) <;> simp [h0,h1]
/-- quaestor quaestorref01.digits -/
def rJ (p0:au) (k:KP Slc) (h:Heap):Prop :=
  ∃ b1 h2,b1=h.size/\h2=h.push (.cells (au.cs p0).toArray 116)/\(∃ v3,ah h2 (ad b1)=some (.int .i64 v3)/\(∃ x4,x4=(IntKind.u64.wrap ((IntKind.u64.wrap v3) + 9223372036854775808))/\(∃ v5,ah h2 ((ad b1).add 1)=some (.int .u64 v5)/\(∃ v6,ah h2 ((ad b1).add 1)=some (.int .u64 v6)/\(∃ b7 h8,b7=h2.size/\h8=h2.push (.cells ([.int .u64 (Int.tmod v5 4294967296),.int .u64 (IntKind.u64.wrap (Int.tdiv v6 4294967296)),.int .u64 (Int.tmod x4 4294967296),.int .u64 (IntKind.u64.wrap (Int.tdiv x4 4294967296))]).toArray 25)/\(k (⟨some ⟨b7,0,none⟩,4,4⟩:Slc) h8))))))
/-- quaestor quaestorref01.Add -/
def BR (d_:Addr) (g_:Slc) (h_:Slc) (a_:Slc) (f_:Int) (b_:Int) (k:KP (au × Int)) (nx1:KP (Slc × Int × Int)) (h_1:Heap):Prop :=
  if (decide (b_ < 4)) then (∃ a14,g_.a=some a14/\(0:Int)<=b_/\b_ < (g_.len:Int)/\(∃ v15,ah h_1 (a14.add (b_.toNat * 1))=some (.int .u64 v15)/\(∃ a16,h_.a=some a16/\(0:Int)<=b_/\b_ < (h_.len:Int)/\(∃ v17,ah h_1 (a16.add (b_.toNat * 1))=some (.int .u64 v17)/\(∃ b18 h19,b18=h_1.size/\h19=h_1.push (.cells ([.int .u64 (Int.tmod (IntKind.u64.wrap ((IntKind.u64.wrap (v15 + v17)) + f_)) 4294967296)]).toArray 25)/\(App 25 1 8 [.int .u64 0] h19 a_ 1 ([.int .u64 (Int.tmod (IntKind.u64.wrap ((IntKind.u64.wrap (v15 + v17)) + f_)) 4294967296)]) (fun s20 h21=>∃ x22,x22=(IntKind.u64.wrap (Int.tdiv (IntKind.u64.wrap ((IntKind.u64.wrap (v15 + v17)) + f_)) 4294967296))/\(∃ x23,x23=(IntKind.i64.wrap (b_ + 1))/\(nx1 (s20,x22,x23) h21))))))))) else (∃ a24,a_.a=some a24/\(0:Int)<=3/\3 < (a_.len:Int)/\(∃ v25,ah h_1 (a24.add ((3:Int).toNat * 1))=some (.int .u64 v25)/\(if (((f_ == 0) && (!(decide (v25>=2147483648)))) || ((f_ == 1) && (decide (v25>=2147483648)))) then (∃ h26,aN h_1 d_ 2/\h26=aM h_1 d_ 0 (au.cs (⟨0,0⟩:au))/\(∃ v27,ai h26 d_ (au.cs v27)/\k (v27,19) h26)) else (∃ a28,a_.a=some a28/\(0:Int)<=3/\3 < (a_.len:Int)/\(∃ v29,ah h_1 (a28.add ((3:Int).toNat * 1))=some (.int .u64 v29)/\(∃ a30,a_.a=some a30/\(0:Int)<=2/\2 < (a_.len:Int)/\(∃ v31,ah h_1 (a30.add ((2:Int).toNat * 1))=some (.int .u64 v31)/\(∃ a32,a_.a=some a32/\(0:Int)<=1/\1 < (a_.len:Int)/\(∃ v33,ah h_1 (a32.add ((1:Int).toNat * 1))=some (.int .u64 v33)/\(∃ a34,a_.a=some a34/\(0:Int)<=0/\0 < (a_.len:Int)/\(∃ v35,ah h_1 (a34.add ((0:Int).toNat * 1))=some (.int .u64 v35)/\(∃ h36,aN h_1 d_ 2/\h36=aM h_1 d_ 0 (au.cs (⟨(IntKind.i64.wrap (IntKind.u64.wrap ((IntKind.u64.wrap (v29 * 4294967296)) + v31))),(IntKind.u64.wrap ((IntKind.u64.wrap (v33 * 4294967296)) + v35))⟩:au))/\(∃ v37,ai h36 d_ (au.cs v37)/\k (v37,0) h36)))))))))))))
def Dn (f_:Addr) (g_:Slc) (h_:Slc) (i8:Slc) (i9:Int) (i10:Int) (k:KP (au × Int)) (h:Heap):Prop :=
  ∃ (I:KP (Slc × Int × Int)) (μ:(Slc × Int × Int)->Heap->Nat),I (i8,i9,i10) h/\∀ (a_:Slc) (b_:Int) (d_:Int) (h:Heap),I (a_,b_,d_) h->BR f_ g_ h_ a_ b_ d_ k (fun s h'=>I s h'/\μ s h' < μ (a_,b_,d_) h) h
def yJ (p0:au) (p1:au) (k:KP (au × Int)) (h:Heap):Prop :=
  ∃ b1 h2,b1=h.size/\h2=h.push (.cells (au.cs p0).toArray 116)/\(∃ b3 h4,b3=h2.size/\h4=h2.push (.cells (au.cs p1).toArray 116)/\(∃ b5 h6,b5=h4.size/\h6=h4.push (.cells (au.cs (⟨0,0⟩:au)).toArray 116)/\(∃ v7,ai h6 (ad b1) (au.cs v7)/\(∃ v8,ai h6 (ad b3) (au.cs v8)/\(rJ v7 (fun r9 h10=>ai h10 (ad b3) (au.cs v8)/\(rJ v8 (fun r12 h13=>Dn (ad b5) r9 r12 (⟨none,0,0⟩:Slc) 0 0 k h13) h10)) h6)))))
/-- quaestor quaestorref01.Floor -/
def rE (a_:Int) (k:KP (Int × Int)) (h_1:Heap):Prop :=
  k (a_,0) h_1
def qN (p0:Int) (p1:Int) (k:KP (Int × Int)) (h:Heap):Prop :=
  if (p1 == 0) then (k (0,1) h) else (if (p1 == (-1)) then (if (p0 == (-9223372036854775808)) then (k (0,19) h) else (∃ x1,x1=(IntKind.i64.wrap (0 - p0))/\(k (x1,0) h))) else (p1≠0/\(∃ x3,x3=(IntKind.i64.wrap (Int.tdiv p0 p1))/\(if (((IntKind.i64.wrap (x3 * p1)) != p0) && (!((decide (p0 < 0)) == (decide (p1 < 0))))) then (∃ x4,x4=(IntKind.i64.wrap (x3 - 1))/\(rE x4 k h)) else (rE x3 k h)))))
/-- quaestor quaestorref19.wide -/
def mD (p0:Int) (k:KP au) (h:Heap):Prop :=
  ∃ b1 h2,b1=h.size/\h2=h.push (.cells (au.cs (⟨0,0⟩:au)).toArray 116)/\(if (decide (p0 < 0)) then (∃ h3,aN h2 (ad b1) 2/\h3=aM h2 (ad b1) 0 (au.cs (⟨(-1),(IntKind.u64.wrap p0)⟩:au))/\(∃ v4,ai h3 (ad b1) (au.cs v4)/\k v4 h3)) else (∃ h5,aN h2 (ad b1) 2/\h5=aM h2 (ad b1) 0 (au.cs (⟨0,(IntKind.u64.wrap p0)⟩:au))/\(∃ v6,ai h5 (ad b1) (au.cs v6)/\k v6 h5)))
/-- quaestor quaestorref19.apart -/
def uj (p0:Int) (p1:Int) (k:KP Bool) (h:Heap):Prop :=
  ∃ x1,x1=(IntKind.i64.wrap (p0 - p1))/\(k (((decide (p1 < 0)) == (decide (x1 > p0)))) h)
/-- quaestor quaestorref15.letter -/
def pM (p0:Int) (k:KP Bool) (h:Heap):Prop :=
  k ((((((((decide (p0>=97)) && (decide (p0<=122))) || ((decide (p0>=65)) && (decide (p0<=90)))) || ((decide (p0>=48)) && (decide (p0<=57)))) || (p0 == 95)) || (p0 == 45)) || (p0 == 46)) || (p0 == 47)) h
/-- quaestor quaestorref15.Word -/
def A8 (b_:ByteArray) (a_:Int) (k:KP Bool) (nx1:KP Int) (h_1:Heap):Prop :=
  if (decide (a_ < (b_.size:Int))) then (∃ v1,(0:Int)<=a_/\wK b_ a_ v1/\(pM v1 (fun r2 h3=>if (!r2) then (k false h3) else (∃ x4,x4=(IntKind.i64.wrap (a_ + 1))/\(nx1 x4 h3))) h_1)) else (k true h_1)
def Fx (b_:ByteArray) (i3:Int) (k:KP Bool) (h:Heap):Prop :=
  ∃ (I:KP Int) (μ:Int->Heap->Nat),I i3 h/\∀ (a_:Int) (h:Heap),I a_ h->A8 b_ a_ k (fun s h'=>I s h'/\μ s h' < μ a_ h) h
def nW (p0:ByteArray) (k:KP Bool) (h:Heap):Prop :=
  if ((decide ((p0.size:Int) < 1)) || (decide ((p0.size:Int) > 24))) then (k false h) else (Fx p0 0 k h)
/-- quaestor quaestorref15.words -/
def kz (d_:ByteArray) (f_:Slc) (g_:Slc) (b_:Int) (a_:Int) (h_:Bool) (k:KP (Slc × Slc)) (nx1:KP (Slc × Slc × Int)) (nx2:KP Int) (nx4:KP Int) (h_5:Heap):Prop :=
  if h_ then (∃ x7,x7=(IntKind.i64.wrap (a_ + 1))/\(nx4 x7 h_5)) else (∃ s8,(0:Int)<=b_/\(b_:Int)<=a_/\a_<=(d_.size:Int)/\s8=d_.extract b_.toNat a_.toNat/\(∃ b9 h10,b9=h_5.size/\h10=h_5.push (.cells ([.string s8]).toArray 9)/\(App 9 1 16 [.string ByteArray.empty] h10 g_ 1 ([.string s8]) (fun s11 h12=>nx1 (f_,s11,a_) h12))))
def Ae (b_:ByteArray) (d_:Slc) (f_:Slc) (g_:Int) (a_:Int) (k:KP (Slc × Slc)) (nx1:KP (Slc × Slc × Int)) (nx2:KP Int) (nx4:KP Int) (h_4:Heap):Prop :=
  if (decide (a_ < (b_.size:Int))) then (∃ v13,(0:Int)<=a_/\wK b_ a_ v13/\(pM v13 (fun r14 h15=>kz b_ d_ f_ g_ a_ (!r14) k nx1 nx2 nx4 h15) h_4)) else (kz b_ d_ f_ g_ a_ false k nx1 nx2 nx4 h_4)
def AB (b_:ByteArray) (d_:Slc) (f_:Slc) (g_:Int) (i7:Int) (k:KP (Slc × Slc)) (nx1:KP (Slc × Slc × Int)) (nx2:KP Int) (h:Heap):Prop :=
  ∃ (I:KP Int) (μ:Int->Heap->Nat),I i7 h/\∀ (a_:Int) (h:Heap),I a_ h->Ae b_ d_ f_ g_ a_ k nx1 nx2 (fun s h'=>I s h'/\μ s h' < μ a_ h) h
def mW (b_:ByteArray) (f_:Slc) (g_:Slc) (d_:Int) (a_:Int) (h_:Bool) (k:KP (Slc × Slc)) (nx1:KP (Slc × Slc × Int)) (nx2:KP Int) (h_3:Heap):Prop :=
  if h_ then (∃ x1,x1=(IntKind.i64.wrap (a_ + 1))/\(nx2 x1 h_3)) else (∃ s2,(0:Int)<=d_/\(d_:Int)<=a_/\a_<=(b_.size:Int)/\s2=b_.extract d_.toNat a_.toNat/\(∃ b3 h4,b3=h_3.size/\h4=h_3.push (.cells ([.string s2]).toArray 9)/\(App 9 1 16 [.string ByteArray.empty] h4 f_ 1 ([.string s2]) (fun s5 h6=>AB b_ s5 g_ a_ a_ k nx1 nx2 h6))))
def Aq (b_:ByteArray) (d_:Slc) (f_:Slc) (g_:Int) (a_:Int) (k:KP (Slc × Slc)) (nx1:KP (Slc × Slc × Int)) (nx2:KP Int) (h_2:Heap):Prop :=
  if (decide (a_ < (b_.size:Int))) then (∃ v16,(0:Int)<=a_/\wK b_ a_ v16/\(pM v16 (fun r17 h18=>mW b_ d_ f_ g_ a_ r17 k nx1 nx2 h18) h_2)) else (mW b_ d_ f_ g_ a_ false k nx1 nx2 h_2)
def AQ (b_:ByteArray) (d_:Slc) (f_:Slc) (g_:Int) (i7:Int) (k:KP (Slc × Slc)) (nx1:KP (Slc × Slc × Int)) (h:Heap):Prop :=
  ∃ (I:KP Int) (μ:Int->Heap->Nat),I i7 h/\∀ (a_:Int) (h:Heap),I a_ h->Aq b_ d_ f_ g_ a_ k nx1 (fun s h'=>I s h'/\μ s h' < μ a_ h) h
def Ap (b_:ByteArray) (d_:Slc) (f_:Slc) (a_:Int) (k:KP (Slc × Slc)) (nx1:KP (Slc × Slc × Int)) (h_1:Heap):Prop :=
  if (decide (a_ < (b_.size:Int))) then (AQ b_ d_ f_ a_ a_ k nx1 h_1) else (k (d_,f_) h_1)
def A9 (f_:ByteArray) (i4:Slc) (i5:Slc) (i6:Int) (k:KP (Slc × Slc)) (h:Heap):Prop :=
  ∃ (I:KP (Slc × Slc × Int)) (μ:(Slc × Slc × Int)->Heap->Nat),I (i4,i5,i6) h/\∀ (a_:Slc) (b_:Slc) (d_:Int) (h:Heap),I (a_,b_,d_) h->Ap f_ a_ b_ d_ k (fun s h'=>I s h'/\μ s h' < μ (a_,b_,d_) h) h
def xB (p0:ByteArray) (k:KP (Slc × Slc)) (h:Heap):Prop :=
  A9 p0 (⟨none,0,0⟩:Slc) (⟨none,0,0⟩:Slc) 0 k h
/-- quaestor quaestorref15.Selector -/
def lT (d_:Addr) (f_:Addr) (g_:Slc) (h_:Slc) (j_:Addr) (l_:Int) (a_:Int) (b_:Int) (k:KP (af × Bool)) (nx3:KP Int) (nx4:KP (Int × Int)) (h_5:Heap):Prop :=
  ∃ x33,x33=(IntKind.i64.wrap (a_ + 1))/\(nx4 (b_,x33) h_5)
def jC (f_:Addr) (h_:Addr) (b_:Slc) (l_:Slc) (d_:Addr) (a_:Int) (g_:Int) (j_:Bool) (k:KP (af × Bool)) (nx3:KP Int) (nx4:KP (Int × Int)) (h_9:Heap):Prop :=
  if j_ then (∃ v41,ai h_9 h_ (af.cs v41)/\(∃ h42,aN h_9 f_ 2/\h42=aM h_9 f_ 0 (af.cs v41)/\(∃ v43,ai h42 f_ (af.cs v43)/\k (v43,false) h42))) else (∃ v44,ah h_9 (d_.add 1)=some (Slc.v v44)/\(∃ a45,b_.a=some a45/\(0:Int)<=a_/\a_ < (b_.len:Int)/\(∃ v46,ah h_9 (a45.add (a_.toNat * 1))=some (.string v46)/\(∃ a47,b_.a=some a47/\(0:Int)<=(IntKind.i64.wrap (a_ + 1))/\(IntKind.i64.wrap (a_ + 1)) < (b_.len:Int)/\(∃ v48,ah h_9 (a47.add ((IntKind.i64.wrap (a_ + 1)).toNat * 1))=some (.string v48)/\(∃ b49 h50,b49=h_9.size/\h50=h_9.push (.cells ((az.cs (⟨v46,g_,v48⟩:az))).toArray 174)/\(ah h50 (d_.add 1)=some (Slc.v v44)/\(App 174 3 40 [.string ByteArray.empty,.int .i64 0,.string ByteArray.empty] h50 v44 1 ((az.cs (⟨v46,g_,v48⟩:az))) (fun s52 h53=>∃ h54,WrH h53 (d_.add 1)/\h54=setH h53 (d_.add 1) (Slc.v s52)/\(∃ x55,x55=(IntKind.i64.wrap (a_ + 2))/\(nx3 x55 h54)))))))))))
def jo (d_:Addr) (f_:Addr) (b_:Slc) (g_:Slc) (h_:Addr) (a_:Int) (j_:Int) (l_:Bool) (k:KP (af × Bool)) (nx3:KP Int) (nx4:KP (Int × Int)) (h_8:Heap):Prop :=
  if l_ then (jC d_ f_ b_ g_ h_ a_ j_ true k nx3 nx4 h_8) else (∃ a56,b_.a=some a56/\(0:Int)<=(IntKind.i64.wrap (a_ + 1))/\(IntKind.i64.wrap (a_ + 1)) < (b_.len:Int)/\(∃ v57,ah h_8 (a56.add ((IntKind.i64.wrap (a_ + 1)).toNat * 1))=some (.string v57)/\(nW v57 (fun r58 h59=>jC d_ f_ b_ g_ h_ a_ j_ (!r58) k nx3 nx4 h59) h_8)))
def mi (d_:Addr) (f_:Addr) (b_:Slc) (g_:Slc) (h_:Addr) (a_:Int) (j_:Int) (l_:Bool) (k:KP (af × Bool)) (nx3:KP Int) (nx4:KP (Int × Int)) (h_7:Heap):Prop :=
  if l_ then (jo d_ f_ b_ g_ h_ a_ j_ true k nx3 nx4 h_7) else (∃ a60,b_.a=some a60/\(0:Int)<=a_/\a_ < (b_.len:Int)/\(∃ v61,ah h_7 (a60.add (a_.toNat * 1))=some (.string v61)/\(nW v61 (fun r62 h63=>jo d_ f_ b_ g_ h_ a_ j_ (!r62) k nx3 nx4 h63) h_7)))
def lL (f_:Addr) (g_:Addr) (h_:Slc) (b_:Slc) (j_:Addr) (a_:Int) (d_:Int) (l_:ByteArray) (k:KP (af × Bool)) (nx3:KP Int) (nx4:KP (Int × Int)) (h_6:Heap):Prop :=
  if (decide (d_ < 0)) then (mi f_ g_ h_ b_ j_ a_ d_ true k nx3 nx4 h_6) else (∃ a64,b_.a=some a64/\(0:Int)<=(IntKind.i64.wrap (a_ + 1))/\(IntKind.i64.wrap (a_ + 1)) < (b_.len:Int)/\(∃ v65,ah h_6 (a64.add ((IntKind.i64.wrap (a_ + 1)).toNat * 1))=some (.string v65)/\(mi f_ g_ h_ b_ j_ a_ d_ (!(v65.toList == l_.toList)) k nx3 nx4 h_6)))
def wu (g_:Addr) (h_:Addr) (f_:Slc) (d_:Slc) (j_:Addr) (a_:Int) (l_:Int) (b_:Int) (k:KP (af × Bool)) (nx3:KP Int) (nx4:KP (Int × Int)) (h_4:Heap):Prop :=
  if (decide (b_ < 3)) then (∃ a34,d_.a=some a34/\(0:Int)<=a_/\a_ < (d_.len:Int)/\(∃ v35,ah h_4 (a34.add (a_.toNat * 1))=some (.string v35)/\(∃ b36 h37,b36=h_4.size/\h37=h_4.push (.cells ([.string (⟨#[61]⟩:ByteArray),.string (⟨#[33,61]⟩:ByteArray),.string (⟨#[94,61]⟩:ByteArray)]).toArray 9)/\(ah h37 (a34.add (a_.toNat * 1))=some (.string v35)/\(∃ a39,(⟨some ⟨b36,0,none⟩,3,3⟩:Slc).a=some a39/\(0:Int)<=b_/\b_ < ((⟨some ⟨b36,0,none⟩,3,3⟩:Slc).len:Int)/\(∃ v40,ah h37 (a39.add (b_.toNat * 1))=some (.string v40)/\(if (v35.toList == v40.toList) then (lT g_ h_ f_ d_ j_ a_ b_ b_ k nx3 nx4 h37) else (lT g_ h_ f_ d_ j_ a_ b_ l_ k nx3 nx4 h37)))))))) else (if (decide ((IntKind.i64.wrap (a_ + 2))>=(f_.len:Int))) then (lL g_ h_ f_ d_ j_ a_ l_ (⟨#[125]⟩:ByteArray) k nx3 nx4 h_4) else (lL g_ h_ f_ d_ j_ a_ l_ (⟨#[44]⟩:ByteArray) k nx3 nx4 h_4))
def xO (d_:Addr) (f_:Addr) (g_:Slc) (h_:Slc) (j_:Addr) (l_:Int) (i9:Int) (i10:Int) (k:KP (af × Bool)) (nx3:KP Int) (h:Heap):Prop :=
  ∃ (I:KP (Int × Int)) (μ:(Int × Int)->Heap->Nat),I (i9,i10) h/\∀ (a_:Int) (b_:Int) (h:Heap),I (a_,b_) h->wu d_ f_ g_ h_ j_ l_ a_ b_ k nx3 (fun s h'=>I s h'/\μ s h' < μ (a_,b_) h) h
def wE (a_:Addr) (g_:Addr) (b_:Slc) (h_:Slc) (d_:Addr) (f_:Int) (k:KP (af × Bool)) (nx3:KP Int) (h_3:Heap):Prop :=
  if (decide (f_ < (b_.len:Int))) then (∃ x32,x32=(-1)/\(xO a_ g_ b_ h_ d_ f_ x32 0 k nx3 h_3)) else (∃ v66,ai h_3 d_ (af.cs v66)/\(∃ h67,aN h_3 a_ 2/\h67=aM h_3 a_ 0 (af.cs v66)/\(∃ v68,ai h67 a_ (af.cs v68)/\k (v68,true) h67)))
def xX (b_:Addr) (d_:Addr) (f_:Slc) (g_:Slc) (h_:Addr) (i8:Int) (k:KP (af × Bool)) (h:Heap):Prop :=
  ∃ (I:KP Int) (μ:Int->Heap->Nat),I i8 h/\∀ (a_:Int) (h:Heap),I a_ h->wE b_ d_ f_ g_ h_ a_ k (fun s h'=>I s h'/\μ s h' < μ a_ h) h
def lX (a_:Addr) (d_:Addr) (b_:Slc) (f_:Slc) (g_:Addr) (h_:Bool) (k:KP (af × Bool)) (h_2:Heap):Prop :=
  if h_ then (∃ v21,ai h_2 d_ (af.cs v21)/\(∃ h22,aN h_2 a_ 2/\h22=aM h_2 a_ 0 (af.cs v21)/\(∃ v23,ai h22 a_ (af.cs v23)/\k (v23,false) h22))) else (if ((b_.len:Int) == 1) then (∃ v24,ai h_2 g_ (af.cs v24)/\(∃ h25,aN h_2 a_ 2/\h25=aM h_2 a_ 0 (af.cs v24)/\(∃ v26,ai h25 a_ (af.cs v26)/\k (v26,true) h25))) else (∃ a27,f_.a=some a27/\(0:Int)<=0/\0 < (f_.len:Int)/\(∃ v28,ah h_2 (a27.add ((0:Int).toNat * 1))=some (.string v28)/\(if (((!(v28.toList == (⟨#[123]⟩:ByteArray).toList)) || ((Int.tmod (b_.len:Int) 2) == 0)) || (decide ((b_.len:Int) > 17))) then (∃ v29,ai h_2 d_ (af.cs v29)/\(∃ h30,aN h_2 a_ 2/\h30=aM h_2 a_ 0 (af.cs v29)/\(∃ v31,ai h30 a_ (af.cs v31)/\k (v31,false) h30))) else (xX a_ d_ b_ f_ g_ 1 k h_2)))))
def lN (a_:Addr) (d_:Addr) (f_:Slc) (b_:Slc) (g_:Addr) (h_:Bool) (k:KP (af × Bool)) (h_1:Heap):Prop :=
  if h_ then (∃ v18,ai h_1 d_ (af.cs v18)/\(∃ h19,aN h_1 a_ 2/\h19=aM h_1 a_ 0 (af.cs v18)/\(∃ v20,ai h19 a_ (af.cs v20)/\k (v20,false) h19))) else (if ((f_.len:Int) == 1) then (∃ a69,b_.a=some a69/\(0:Int)<=0/\0 < (b_.len:Int)/\(∃ v70,ah h_1 (a69.add ((0:Int).toNat * 1))=some (.string v70)/\(lX a_ d_ f_ b_ g_ (!(v70.toList == (⟨#[]⟩:ByteArray).toList)) k h_1))) else (lX a_ d_ f_ b_ g_ false k h_1))
def iT (p0:ByteArray) (k:KP (af × Bool)) (h:Heap):Prop :=
  ∃ b1 h2,b1=h.size/\h2=h.push (.cells (af.cs (⟨ByteArray.empty,(⟨none,0,0⟩:Slc)⟩:af)).toArray 139)/\(∃ b3 h4,b3=h2.size/\h4=h2.push (.cells (af.cs (⟨ByteArray.empty,(⟨none,0,0⟩:Slc)⟩:af)).toArray 139)/\(∃ h5,aN h4 (ad b3) 2/\h5=aM h4 (ad b3) 0 (af.cs (⟨ByteArray.empty,(⟨none,0,0⟩:Slc)⟩:af))/\(xB p0 (fun r6 h7=>if ((r6.1.len:Int) == 0) then (∃ v8,ai h7 (ad b3) (af.cs v8)/\(∃ h9,aN h7 (ad b1) 2/\h9=aM h7 (ad b1) 0 (af.cs v8)/\(∃ v10,ai h9 (ad b1) (af.cs v10)/\k (v10,(p0.toList == (⟨#[]⟩:ByteArray).toList)) h9))) else (∃ a11,r6.1.a=some a11/\(0:Int)<=0/\0 < (r6.1.len:Int)/\(∃ v12,ah h7 (a11.add ((0:Int).toNat * 1))=some (.string v12)/\(∃ b13 h14,b13=h7.size/\h14=h7.push (.cells (af.cs (⟨ByteArray.empty,(⟨none,0,0⟩:Slc)⟩:af)).toArray 139)/\(∃ h15,aN h14 (ad b13) 2/\h15=aM h14 (ad b13) 0 (af.cs (⟨v12,(⟨none,0,0⟩:Slc)⟩:af))/\(∃ a16,r6.1.a=some a16/\(0:Int)<=0/\0 < (r6.1.len:Int)/\(∃ v17,ah h15 (a16.add ((0:Int).toNat * 1))=some (.string v17)/\(if (!(v17.toList == (⟨#[]⟩:ByteArray).toList)) then (∃ a71,r6.1.a=some a71/\(0:Int)<=0/\0 < (r6.1.len:Int)/\(∃ v72,ah h15 (a71.add ((0:Int).toNat * 1))=some (.string v72)/\(nW v72 (fun r73 h74=>lN (ad b1) (ad b3) r6.1 r6.2 (ad b13) (!r73) k h74) h15))) else (lN (ad b1) (ad b3) r6.1 r6.2 (ad b13) false k h15))))))))) h5)))
/-- quaestor quaestorref15.Check -/
def fZ (d_:Addr) (a_:Int) (b_:Bool) (k:KP Bool) (nx2:KP Int) (h_3:Heap):Prop :=
  if b_ then (k false h_3) else (∃ x7,x7=(IntKind.i64.wrap (a_ + 1))/\(nx2 x7 h_3))
def Ah (b_:Addr) (a_:Int) (k:KP Bool) (nx2:KP Int) (h_2:Heap):Prop :=
  ∃ v6,ah h_2 (b_.add 1)=some (Slc.v v6)/\(if (decide (a_ < (v6.len:Int))) then (∃ v8,ah h_2 (b_.add 1)=some (Slc.v v8)/\(∃ a9,v8.a=some a9/\(0:Int)<=a_/\a_ < (v8.len:Int)/\(∃ v10,ah h_2 (a9.add (a_.toNat * 2))=some (.string v10)/\(nW v10 (fun r11 h12=>if (!r11) then (if true then (fZ b_ a_ true k nx2 h12) else (if (decide (a_ > 0)) then (∃ v13,ah h12 (b_.add 1)=some (Slc.v v13)/\(∃ a14,v13.a=some a14/\(0:Int)<=a_/\a_ < (v13.len:Int)/\(∃ v15,ah h12 (a14.add (a_.toNat * 2))=some (.string v15)/\(∃ v16,ah h12 (b_.add 1)=some (Slc.v v16)/\(∃ a17,v16.a=some a17/\(0:Int)<=(IntKind.i64.wrap (a_ - 1))/\(IntKind.i64.wrap (a_ - 1)) < (v16.len:Int)/\(∃ v18,ah h12 (a17.add ((IntKind.i64.wrap (a_ - 1)).toNat * 2))=some (.string v18)/\(fZ b_ a_ (Op.bytesLess v15.toList v18.toList || v15.toList == v18.toList) k nx2 h12))))))) else (fZ b_ a_ false k nx2 h12))) else (∃ v19,ah h12 (b_.add 1)=some (Slc.v v19)/\(∃ a20,v19.a=some a20/\(0:Int)<=a_/\a_ < (v19.len:Int)/\(∃ v21,ah h12 ((a20.add (a_.toNat * 2)).add 1)=some (.string v21)/\(nW v21 (fun r22 h23=>if (!r22) then (fZ b_ a_ true k nx2 h23) else (if (decide (a_ > 0)) then (∃ v24,ah h23 (b_.add 1)=some (Slc.v v24)/\(∃ a25,v24.a=some a25/\(0:Int)<=a_/\a_ < (v24.len:Int)/\(∃ v26,ah h23 (a25.add (a_.toNat * 2))=some (.string v26)/\(∃ v27,ah h23 (b_.add 1)=some (Slc.v v27)/\(∃ a28,v27.a=some a28/\(0:Int)<=(IntKind.i64.wrap (a_ - 1))/\(IntKind.i64.wrap (a_ - 1)) < (v27.len:Int)/\(∃ v29,ah h23 (a28.add ((IntKind.i64.wrap (a_ - 1)).toNat * 2))=some (.string v29)/\(fZ b_ a_ (Op.bytesLess v26.toList v29.toList || v26.toList == v29.toList) k nx2 h23))))))) else (fZ b_ a_ false k nx2 h23))) h12))))) h_2)))) else (k true h_2))
def Fu (b_:Addr) (i3:Int) (k:KP Bool) (h:Heap):Prop :=
  ∃ (I:KP Int) (μ:Int->Heap->Nat),I i3 h/\∀ (a_:Int) (h:Heap),I a_ h->Ah b_ a_ k (fun s h'=>I s h'/\μ s h' < μ a_ h) h
def oK (a_:Addr) (b_:Bool) (k:KP Bool) (h_1:Heap):Prop :=
  if b_ then (k false h_1) else (Fu a_ 0 k h_1)
def xZ (p0:ay) (k:KP Bool) (h:Heap):Prop :=
  ∃ b1 h2,b1=h.size/\h2=h.push (.cells (ay.cs p0).toArray 147)/\(∃ v3,ah h2 (ad b1)=some (.string v3)/\(nW v3 (fun r4 h5=>if (!r4) then (oK (ad b1) true k h5) else (∃ v30,ah h5 ((ad b1).add 1)=some (Slc.v v30)/\(oK (ad b1) (decide ((v30.len:Int) > 8)) k h5))) h2))
/-- quaestor quaestorref15.Parse -/
def oO (g_:Addr) (d_:Addr) (b_:Addr) (a_:Int) (f_:Bool) (k:KP (ay × Bool)) (nx1:KP (Bool × Int)) (h_2:Heap):Prop :=
  ∃ v13,ah h_2 (b_.add 1)=some (Slc.v v13)/\(∃ v14,ah h_2 (d_.add 1)=some (Slc.v v14)/\(∃ a15,v14.a=some a15/\(0:Int)<=a_/\a_ < (v14.len:Int)/\(∃ v16,ah h_2 (a15.add (a_.toNat * 3))=some (.string v16)/\(∃ v17,ah h_2 (d_.add 1)=some (Slc.v v17)/\(∃ a18,v17.a=some a18/\(0:Int)<=a_/\a_ < (v17.len:Int)/\(∃ v19,ah h_2 ((a18.add (a_.toNat * 3)).add 2)=some (.string v19)/\(∃ b20 h21,b20=h_2.size/\h21=h_2.push (.cells ((aD.cs (⟨v16,v19⟩:aD))).toArray 178)/\(ah h21 (b_.add 1)=some (Slc.v v13)/\(App 178 2 32 [.string ByteArray.empty,.string ByteArray.empty] h21 v13 1 ((aD.cs (⟨v16,v19⟩:aD))) (fun s23 h24=>∃ h25,WrH h24 (b_.add 1)/\h25=setH h24 (b_.add 1) (Slc.v s23)/\(∃ x26,x26=(IntKind.i64.wrap (a_ + 1))/\(nx1 (f_,x26) h25))))))))))))
def mX (a_:Addr) (b_:Addr) (d_:Bool) (k:KP (ay × Bool)) (nx1:KP (Bool × Int)) (h_3:Heap):Prop :=
  if d_ then (∃ h30,aN h_3 a_ 2/\h30=aM h_3 a_ 0 (ay.cs (⟨ByteArray.empty,(⟨none,0,0⟩:Slc)⟩:ay))/\(∃ v31,ai h30 a_ (ay.cs v31)/\k (v31,false) h30)) else (∃ v32,ai h_3 b_ (ay.cs v32)/\(∃ h33,aN h_3 a_ 2/\h33=aM h_3 a_ 0 (ay.cs v32)/\(∃ v34,ai h33 a_ (ay.cs v34)/\k (v34,true) h33)))
def Aa (d_:Addr) (f_:Addr) (b_:Addr) (g_:Bool) (a_:Int) (k:KP (ay × Bool)) (nx1:KP (Bool × Int)) (h_1:Heap):Prop :=
  ∃ v12,ah h_1 (f_.add 1)=some (Slc.v v12)/\(if (decide (a_ < (v12.len:Int))) then (if g_ then (∃ v27,ah h_1 (f_.add 1)=some (Slc.v v27)/\(∃ a28,v27.a=some a28/\(0:Int)<=a_/\a_ < (v27.len:Int)/\(∃ v29,ah h_1 ((a28.add (a_.toNat * 3)).add 1)=some (.int .i64 v29)/\(oO d_ f_ b_ a_ (v29 == 0) k nx1 h_1)))) else (oO d_ f_ b_ a_ false k nx1 h_1)) else (if (!g_) then (mX d_ b_ true k nx1 h_1) else (∃ v35,ai h_1 b_ (ay.cs v35)/\(xZ v35 (fun r36 h37=>mX d_ b_ (!r36) k nx1 h37) h_1))))
def wh (d_:Addr) (f_:Addr) (g_:Addr) (i5:Bool) (i7:Int) (k:KP (ay × Bool)) (h:Heap):Prop :=
  ∃ (I:KP (Bool × Int)) (μ:(Bool × Int)->Heap->Nat),I (i5,i7) h/\∀ (a_:Bool) (b_:Int) (h:Heap),I (a_,b_) h->Aa d_ f_ g_ a_ b_ k (fun s h'=>I s h'/\μ s h' < μ (a_,b_) h) h
def uA (p0:ByteArray) (k:KP (ay × Bool)) (h:Heap):Prop :=
  ∃ b1 h2,b1=h.size/\h2=h.push (.cells (ay.cs (⟨ByteArray.empty,(⟨none,0,0⟩:Slc)⟩:ay)).toArray 147)/\(iT p0 (fun r3 h4=>∃ b5 h6,b5=h4.size/\h6=h4.push (.cells (af.cs (⟨ByteArray.empty,(⟨none,0,0⟩:Slc)⟩:af)).toArray 139)/\(∃ h7,aN h6 (ad b5) 2/\h7=aM h6 (ad b5) 0 (af.cs r3.1)/\(∃ v8,ah h7 (ad b5)=some (.string v8)/\(∃ b9 h10,b9=h7.size/\h10=h7.push (.cells (ay.cs (⟨ByteArray.empty,(⟨none,0,0⟩:Slc)⟩:ay)).toArray 147)/\(∃ h11,aN h10 (ad b9) 2/\h11=aM h10 (ad b9) 0 (ay.cs (⟨v8,(⟨none,0,0⟩:Slc)⟩:ay))/\(wh (ad b1) (ad b5) (ad b9) r3.2 0 k h11)))))) h2)
/-- quaestor quaestorref15.Chooses -/
def mR (f_:Addr) (g_:Addr) (h_:Int) (j_:Addr) (a_:Int) (b_:Bool) (d_:Bool) (k:KP Bool) (nx2:KP Int) (nx3:KP (Bool × Bool × Int)) (h_4:Heap):Prop :=
  ∃ x14,x14=(IntKind.i64.wrap (a_ + 1))/\(nx3 (b_,d_,x14) h_4)
def ko (a_:Addr) (b_:Addr) (d_:Int) (f_:Addr) (g_:Bool) (h_:Int) (j_:Bool) (k:KP Bool) (nx2:KP Int) (nx3:KP (Bool × Bool × Int)) (h_6:Heap):Prop :=
  mR a_ b_ d_ f_ h_ g_ j_ k nx2 nx3 h_6
def ng (a_:Addr) (b_:Addr) (d_:Int) (f_:Addr) (g_:Bool) (h_:Int) (l_:Bool) (j_:Bool) (k:KP Bool) (nx2:KP Int) (nx3:KP (Bool × Bool × Int)) (h_7:Heap):Prop :=
  ko a_ b_ d_ f_ g_ h_ j_ k nx2 nx3 h_7
def nC (b_:Addr) (d_:Addr) (f_:Int) (a_:Addr) (l_:Bool) (g_:Int) (j_:Addr) (h_:Bool) (k:KP Bool) (nx2:KP Int) (nx3:KP (Bool × Bool × Int)) (h_5:Heap):Prop :=
  if l_ then (ko b_ d_ f_ a_ h_ g_ true k nx2 nx3 h_5) else (∃ v23,ah h_5 (j_.add 1)=some (.string v23)/\(∃ v24,ah h_5 (a_.add 2)=some (.string v24)/\(if (decide ((v23.size:Int)>=(v24.size:Int))) then (∃ v25,ah h_5 (j_.add 1)=some (.string v25)/\(∃ v26,ah h_5 (a_.add 2)=some (.string v26)/\(∃ s27,(0:Int)<=0/\(0:Int)<=(v26.size:Int)/\(v26.size:Int)<=(v25.size:Int)/\s27=v25.extract (0:Int).toNat (v26.size:Int).toNat/\(∃ v28,ah h_5 (a_.add 2)=some (.string v28)/\(ng b_ d_ f_ a_ h_ g_ false (s27.toList == v28.toList) k nx2 nx3 h_5))))) else (ng b_ d_ f_ a_ h_ g_ false false k nx2 nx3 h_5))))
def lU (d_:Addr) (f_:Addr) (a_:Int) (b_:Bool) (k:KP Bool) (nx2:KP Int) (nx3:KP (Bool × Bool × Int)) (h_11:Heap):Prop :=
  if b_ then (k false h_11) else (∃ x32,x32=(IntKind.i64.wrap (a_ + 1))/\(nx2 x32 h_11))
def ek (a_:Addr) (b_:Addr) (d_:Int) (f_:Addr) (g_:Bool) (k:KP Bool) (nx2:KP Int) (nx3:KP (Bool × Bool × Int)) (h_10:Heap):Prop :=
  if g_ then (lU a_ b_ d_ true k nx2 nx3 h_10) else (∃ v33,ah h_10 (f_.add 1)=some (.int .i64 v33)/\(lU a_ b_ d_ (decide (v33 > 2)) k nx2 nx3 h_10))
def fo (b_:Addr) (d_:Addr) (f_:Int) (a_:Addr) (g_:Bool) (k:KP Bool) (nx2:KP Int) (nx3:KP (Bool × Bool × Int)) (h_9:Heap):Prop :=
  if g_ then (ek b_ d_ f_ a_ true k nx2 nx3 h_9) else (∃ v34,ah h_9 (a_.add 1)=some (.int .i64 v34)/\(ek b_ d_ f_ a_ (decide (v34 < 0)) k nx2 nx3 h_9))
def fM (b_:Addr) (d_:Addr) (f_:Int) (a_:Addr) (g_:Bool) (h_:Bool) (k:KP Bool) (nx2:KP Int) (nx3:KP (Bool × Bool × Int)) (h_8:Heap):Prop :=
  if h_ then (fo b_ d_ f_ a_ true k nx2 nx3 h_8) else (∃ v35,ah h_8 (a_.add 1)=some (.int .i64 v35)/\(fo b_ d_ f_ a_ ((v35 == 2) && (!g_)) k nx2 nx3 h_8))
def xL (f_:Addr) (b_:Addr) (g_:Int) (a_:Addr) (j_:Bool) (h_:Bool) (d_:Int) (k:KP Bool) (nx2:KP Int) (nx3:KP (Bool × Bool × Int)) (h_3:Heap):Prop :=
  ∃ v13,ah h_3 (b_.add 1)=some (Slc.v v13)/\(if (decide (d_ < (v13.len:Int))) then (∃ v15,ah h_3 (b_.add 1)=some (Slc.v v15)/\(∃ a16,v15.a=some a16/\(0:Int)<=d_/\d_ < (v15.len:Int)/\(∃ v17,ai h_3 (a16.add (d_.toNat * 2)) (aD.cs v17)/\(∃ b18 h19,b18=h_3.size/\h19=h_3.push (.cells (aD.cs (⟨ByteArray.empty,ByteArray.empty⟩:aD)).toArray 178)/\(∃ h20,aN h19 (ad b18) 2/\h20=aM h19 (ad b18) 0 (aD.cs v17)/\(∃ v21,ah h20 (ad b18)=some (.string v21)/\(∃ v22,ah h20 a_=some (.string v22)/\(if (!(v21.toList == v22.toList)) then (mR f_ b_ g_ a_ d_ j_ h_ k nx2 nx3 h20) else (if j_ then (nC f_ b_ g_ a_ h_ d_ (ad b18) true k nx2 nx3 h20) else (∃ v29,ah h20 ((ad b18).add 1)=some (.string v29)/\(∃ v30,ah h20 (a_.add 2)=some (.string v30)/\(nC f_ b_ g_ a_ h_ d_ (ad b18) (v29.toList == v30.toList) k nx2 nx3 h20)))))))))))) else (∃ v31,ah h_3 (a_.add 1)=some (.int .i64 v31)/\(if ((v31 == 0) && (!j_)) then (fM f_ b_ g_ a_ h_ true k nx2 nx3 h_3) else (∃ v36,ah h_3 (a_.add 1)=some (.int .i64 v36)/\(fM f_ b_ g_ a_ h_ ((v36 == 1) && j_) k nx2 nx3 h_3)))))
def DV (f_:Addr) (g_:Addr) (h_:Int) (j_:Addr) (i7:Bool) (i8:Bool) (i9:Int) (k:KP Bool) (nx2:KP Int) (h:Heap):Prop :=
  ∃ (I:KP (Bool × Bool × Int)) (μ:(Bool × Bool × Int)->Heap->Nat),I (i7,i8,i9) h/\∀ (a_:Bool) (b_:Bool) (d_:Int) (h:Heap),I (a_,b_,d_) h->xL f_ g_ h_ j_ a_ b_ d_ k nx2 (fun s h'=>I s h'/\μ s h' < μ (a_,b_,d_) h) h
def yj (b_:Addr) (d_:Addr) (a_:Int) (k:KP Bool) (nx2:KP Int) (h_2:Heap):Prop :=
  ∃ v6,ah h_2 (b_.add 1)=some (Slc.v v6)/\(if (decide (a_ < (v6.len:Int))) then (∃ v7,ah h_2 (b_.add 1)=some (Slc.v v7)/\(∃ a8,v7.a=some a8/\(0:Int)<=a_/\a_ < (v7.len:Int)/\(∃ v9,ai h_2 (a8.add (a_.toNat * 3)) (az.cs v9)/\(∃ b10 h11,b10=h_2.size/\h11=h_2.push (.cells (az.cs (⟨ByteArray.empty,0,ByteArray.empty⟩:az)).toArray 174)/\(∃ h12,aN h11 (ad b10) 3/\h12=aM h11 (ad b10) 0 (az.cs v9)/\(DV b_ d_ a_ (ad b10) false false 0 k nx2 h12)))))) else (k true h_2))
def DR (b_:Addr) (d_:Addr) (i5:Int) (k:KP Bool) (h:Heap):Prop :=
  ∃ (I:KP Int) (μ:Int->Heap->Nat),I i5 h/\∀ (a_:Int) (h:Heap),I a_ h->yj b_ d_ a_ k (fun s h'=>I s h'/\μ s h' < μ a_ h) h
def nE (a_:Addr) (b_:Addr) (d_:Bool) (k:KP Bool) (h_1:Heap):Prop :=
  if d_ then (k false h_1) else (DR a_ b_ 0 k h_1)
def sZ (p0:af) (p1:ay) (k:KP Bool) (h:Heap):Prop :=
  ∃ b1 h2,b1=h.size/\h2=h.push (.cells (af.cs p0).toArray 139)/\(∃ b3 h4,b3=h2.size/\h4=h2.push (.cells (ay.cs p1).toArray 147)/\(∃ v5,ah h4 (ad b1)=some (.string v5)/\(if (!(v5.toList == (⟨#[]⟩:ByteArray).toList)) then (∃ v37,ah h4 (ad b1)=some (.string v37)/\(∃ v38,ah h4 (ad b3)=some (.string v38)/\(nE (ad b1) (ad b3) (!(v37.toList == v38.toList)) k h4))) else (nE (ad b1) (ad b3) false k h4))))
/-- quaestor quaestorref13.Check -/
def qQ (a_:Bool) (k:KP Bool) (h_1:Heap):Prop :=
  k a_ h_1
def ym (p0:ae) (k:KP Bool) (h:Heap):Prop :=
  ∃ b1 h2,b1=h.size/\h2=h.push (.cells (ae.cs p0).toArray 89)/\(∃ v3,ah h2 (ad b1)=some (.string v3)/\(if (decide ((v3.size:Int)>=1)) then (∃ v4,ah h2 (ad b1)=some (.string v4)/\(qQ (decide ((v4.size:Int)<=200)) k h2)) else (qQ false k h2)))
/-- quaestor quaestorref13.Above -/
def pg (a_:Bool) (k:KP Bool) (h_1:Heap):Prop :=
  k a_ h_1
def ru (b_:Bool) (a_:Bool) (k:KP Bool) (h_2:Heap):Prop :=
  pg a_ k h_2
def xA (p0:aG) (p1:aG) (k:KP Bool) (h:Heap):Prop :=
  ∃ b1 h2,b1=h.size/\h2=h.push (.cells (aG.cs p0).toArray 87)/\(∃ b3 h4,b3=h2.size/\h4=h2.push (.cells (aG.cs p1).toArray 87)/\(∃ v5,ah h4 (ad b1)=some (.int .u64 v5)/\(∃ v6,ah h4 (ad b3)=some (.int .u64 v6)/\(if (decide (v5 > v6)) then (pg true k h4) else (∃ v7,ah h4 (ad b1)=some (.int .u64 v7)/\(∃ v8,ah h4 (ad b3)=some (.int .u64 v8)/\(if (v7 == v8) then (∃ v9,ah h4 ((ad b1).add 1)=some (.int .u16 v9)/\(∃ v10,ah h4 ((ad b3).add 1)=some (.int .u16 v10)/\(ru false (decide (v9 > v10)) k h4))) else (ru false false k h4))))))))
/-- quaestor quaestorref13.Merge -/
def mZ (d_:Slc) (a_:Int) (b_:Slc) (k:KP Slc) (nx1:KP (Slc × Int)) (h_2:Heap):Prop :=
  ∃ x1,x1=(IntKind.i64.wrap (a_ + 1))/\(nx1 (b_,x1) h_2)
def oQ (a_:Slc) (b_:Slc) (d_:Int) (k:KP Slc) (nx1:KP (Slc × Int)) (nx3:KP Int) (h_7:Heap):Prop :=
  mZ a_ d_ b_ k nx1 h_7
def nH (d_:Slc) (a_:Slc) (f_:Int) (g_:Addr) (b_:Int) (h_:Bool) (k:KP Slc) (nx1:KP (Slc × Int)) (nx3:KP Int) (h_8:Heap):Prop :=
  if h_ then (∃ v11,ai h_8 g_ (ae.cs v11)/\(∃ a12,a_.a=some a12/\(0:Int)<=b_/\b_ < (a_.len:Int)/\(∃ h13,aN h_8 (a12.add (b_.toNat * 5)) 5/\h13=aM h_8 (a12.add (b_.toNat * 5)) 0 (ae.cs v11)/\(oQ d_ a_ f_ k nx1 nx3 h13)))) else (oQ d_ a_ f_ k nx1 nx3 h_8)
def nG (f_:Slc) (a_:Slc) (g_:Int) (d_:Addr) (b_:Int) (h_:Bool) (k:KP Slc) (nx1:KP (Slc × Int)) (nx3:KP Int) (h_6:Heap):Prop :=
  if h_ then (∃ v14,ai h_6 (d_.add 3) (aG.cs v14)/\(∃ a15,a_.a=some a15/\(0:Int)<=b_/\b_ < (a_.len:Int)/\(∃ v16,ai h_6 ((a15.add (b_.toNat * 5)).add 3) (aG.cs v16)/\(xA v14 v16 (fun r17 h18=>if r17 then (nH f_ a_ g_ d_ b_ true k nx1 nx3 h18) else (∃ v19,ai h18 (d_.add 3) (aG.cs v19)/\(∃ a20,a_.a=some a20/\(0:Int)<=b_/\b_ < (a_.len:Int)/\(∃ v21,ai h18 ((a20.add (b_.toNat * 5)).add 3) (aG.cs v21)/\(if (if BinOp.eql = .eql then ((v19.f_N == v21.f_N) && (v19.aR == v21.aR)) else !((v19.f_N == v21.f_N) && (v19.aR == v21.aR))) then (∃ v22,ah h18 (d_.add 2)=some (.int .i64 v22)/\(∃ a23,a_.a=some a23/\(0:Int)<=b_/\b_ < (a_.len:Int)/\(∃ v24,ah h18 ((a23.add (b_.toNat * 5)).add 2)=some (.int .i64 v24)/\(nH f_ a_ g_ d_ b_ (decide (v22 > v24)) k nx1 nx3 h18)))) else (nH f_ a_ g_ d_ b_ false k nx1 nx3 h18)))))) h_6)))) else (∃ s25,(0:Int)<=0/\(0:Int)<=b_/\(b_:Int)<=(a_.cap:Int)/\(a_.cap:Int)<=(a_.cap:Int)/\s25=rY a_ 5 (0:Int).toNat b_.toNat (a_.cap:Int).toNat/\(∃ l28,SlcAt h_6 s25 l28/\App 89 5 48 [.string ByteArray.empty,.int .i64 0,.int .i64 0,.int .u64 0,.int .u16 0] h_6 (⟨none,0,0⟩:Slc) s25.len l28 (fun s26 h27=>∃ v29,ai h27 d_ (ae.cs v29)/\(∃ b30 h31,b30=h27.size/\h31=h27.push (.cells ((ae.cs v29)).toArray 89)/\(App 89 5 48 [.string ByteArray.empty,.int .i64 0,.int .i64 0,.int .u64 0,.int .u16 0] h31 s26 1 ((ae.cs v29)) (fun s32 h33=>∃ s34,(0:Int)<=b_/\(b_:Int)<=(a_.len:Int)/\((a_.len:Int):Int)<=(a_.cap:Int)/\(a_.cap:Int)<=(a_.cap:Int)/\s34=rY a_ 5 b_.toNat (a_.len:Int).toNat (a_.cap:Int).toNat/\(∃ l37,SlcAt h33 s34 l37/\App 89 5 48 [.string ByteArray.empty,.int .i64 0,.int .i64 0,.int .u64 0,.int .u16 0] h33 s32 s34.len l37 (fun s35 h36=>mZ f_ g_ s35 k nx1 h36))))))))
def oZ (f_:Slc) (b_:Slc) (g_:Int) (d_:Addr) (a_:Int) (h_:Bool) (k:KP Slc) (nx1:KP (Slc × Int)) (nx3:KP Int) (h_5:Heap):Prop :=
  if h_ then (∃ a38,b_.a=some a38/\(0:Int)<=a_/\a_ < (b_.len:Int)/\(∃ v39,ah h_5 ((a38.add (a_.toNat * 5)).add 1)=some (.int .i64 v39)/\(∃ v40,ah h_5 (d_.add 1)=some (.int .i64 v40)/\(nG f_ b_ g_ d_ a_ (v39 == v40) k nx1 nx3 h_5)))) else (nG f_ b_ g_ d_ a_ false k nx1 nx3 h_5)
def kM (f_:Slc) (b_:Slc) (g_:Int) (d_:Addr) (a_:Int) (h_:Bool) (k:KP Slc) (nx1:KP (Slc × Int)) (nx3:KP Int) (h_4:Heap):Prop :=
  if h_ then (∃ x10,x10=(IntKind.i64.wrap (a_ + 1))/\(nx3 x10 h_4)) else (if (decide (a_ < (b_.len:Int))) then (∃ a41,b_.a=some a41/\(0:Int)<=a_/\a_ < (b_.len:Int)/\(∃ v42,ah h_4 (a41.add (a_.toNat * 5))=some (.string v42)/\(∃ v43,ah h_4 d_=some (.string v43)/\(oZ f_ b_ g_ d_ a_ (v42.toList == v43.toList) k nx1 nx3 h_4)))) else (oZ f_ b_ g_ d_ a_ false k nx1 nx3 h_4))
def oI (a_:Slc) (b_:Slc) (d_:Int) (f_:Addr) (g_:Int) (j_:Bool) (h_:Bool) (k:KP Slc) (nx1:KP (Slc × Int)) (nx3:KP Int) (h_9:Heap):Prop :=
  kM a_ b_ d_ f_ g_ h_ k nx1 nx3 h_9
def qB (a_:Slc) (b_:Slc) (d_:Int) (f_:Addr) (g_:Int) (h_:Bool) (l_:Bool) (j_:Bool) (k:KP Slc) (nx1:KP (Slc × Int)) (nx3:KP Int) (h_10:Heap):Prop :=
  oI a_ b_ d_ f_ g_ h_ j_ k nx1 nx3 h_10
def Ak (f_:Slc) (b_:Slc) (g_:Int) (d_:Addr) (a_:Int) (k:KP Slc) (nx1:KP (Slc × Int)) (nx3:KP Int) (h_3:Heap):Prop :=
  if (decide (a_ < (b_.len:Int))) then (∃ a44,b_.a=some a44/\(0:Int)<=a_/\a_ < (b_.len:Int)/\(∃ v45,ah h_3 (a44.add (a_.toNat * 5))=some (.string v45)/\(∃ v46,ah h_3 d_=some (.string v46)/\(if (Op.bytesLess v45.toList v46.toList) then (oI f_ b_ g_ d_ a_ true true k nx1 nx3 h_3) else (∃ a47,b_.a=some a47/\(0:Int)<=a_/\a_ < (b_.len:Int)/\(∃ v48,ah h_3 (a47.add (a_.toNat * 5))=some (.string v48)/\(∃ v49,ah h_3 d_=some (.string v49)/\(if (v48.toList == v49.toList) then (∃ a50,b_.a=some a50/\(0:Int)<=a_/\a_ < (b_.len:Int)/\(∃ v51,ah h_3 ((a50.add (a_.toNat * 5)).add 1)=some (.int .i64 v51)/\(∃ v52,ah h_3 (d_.add 1)=some (.int .i64 v52)/\(qB f_ b_ g_ d_ a_ true false (decide (v51 < v52)) k nx1 nx3 h_3)))) else (qB f_ b_ g_ d_ a_ true false false k nx1 nx3 h_3))))))))) else (kM f_ b_ g_ d_ a_ false k nx1 nx3 h_3)
def AV (b_:Slc) (d_:Slc) (f_:Int) (g_:Addr) (i6:Int) (k:KP Slc) (nx1:KP (Slc × Int)) (h:Heap):Prop :=
  ∃ (I:KP Int) (μ:Int->Heap->Nat),I i6 h/\∀ (a_:Int) (h:Heap),I a_ h->Ak b_ d_ f_ g_ a_ k nx1 (fun s h'=>I s h'/\μ s h' < μ a_ h) h
def Ac (b_:Slc) (d_:Slc) (a_:Int) (k:KP Slc) (nx1:KP (Slc × Int)) (h_1:Heap):Prop :=
  if (decide (a_ < (b_.len:Int))) then (∃ a2,b_.a=some a2/\(0:Int)<=a_/\a_ < (b_.len:Int)/\(∃ v3,ai h_1 (a2.add (a_.toNat * 5)) (ae.cs v3)/\(∃ b4 h5,b4=h_1.size/\h5=h_1.push (.cells (ae.cs (⟨ByteArray.empty,0,0,(⟨0,0⟩:aG)⟩:ae)).toArray 89)/\(∃ h6,aN h5 (ad b4) 5/\h6=aM h5 (ad b4) 0 (ae.cs v3)/\(∃ v7,ai h6 (ad b4) (ae.cs v7)/\(ym v7 (fun r8 h9=>if (!r8) then (mZ b_ a_ d_ k nx1 h9) else (AV b_ d_ a_ (ad b4) 0 k nx1 h9)) h6)))))) else (k d_ h_1)
def A7 (d_:Slc) (i3:Slc) (i4:Int) (k:KP Slc) (h:Heap):Prop :=
  ∃ (I:KP (Slc × Int)) (μ:(Slc × Int)->Heap->Nat),I (i3,i4) h/\∀ (a_:Slc) (b_:Int) (h:Heap),I (a_,b_) h->Ac d_ a_ b_ k (fun s h'=>I s h'/\μ s h' < μ (a_,b_) h) h
def tT (p0:Slc) (k:KP Slc) (h:Heap):Prop :=
  A7 p0 (⟨none,0,0⟩:Slc) 0 k h
/-- quaestor quaestorref19.Check -/
def rV (a_:Bool) (k:KP Int) (h_2:Heap):Prop :=
  if a_ then (k 1 h_2) else (k 0 h_2)
def qW (b_:Bool) (a_:Bool) (k:KP Int) (h_3:Heap):Prop :=
  rV a_ k h_3
def qP (a_:Addr) (b_:Bool) (k:KP Int) (h_1:Heap):Prop :=
  if b_ then (rV true k h_1) else (∃ v10,ah h_1 (a_.add 3)=some (.int .i64 v10)/\(if (v10 == 6) then (∃ v11,ah h_1 (a_.add 4)=some (.int .i64 v11)/\(qW false (decide (v11 < 1)) k h_1)) else (qW false false k h_1)))
def xC (p0:aC) (k:KP Int) (h:Heap):Prop :=
  ∃ b1 h2,b1=h.size/\h2=h.push (.cells (aC.cs p0).toArray 28)/\(∃ v3,ah h2 (ad b1)=some (.string v3)/\(iT v3 (fun r4 h5=>∃ b6 h7,b6=h5.size/\h7=h5.push (.cells (af.cs (⟨ByteArray.empty,(⟨none,0,0⟩:Slc)⟩:af)).toArray 139)/\(∃ h8,aN h7 (ad b6) 2/\h8=aM h7 (ad b6) 0 (af.cs r4.1)/\(if (!r4.2) then (k 4 h8) else (∃ v9,ah h8 ((ad b1).add 3)=some (.int .i64 v9)/\(if (decide (v9 < 0)) then (qP (ad b1) true k h8) else (∃ v12,ah h8 ((ad b1).add 3)=some (.int .i64 v12)/\(qP (ad b1) (decide (v12 > 6)) k h8))))))) h2))
/-- quaestor quaestorref19.Ask -/
def vg (d_:Int) (f_:Addr) (g_:Addr) (h_:Slc) (a_:Int) (b_:Slc) (k:KP Slc) (nx1:KP (Slc × Int)) (h_2:Heap):Prop :=
  ∃ x11,x11=(IntKind.i64.wrap (a_ + 1))/\(nx1 (b_,x11) h_2)
def bS (d_:Int) (f_:Addr) (g_:Addr) (b_:Slc) (h_:Slc) (a_:Int) (j_:Bool) (k:KP Slc) (nx1:KP (Slc × Int)) (h_3:Heap):Prop :=
  if j_ then (∃ a19,b_.a=some a19/\(0:Int)<=a_/\a_ < (b_.len:Int)/\(∃ v20,ai h_3 (a19.add (a_.toNat * 5)) (ae.cs v20)/\(∃ b21 h22,b21=h_3.size/\h22=h_3.push (.cells ((ae.cs v20)).toArray 89)/\(App 89 5 48 [.string ByteArray.empty,.int .i64 0,.int .i64 0,.int .u64 0,.int .u16 0] h22 h_ 1 ((ae.cs v20)) (fun s23 h24=>vg d_ f_ g_ b_ a_ s23 k nx1 h24))))) else (vg d_ f_ g_ b_ a_ h_ k nx1 h_3)
def Ck (f_:Int) (d_:Addr) (g_:Addr) (b_:Slc) (h_:Slc) (a_:Int) (k:KP Slc) (nx1:KP (Slc × Int)) (h_1:Heap):Prop :=
  if (decide (a_ < (b_.len:Int))) then (∃ a12,b_.a=some a12/\(0:Int)<=a_/\a_ < (b_.len:Int)/\(∃ v13,ah h_1 (a12.add (a_.toNat * 5))=some (.string v13)/\(uA v13 (fun r14 h15=>∃ b16 h17,b16=h15.size/\h17=h15.push (.cells (ay.cs (⟨ByteArray.empty,(⟨none,0,0⟩:Slc)⟩:ay)).toArray 147)/\(∃ h18,aN h17 (ad b16) 2/\h18=aM h17 (ad b16) 0 (ay.cs r14.1)/\(if r14.2 then (∃ v25,ai h18 g_ (af.cs v25)/\(∃ v26,ai h18 (ad b16) (ay.cs v26)/\(sZ v25 v26 (fun r27 h28=>if r27 then (∃ a29,b_.a=some a29/\(0:Int)<=a_/\a_ < (b_.len:Int)/\(∃ v30,ah h28 ((a29.add (a_.toNat * 5)).add 1)=some (.int .i64 v30)/\(∃ v31,ah h28 (d_.add 1)=some (.int .i64 v31)/\(if (decide (v30>=v31)) then (∃ a32,b_.a=some a32/\(0:Int)<=a_/\a_ < (b_.len:Int)/\(∃ v33,ah h28 ((a32.add (a_.toNat * 5)).add 1)=some (.int .i64 v33)/\(if (decide (v33>=f_)) then (∃ a34,b_.a=some a34/\(0:Int)<=a_/\a_ < (b_.len:Int)/\(∃ v35,ah h28 ((a34.add (a_.toNat * 5)).add 1)=some (.int .i64 v35)/\(∃ v36,ah h28 (d_.add 2)=some (.int .i64 v36)/\(bS f_ d_ g_ b_ h_ a_ (decide (v35<=v36)) k nx1 h28)))) else (bS f_ d_ g_ b_ h_ a_ false k nx1 h28)))) else (if false then (∃ a37,b_.a=some a37/\(0:Int)<=a_/\a_ < (b_.len:Int)/\(∃ v38,ah h28 ((a37.add (a_.toNat * 5)).add 1)=some (.int .i64 v38)/\(∃ v39,ah h28 (d_.add 2)=some (.int .i64 v39)/\(bS f_ d_ g_ b_ h_ a_ (decide (v38<=v39)) k nx1 h28)))) else (bS f_ d_ g_ b_ h_ a_ false k nx1 h28)))))) else (if false then (∃ a40,b_.a=some a40/\(0:Int)<=a_/\a_ < (b_.len:Int)/\(∃ v41,ah h28 ((a40.add (a_.toNat * 5)).add 1)=some (.int .i64 v41)/\(if (decide (v41>=f_)) then (∃ a42,b_.a=some a42/\(0:Int)<=a_/\a_ < (b_.len:Int)/\(∃ v43,ah h28 ((a42.add (a_.toNat * 5)).add 1)=some (.int .i64 v43)/\(∃ v44,ah h28 (d_.add 2)=some (.int .i64 v44)/\(bS f_ d_ g_ b_ h_ a_ (decide (v43<=v44)) k nx1 h28)))) else (bS f_ d_ g_ b_ h_ a_ false k nx1 h28)))) else (if false then (∃ a45,b_.a=some a45/\(0:Int)<=a_/\a_ < (b_.len:Int)/\(∃ v46,ah h28 ((a45.add (a_.toNat * 5)).add 1)=some (.int .i64 v46)/\(∃ v47,ah h28 (d_.add 2)=some (.int .i64 v47)/\(bS f_ d_ g_ b_ h_ a_ (decide (v46<=v47)) k nx1 h28)))) else (bS f_ d_ g_ b_ h_ a_ false k nx1 h28)))) h18))) else (if false then (∃ a48,b_.a=some a48/\(0:Int)<=a_/\a_ < (b_.len:Int)/\(∃ v49,ah h18 ((a48.add (a_.toNat * 5)).add 1)=some (.int .i64 v49)/\(∃ v50,ah h18 (d_.add 1)=some (.int .i64 v50)/\(if (decide (v49>=v50)) then (∃ a51,b_.a=some a51/\(0:Int)<=a_/\a_ < (b_.len:Int)/\(∃ v52,ah h18 ((a51.add (a_.toNat * 5)).add 1)=some (.int .i64 v52)/\(if (decide (v52>=f_)) then (∃ a53,b_.a=some a53/\(0:Int)<=a_/\a_ < (b_.len:Int)/\(∃ v54,ah h18 ((a53.add (a_.toNat * 5)).add 1)=some (.int .i64 v54)/\(∃ v55,ah h18 (d_.add 2)=some (.int .i64 v55)/\(bS f_ d_ g_ b_ h_ a_ (decide (v54<=v55)) k nx1 h18)))) else (bS f_ d_ g_ b_ h_ a_ false k nx1 h18)))) else (if false then (∃ a56,b_.a=some a56/\(0:Int)<=a_/\a_ < (b_.len:Int)/\(∃ v57,ah h18 ((a56.add (a_.toNat * 5)).add 1)=some (.int .i64 v57)/\(∃ v58,ah h18 (d_.add 2)=some (.int .i64 v58)/\(bS f_ d_ g_ b_ h_ a_ (decide (v57<=v58)) k nx1 h18)))) else (bS f_ d_ g_ b_ h_ a_ false k nx1 h18)))))) else (if false then (∃ a59,b_.a=some a59/\(0:Int)<=a_/\a_ < (b_.len:Int)/\(∃ v60,ah h18 ((a59.add (a_.toNat * 5)).add 1)=some (.int .i64 v60)/\(if (decide (v60>=f_)) then (∃ a61,b_.a=some a61/\(0:Int)<=a_/\a_ < (b_.len:Int)/\(∃ v62,ah h18 ((a61.add (a_.toNat * 5)).add 1)=some (.int .i64 v62)/\(∃ v63,ah h18 (d_.add 2)=some (.int .i64 v63)/\(bS f_ d_ g_ b_ h_ a_ (decide (v62<=v63)) k nx1 h18)))) else (bS f_ d_ g_ b_ h_ a_ false k nx1 h18)))) else (if false then (∃ a64,b_.a=some a64/\(0:Int)<=a_/\a_ < (b_.len:Int)/\(∃ v65,ah h18 ((a64.add (a_.toNat * 5)).add 1)=some (.int .i64 v65)/\(∃ v66,ah h18 (d_.add 2)=some (.int .i64 v66)/\(bS f_ d_ g_ b_ h_ a_ (decide (v65<=v66)) k nx1 h18)))) else (bS f_ d_ g_ b_ h_ a_ false k nx1 h18))))))) h_1))) else (k h_ h_1)
def CB (d_:Int) (f_:Addr) (g_:Addr) (h_:Slc) (i10:Slc) (i11:Int) (k:KP Slc) (h:Heap):Prop :=
  ∃ (I:KP (Slc × Int)) (μ:(Slc × Int)->Heap->Nat),I (i10,i11) h/\∀ (a_:Slc) (b_:Int) (h:Heap),I (a_,b_) h->Ck d_ f_ g_ h_ a_ b_ k (fun s h'=>I s h'/\μ s h' < μ (a_,b_) h) h
def Bn (p0:aC) (p1:Slc) (p2:Int) (k:KP Slc) (h:Heap):Prop :=
  ∃ b1 h2,b1=h.size/\h2=h.push (.cells (aC.cs p0).toArray 28)/\(∃ v3,ah h2 (ad b1)=some (.string v3)/\(iT v3 (fun r4 h5=>∃ b6 h7,b6=h5.size/\h7=h5.push (.cells (af.cs (⟨ByteArray.empty,(⟨none,0,0⟩:Slc)⟩:af)).toArray 139)/\(∃ h8,aN h7 (ad b6) 2/\h8=aM h7 (ad b6) 0 (af.cs r4.1)/\(tT p1 (fun r9 h10=>CB p2 (ad b1) (ad b6) r9 (⟨none,0,0⟩:Slc) 0 k h10) h8))) h2))
/-- quaestor quaestorref19.Run -/
def qV (d_:Addr) (f_:Slc) (a_:Int) (b_:Slc) (k:KP (Slc × Int)) (nx1:KP (Slc × Int)) (nx2:KP Int) (nx4:KP (Int × Int × Int)) (h_6:Heap):Prop :=
  nx1 (b_,a_) h_6
def pO (a_:Addr) (b_:Slc) (d_:Slc) (f_:Int) (g_:Addr) (h_:Bool) (k:KP (Slc × Int)) (nx1:KP (Slc × Int)) (nx2:KP Int) (nx4:KP (Int × Int × Int)) (h_8:Heap):Prop :=
  if h_ then (∃ v43,ai h_8 g_ (aH.cs v43)/\(∃ b44 h45,b44=h_8.size/\h45=h_8.push (.cells ((aH.cs v43)).toArray 118)/\(App 118 4 40 [.string ByteArray.empty,.int .i64 0,.int .i64 0,.int .u64 0] h45 d_ 1 ((aH.cs v43)) (fun s46 h47=>qV a_ b_ f_ s46 k nx1 nx2 nx4 h47)))) else (qV a_ b_ f_ d_ k nx1 nx2 nx4 h_8)
def pV (a_:Addr) (d_:Slc) (f_:Slc) (h_:Int) (b_:Int) (g_:Addr) (j_:Bool) (k:KP (Slc × Int)) (nx1:KP (Slc × Int)) (nx2:KP Int) (nx4:KP (Int × Int × Int)) (h_7:Heap):Prop :=
  if j_ then (pO a_ d_ f_ b_ g_ true k nx1 nx2 nx4 h_7) else (∃ v48,ah h_7 (a_.add 3)=some (.int .i64 v48)/\(pO a_ d_ f_ b_ g_ ((v48 == 5) && (decide ((IntKind.i64.wrap (b_ - h_)) > 1))) k nx1 nx2 nx4 h_7))
def dR (a_:Addr) (b_:Slc) (d_:Int) (f_:Int) (g_:Addr) (h_:Slc) (k:KP (Slc × Int)) (nx1:KP (Slc × Int)) (nx2:KP Int) (nx4:KP (Int × Int × Int)) (h_5:Heap):Prop :=
  ∃ v42,ah h_5 (a_.add 3)=some (.int .i64 v42)/\(if (decide (v42>=1)) then (∃ v49,ah h_5 (a_.add 3)=some (.int .i64 v49)/\(pV a_ b_ h_ d_ f_ g_ (decide (v49<=4)) k nx1 nx2 nx4 h_5)) else (pV a_ b_ h_ d_ f_ g_ false k nx1 nx2 nx4 h_5))
def Ce (g_:Addr) (b_:Slc) (h_:Int) (d_:Int) (j_:Addr) (f_:Slc) (a_:Int) (k:KP (Slc × Int)) (nx1:KP (Slc × Int)) (nx2:KP Int) (nx4:KP (Int × Int × Int)) (nx9:KP (Slc × Int)) (h_9:Heap):Prop :=
  if (decide (a_ < d_)) then (∃ a51,b_.a=some a51/\(0:Int)<=a_/\a_ < (b_.len:Int)/\(∃ v52,ah h_9 (a51.add (a_.toNat * 5))=some (.string v52)/\(∃ a53,b_.a=some a53/\(0:Int)<=a_/\a_ < (b_.len:Int)/\(∃ v54,ah h_9 ((a53.add (a_.toNat * 5)).add 1)=some (.int .i64 v54)/\(∃ a55,b_.a=some a55/\(0:Int)<=a_/\a_ < (b_.len:Int)/\(∃ v56,ah h_9 ((a55.add (a_.toNat * 5)).add 2)=some (.int .i64 v56)/\(mD v56 (fun r57 h58=>ah h58 ((a53.add (a_.toNat * 5)).add 1)=some (.int .i64 v54)/\ah h58 (a51.add (a_.toNat * 5))=some (.string v52)/\(∃ b61 h62,b61=h58.size/\h62=h58.push (.cells ((aH.cs (⟨v52,v54,r57⟩:aH))).toArray 118)/\(App 118 4 40 [.string ByteArray.empty,.int .i64 0,.int .i64 0,.int .u64 0] h62 f_ 1 ((aH.cs (⟨v52,v54,r57⟩:aH))) (fun s63 h64=>∃ x65,x65=(IntKind.i64.wrap (a_ + 1))/\(nx9 (s63,x65) h64))))) h_9))))))) else (dR g_ b_ h_ d_ j_ f_ k nx1 nx2 nx4 h_9)
def zP (d_:Addr) (f_:Slc) (g_:Int) (h_:Int) (j_:Addr) (i10:Slc) (i18:Int) (k:KP (Slc × Int)) (nx1:KP (Slc × Int)) (nx2:KP Int) (nx4:KP (Int × Int × Int)) (h:Heap):Prop :=
  ∃ (I:KP (Slc × Int)) (μ:(Slc × Int)->Heap->Nat),I (i10,i18) h/\∀ (a_:Slc) (b_:Int) (h:Heap),I (a_,b_) h->Ce d_ f_ g_ h_ j_ a_ b_ k nx1 nx2 nx4 (fun s h'=>I s h'/\μ s h' < μ (a_,b_) h) h
def ou (f_:Addr) (g_:Slc) (h_:Slc) (j_:Int) (l_:Int) (a_:Addr) (b_:Addr) (d_:Addr) (m_:Bool) (k:KP (Slc × Int)) (nx1:KP (Slc × Int)) (nx2:KP Int) (nx4:KP (Int × Int × Int)) (h_11:Heap):Prop :=
  if m_ then (k ((⟨none,0,0⟩:Slc),19) h_11) else (∃ v81,ah h_11 (d_.add 2)=some (.int .i64 v81)/\(∃ v82,ah h_11 (b_.add 2)=some (.int .i64 v82)/\(∃ v83,ah h_11 (d_.add 1)=some (.int .i64 v83)/\(∃ v84,ah h_11 (b_.add 1)=some (.int .i64 v84)/\(qN (IntKind.i64.wrap (v81 - v82)) (IntKind.i64.wrap (v83 - v84)) (fun r85 h86=>mD r85.1 (fun r87 h88=>∃ h89,aN h88 (a_.add 2) 2/\h89=aM h88 (a_.add 2) 0 (au.cs r87)/\(dR f_ g_ j_ l_ a_ h_ k nx1 nx2 nx4 h89)) h86) h_11)))))
def oq (g_:Addr) (h_:Slc) (j_:Slc) (a_:Int) (b_:Int) (l_:Addr) (d_:Addr) (f_:Addr) (k:KP (Slc × Int)) (nx1:KP (Slc × Int)) (nx2:KP Int) (nx4:KP (Int × Int × Int)) (h_10:Heap):Prop :=
  if (decide ((IntKind.i64.wrap (b_ - a_)) > 1)) then (∃ v77,ah h_10 (f_.add 2)=some (.int .i64 v77)/\(∃ v78,ah h_10 (d_.add 2)=some (.int .i64 v78)/\(uj v77 v78 (fun r79 h80=>if (!r79) then (ou g_ h_ j_ a_ b_ l_ d_ f_ true k nx1 nx2 nx4 h80) else (∃ v90,ah h80 (f_.add 1)=some (.int .i64 v90)/\(∃ v91,ah h80 (d_.add 1)=some (.int .i64 v91)/\(uj v90 v91 (fun r92 h93=>ou g_ h_ j_ a_ b_ l_ d_ f_ (!r92) k nx1 nx2 nx4 h93) h80)))) h_10))) else (dR g_ h_ a_ b_ l_ j_ k nx1 nx2 nx4 h_10)
def qy (f_:Addr) (b_:Slc) (g_:Slc) (a_:Int) (l_:Int) (m_:Addr) (d_:Int) (h_:Addr) (j_:Int) (k:KP (Slc × Int)) (nx1:KP (Slc × Int)) (nx2:KP Int) (nx4:KP (Int × Int × Int)) (nx12:KP (Slc × Int)) (h_13:Heap):Prop :=
  ∃ a128,b_.a=some a128/\(0:Int)<=a_/\a_ < (b_.len:Int)/\(∃ v129,ah h_13 (a128.add (a_.toNat * 5))=some (.string v129)/\(∃ v130,ah h_13 (f_.add 4)=some (.int .i64 v130)/\(∃ v131,ai h_13 h_ (au.cs v131)/\(∃ b132 h133,b132=h_13.size/\h133=h_13.push (.cells ((aH.cs (⟨v129,(IntKind.i64.wrap (d_ * v130)),v131⟩:aH))).toArray 118)/\(App 118 4 40 [.string ByteArray.empty,.int .i64 0,.int .i64 0,.int .u64 0] h133 g_ 1 ((aH.cs (⟨v129,(IntKind.i64.wrap (d_ * v130)),v131⟩:aH))) (fun s134 h135=>nx12 (s134,j_) h135))))))
def Az (f_:Addr) (b_:Slc) (j_:Slc) (l_:Int) (g_:Int) (m_:Addr) (h_:Int) (d_:Addr) (a_:Int) (k:KP (Slc × Int)) (nx1:KP (Slc × Int)) (nx2:KP Int) (nx4:KP (Int × Int × Int)) (nx12:KP (Slc × Int)) (nx14:KP Int) (h_14:Heap):Prop :=
  if (decide (a_ < g_)) then (∃ a136,b_.a=some a136/\(0:Int)<=a_/\a_ < (b_.len:Int)/\(∃ v137,ah h_14 ((a136.add (a_.toNat * 5)).add 1)=some (.int .i64 v137)/\(∃ v138,ah h_14 (f_.add 4)=some (.int .i64 v138)/\(qN v137 v138 (fun r139 h140=>if (r139.1 != h_) then (qy f_ b_ j_ l_ g_ m_ h_ d_ a_ k nx1 nx2 nx4 nx12 h140) else (∃ v141,ai h140 d_ (au.cs v141)/\(∃ a142,b_.a=some a142/\(0:Int)<=a_/\a_ < (b_.len:Int)/\(∃ v143,ah h140 ((a142.add (a_.toNat * 5)).add 2)=some (.int .i64 v143)/\(mD v143 (fun r144 h145=>ai h145 d_ (au.cs v141)/\(yJ v141 r144 (fun r147 h148=>∃ h149,aN h148 d_ 2/\h149=aM h148 d_ 0 (au.cs r147.1)/\(∃ x150,x150=(IntKind.i64.wrap (a_ + 1))/\(nx14 x150 h149))) h145)) h140))))) h_14)))) else (qy f_ b_ j_ l_ g_ m_ h_ d_ a_ k nx1 nx2 nx4 nx12 h_14)
def BP (b_:Addr) (d_:Slc) (f_:Slc) (g_:Int) (h_:Int) (j_:Addr) (l_:Int) (m_:Addr) (i23:Int) (k:KP (Slc × Int)) (nx1:KP (Slc × Int)) (nx2:KP Int) (nx4:KP (Int × Int × Int)) (nx12:KP (Slc × Int)) (h:Heap):Prop :=
  ∃ (I:KP Int) (μ:Int->Heap->Nat),I i23 h/\∀ (a_:Int) (h:Heap),I a_ h->Az b_ d_ f_ g_ h_ j_ l_ m_ a_ k nx1 nx2 nx4 nx12 (fun s h'=>I s h'/\μ s h' < μ a_ h) h
def AU (d_:Addr) (b_:Slc) (g_:Int) (f_:Int) (h_:Addr) (j_:Slc) (a_:Int) (k:KP (Slc × Int)) (nx1:KP (Slc × Int)) (nx2:KP Int) (nx4:KP (Int × Int × Int)) (nx12:KP (Slc × Int)) (h_12:Heap):Prop :=
  if (decide (a_ < f_)) then (∃ a120,b_.a=some a120/\(0:Int)<=a_/\a_ < (b_.len:Int)/\(∃ v121,ah h_12 ((a120.add (a_.toNat * 5)).add 1)=some (.int .i64 v121)/\(∃ v122,ah h_12 (d_.add 4)=some (.int .i64 v122)/\(qN v121 v122 (fun r123 h124=>∃ b125 h126,b125=h124.size/\h126=h124.push (.cells (au.cs (⟨0,0⟩:au)).toArray 116)/\(∃ h127,aN h126 (ad b125) 2/\h127=aM h126 (ad b125) 0 (au.cs (⟨0,0⟩:au))/\(BP d_ b_ j_ g_ f_ h_ r123.1 (ad b125) a_ k nx1 nx2 nx4 nx12 h127))) h_12)))) else (dR d_ b_ g_ f_ h_ j_ k nx1 nx2 nx4 h_12)
def yx (d_:Addr) (f_:Slc) (g_:Int) (h_:Int) (j_:Addr) (i10:Slc) (i23:Int) (k:KP (Slc × Int)) (nx1:KP (Slc × Int)) (nx2:KP Int) (nx4:KP (Int × Int × Int)) (h:Heap):Prop :=
  ∃ (I:KP (Slc × Int)) (μ:(Slc × Int)->Heap->Nat),I (i10,i23) h/\∀ (a_:Slc) (b_:Int) (h:Heap),I (a_,b_) h->AU d_ f_ g_ h_ j_ a_ b_ k nx1 nx2 nx4 (fun s h'=>I s h'/\μ s h' < μ (a_,b_) h) h
def Ca (g_:Addr) (b_:Slc) (h_:Slc) (a_:Int) (d_:Int) (j_:Addr) (l_:Int) (m_:Int) (f_:Int) (k:KP (Slc × Int)) (nx1:KP (Slc × Int)) (nx2:KP Int) (nx4:KP (Int × Int × Int)) (h_4:Heap):Prop :=
  if (decide (f_ < d_)) then (∃ v21,ai h_4 j_ (au.cs v21)/\(∃ a22,b_.a=some a22/\(0:Int)<=f_/\f_ < (b_.len:Int)/\(∃ v23,ah h_4 ((a22.add (f_.toNat * 5)).add 2)=some (.int .i64 v23)/\(mD v23 (fun r24 h25=>ai h25 j_ (au.cs v21)/\(yJ v21 r24 (fun r27 h28=>∃ h29,aN h28 j_ 2/\h29=aM h28 j_ 0 (au.cs r27.1)/\(∃ a30,b_.a=some a30/\(0:Int)<=f_/\f_ < (b_.len:Int)/\(∃ v31,ah h29 ((a30.add (f_.toNat * 5)).add 2)=some (.int .i64 v31)/\(∃ x32,x32=(if v31 < l_ then v31 else l_)/\(∃ a33,b_.a=some a33/\(0:Int)<=f_/\f_ < (b_.len:Int)/\(∃ v34,ah h29 ((a33.add (f_.toNat * 5)).add 2)=some (.int .i64 v34)/\(∃ x35,x35=(if v34 > m_ then v34 else m_)/\(∃ x36,x36=(IntKind.i64.wrap (f_ + 1))/\(nx4 (x32,x35,x36) h29))))))))) h25)) h_4)))) else (∃ a37,b_.a=some a37/\(0:Int)<=a_/\a_ < (b_.len:Int)/\(∃ v38,ah h_4 (a37.add (a_.toNat * 5))=some (.string v38)/\(∃ b39 h40,b39=h_4.size/\h40=h_4.push (.cells (aH.cs (⟨ByteArray.empty,0,(⟨0,0⟩:au)⟩:aH)).toArray 118)/\(∃ h41,aN h40 (ad b39) 4/\h41=aM h40 (ad b39) 0 (aH.cs (⟨v38,0,(⟨0,0⟩:au)⟩:aH))/\(∃ v50,ah h41 (g_.add 3)=some (.int .i64 v50)/\(if (v50 == 0) then (zP g_ b_ a_ d_ (ad b39) h_ a_ k nx1 nx2 nx4 h41) else (if (v50 == 1) then (mD (IntKind.i64.wrap (d_ - a_)) (fun r66 h67=>∃ h68,aN h67 ((ad b39).add 2) 2/\h68=aM h67 ((ad b39).add 2) 0 (au.cs r66)/\(dR g_ b_ a_ d_ (ad b39) h_ k nx1 nx2 nx4 h68)) h41) else (if (v50 == 2) then (∃ v69,ai h41 j_ (au.cs v69)/\(∃ h70,aN h41 ((ad b39).add 2) 2/\h70=aM h41 ((ad b39).add 2) 0 (au.cs v69)/\(dR g_ b_ a_ d_ (ad b39) h_ k nx1 nx2 nx4 h70))) else (if (v50 == 3) then (mD l_ (fun r71 h72=>∃ h73,aN h72 ((ad b39).add 2) 2/\h73=aM h72 ((ad b39).add 2) 0 (au.cs r71)/\(dR g_ b_ a_ d_ (ad b39) h_ k nx1 nx2 nx4 h73)) h41) else (if (v50 == 4) then (mD m_ (fun r74 h75=>∃ h76,aN h75 ((ad b39).add 2) 2/\h76=aM h75 ((ad b39).add 2) 0 (au.cs r74)/\(dR g_ b_ a_ d_ (ad b39) h_ k nx1 nx2 nx4 h76)) h41) else (if (v50 == 5) then (∃ a94,b_.a=some a94/\(0:Int)<=a_/\a_ < (b_.len:Int)/\(∃ v95,ai h41 (a94.add (a_.toNat * 5)) (ae.cs v95)/\(∃ a96,b_.a=some a96/\(0:Int)<=(IntKind.i64.wrap (d_ - 1))/\(IntKind.i64.wrap (d_ - 1)) < (b_.len:Int)/\(∃ v97,ai h41 (a96.add ((IntKind.i64.wrap (d_ - 1)).toNat * 5)) (ae.cs v97)/\((∃ b98 h99,b98=h41.size/\h99=h41.push (.cells (ae.cs (⟨ByteArray.empty,0,0,(⟨0,0⟩:aG)⟩:ae)).toArray 89)/\(ai h99 (a96.add ((IntKind.i64.wrap (d_ - 1)).toNat * 5)) (ae.cs v97)/\ai h99 (a94.add (a_.toNat * 5)) (ae.cs v95)/\(∃ b102 h103,b102=h99.size/\h103=h99.push (.cells (ae.cs (⟨ByteArray.empty,0,0,(⟨0,0⟩:aG)⟩:ae)).toArray 89)/\(ai h103 (a96.add ((IntKind.i64.wrap (d_ - 1)).toNat * 5)) (ae.cs v97)/\ai h103 (a94.add (a_.toNat * 5)) (ae.cs v95)/\(∃ h106,aN h103 (ad b98) 5/\h106=aM h103 (ad b98) 0 (ae.cs v95)/\(ai h106 (a96.add ((IntKind.i64.wrap (d_ - 1)).toNat * 5)) (ae.cs v97)/\(∃ h108,aN h106 (ad b102) 5/\h108=aM h106 (ad b102) 0 (ae.cs v97)/\(oq g_ b_ h_ a_ d_ (ad b39) (ad b98) (ad b102) k nx1 nx2 nx4 h108))))))))/\(∃ b109 h110,b109=h41.size/\h110=h41.push (.cells (ae.cs (⟨ByteArray.empty,0,0,(⟨0,0⟩:aG)⟩:ae)).toArray 89)/\(ai h110 (a96.add ((IntKind.i64.wrap (d_ - 1)).toNat * 5)) (ae.cs v97)/\ai h110 (a94.add (a_.toNat * 5)) (ae.cs v95)/\(∃ b113 h114,b113=h110.size/\h114=h110.push (.cells (ae.cs (⟨ByteArray.empty,0,0,(⟨0,0⟩:aG)⟩:ae)).toArray 89)/\(ai h114 (a96.add ((IntKind.i64.wrap (d_ - 1)).toNat * 5)) (ae.cs v97)/\ai h114 (a94.add (a_.toNat * 5)) (ae.cs v95)/\(∃ h117,aN h114 (ad b113) 5/\h117=aM h114 (ad b113) 0 (ae.cs v95)/\(ai h117 (a96.add ((IntKind.i64.wrap (d_ - 1)).toNat * 5)) (ae.cs v97)/\(∃ h119,aN h117 (ad b109) 5/\h119=aM h117 (ad b109) 0 (ae.cs v97)/\(oq g_ b_ h_ a_ d_ (ad b39) (ad b113) (ad b109) k nx1 nx2 nx4 h119))))))))))))) else (if (v50 == 6) then (yx g_ b_ a_ d_ (ad b39) h_ a_ k nx1 nx2 nx4 h41) else (dR g_ b_ a_ d_ (ad b39) h_ k nx1 nx2 nx4 h41)))))))))))))
def Cv (f_:Addr) (g_:Slc) (h_:Slc) (j_:Int) (l_:Int) (m_:Addr) (i14:Int) (i15:Int) (i16:Int) (k:KP (Slc × Int)) (nx1:KP (Slc × Int)) (nx2:KP Int) (h:Heap):Prop :=
  ∃ (I:KP (Int × Int × Int)) (μ:(Int × Int × Int)->Heap->Nat),I (i14,i15,i16) h/\∀ (a_:Int) (b_:Int) (d_:Int) (h:Heap),I (a_,b_,d_) h->Ca f_ g_ h_ j_ l_ m_ a_ b_ d_ k nx1 nx2 (fun s h'=>I s h'/\μ s h' < μ (a_,b_,d_) h) h
def nP (f_:Addr) (b_:Slc) (g_:Slc) (a_:Int) (d_:Int) (h_:Bool) (k:KP (Slc × Int)) (nx1:KP (Slc × Int)) (nx2:KP Int) (h_3:Heap):Prop :=
  if h_ then (∃ x9,x9=(IntKind.i64.wrap (d_ + 1))/\(nx2 x9 h_3)) else (∃ a10,b_.a=some a10/\(0:Int)<=a_/\a_ < (b_.len:Int)/\(∃ v11,ah h_3 ((a10.add (a_.toNat * 5)).add 2)=some (.int .i64 v11)/\(∃ a12,b_.a=some a12/\(0:Int)<=a_/\a_ < (b_.len:Int)/\(∃ v13,ah h_3 ((a12.add (a_.toNat * 5)).add 2)=some (.int .i64 v13)/\(∃ b14 h15,b14=h_3.size/\h15=h_3.push (.cells (au.cs (⟨0,0⟩:au)).toArray 116)/\(ah h15 ((a12.add (a_.toNat * 5)).add 2)=some (.int .i64 v13)/\ah h15 ((a10.add (a_.toNat * 5)).add 2)=some (.int .i64 v11)/\(∃ h18,aN h15 (ad b14) 2/\h18=aM h15 (ad b14) 0 (au.cs (⟨0,0⟩:au))/\(ah h18 ((a12.add (a_.toNat * 5)).add 2)=some (.int .i64 v13)/\ah h18 ((a10.add (a_.toNat * 5)).add 2)=some (.int .i64 v11)/\(Cv f_ b_ g_ a_ d_ (ad b14) v11 v13 a_ k nx1 nx2 h18)))))))))
def BV (f_:Addr) (a_:Slc) (g_:Slc) (d_:Int) (b_:Int) (k:KP (Slc × Int)) (nx1:KP (Slc × Int)) (nx2:KP Int) (h_2:Heap):Prop :=
  if (decide (b_ < (a_.len:Int))) then (∃ a151,a_.a=some a151/\(0:Int)<=b_/\b_ < (a_.len:Int)/\(∃ v152,ah h_2 (a151.add (b_.toNat * 5))=some (.string v152)/\(∃ a153,a_.a=some a153/\(0:Int)<=d_/\d_ < (a_.len:Int)/\(∃ v154,ah h_2 (a153.add (d_.toNat * 5))=some (.string v154)/\(nP f_ a_ g_ d_ b_ (v152.toList == v154.toList) k nx1 nx2 h_2))))) else (nP f_ a_ g_ d_ b_ false k nx1 nx2 h_2)
def Cz (b_:Addr) (d_:Slc) (f_:Slc) (g_:Int) (i12:Int) (k:KP (Slc × Int)) (nx1:KP (Slc × Int)) (h:Heap):Prop :=
  ∃ (I:KP Int) (μ:Int->Heap->Nat),I i12 h/\∀ (a_:Int) (h:Heap),I a_ h->BV b_ d_ f_ g_ a_ k nx1 (fun s h'=>I s h'/\μ s h' < μ a_ h) h
def Cf (f_:Addr) (b_:Slc) (d_:Slc) (a_:Int) (k:KP (Slc × Int)) (nx1:KP (Slc × Int)) (h_1:Heap):Prop :=
  if (decide (a_ < (b_.len:Int))) then (Cz f_ b_ d_ a_ a_ k nx1 h_1) else (k (d_,0) h_1)
def CZ (d_:Addr) (f_:Slc) (i10:Slc) (i11:Int) (k:KP (Slc × Int)) (h:Heap):Prop :=
  ∃ (I:KP (Slc × Int)) (μ:(Slc × Int)->Heap->Nat),I (i10,i11) h/\∀ (a_:Slc) (b_:Int) (h:Heap),I (a_,b_) h->Cf d_ f_ a_ b_ k (fun s h'=>I s h'/\μ s h' < μ (a_,b_) h) h
def BK (p0:aC) (p1:Slc) (p2:Int) (k:KP (Slc × Int)) (h:Heap):Prop :=
  ∃ b1 h2,b1=h.size/\h2=h.push (.cells (aC.cs p0).toArray 28)/\(∃ v3,ai h2 (ad b1) (aC.cs v3)/\(xC v3 (fun r4 h5=>if (r4 != 0) then (k ((⟨none,0,0⟩:Slc),r4) h5) else (∃ v6,ai h5 (ad b1) (aC.cs v6)/\(Bn v6 p1 p2 (fun r7 h8=>CZ (ad b1) r7 (⟨none,0,0⟩:Slc) 0 k h8) h5))) h2))
theorem O91:aF prog 91:=ck func91
theorem R91 (p0 k h) (H:rJ p0 k h):CallsH prog 91 #[.agg (au.cs p0).toArray] h (rS k):=by
 refine fE func91 fun w0=>?_
 refine zF [0] (zQ ?_)
 refine wX H fun b1 h2 H=>?_
 refine w1 Z (zE (zQ ?_))
 refine w1 Z ?_
 refine wL Z H fun v3 H=>?_
 refine w2 Z ?_
 refine wQ Z H fun x4 H=>?_
 refine zE (zQ (w1 Z ?_))
 refine wL Z H fun v5 H=>?_
 refine w2 Z ?_
 refine wL Z H fun v6 H=>?_
 refine w5 Z ?_
 obtain ⟨b7,h8,eb7,eh8,H⟩:=H
 refine wH (nJ Z rfl rfl rfl rfl rfl rfl rfl eb7 eh8) ?_
 refine w1 Z (zE (zF [2] (zT ?_)))
 exact aB _ rfl _ rfl ⟨(⟨some ⟨b7,0,none⟩,4,4⟩:Slc),rfl,H⟩
theorem O62:aF prog 62:=ck func62
theorem R62 (p0 p1 k h) (H:yJ p0 p1 k h):CallsH prog 62 #[.agg (au.cs p0).toArray,.agg (au.cs p1).toArray] h (fun v h'=>∃ r:au × Int,v = .tuple #[.agg (au.cs r.1).toArray,.int .i64 r.2]/\k r h'):=by
 refine fE func62 fun w0=>?_
 refine zF [0,1] (zQ ?_)
 refine wX H fun b1 h2 H=>?_
 refine wX H fun b3 h4 H=>?_
 refine wB Z H fun b5 h6 H=>?_
 refine w1 Z (zE (zS ?_))
 refine gB [2,3,4] ?_
 refine gla 0 [2] Z H fun v7 H=>?_
 refine gla 2 [3] Z H fun v8 H=>?_
 refine gCr 1 [13] O91 (R91 _ _ _ H) fun r9 h10 H=>?_
 obtain ⟨hy11,H⟩:=H
 refine gR rfl (fC Z rfl rfl rfl rfl rfl hy11) ?_
 refine gZ0 ?_
 refine gC 3 [15] O91 (R91 _ _ _ H) fun r12 h13 H=>?_
 refine gT 4 [14] Z ?_
 refine gT 5 [16] Z ?_
 refine gZ ?_
 refine zX (zQ (w1 Z (zE (zQ ?_))))
 refine w1 Z (zE (zS (zQ ?_)))
 refine w1 Z (zE (zB ?_))
 obtain ⟨I1,μ1,H0,HI⟩:=H
 refine zO (σ:=Slc × Int × Int) [4,6,7] (fun (s:Slc × Int × Int)=>[(8,Slc.v s.1),(9,.int .u64 s.2.1),(10,.int .i64 s.2.2)]) I1 μ1 ((⟨none,0,0⟩:Slc),0,0) H0 ?_
 rintro ⟨b_,a_,d_⟩ h_1 H
 replace H:=HI b_ a_ d_ h_1 H
 refine zF [8,9,10,4,6,7] (zS (zQ ?_))
 refine w2 Z (zE ?_)
 refine zI H ?_ ?_ <;> intro H
 refine zK (zX (zS (zB (zS ?_))))
 refine qZ (by kernel_rfl) (by kernel_rfl) ?_
 refine qp Z ?_
 refine qp Z ?_
 obtain ⟨a14,ha14,la14,ua14,H⟩:=H
 refine q_y (lh Z rfl rfl ha14 rfl rfl rfl la14 ua14) rfl rfl ?_
 obtain ⟨v15,hv15,H⟩:=H
 refine q_y (fq Z rfl rfl rfl rfl hv15) rfl rfl ?_
 refine qp Z ?_
 refine qp Z ?_
 obtain ⟨a16,ha16,la16,ua16,H⟩:=H
 refine q_y (lh Z rfl rfl ha16 rfl rfl rfl la16 ua16) rfl rfl ?_
 obtain ⟨v17,hv17,H⟩:=H
 refine q_y (fq Z rfl rfl rfl rfl hv17) rfl rfl ?_
 refine qp Z ?_
 refine qp Z ?_
 refine qp Z ?_
 refine qp Z ?_
 refine xK ?_
 refine zX (zF [8,10,4,6,7,11] (zQ ?_))
 refine w3 Z ?_
 obtain ⟨b18,h19,eb18,eh19,H⟩:=H
 refine wH (nJ Z rfl rfl rfl rfl rfl rfl rfl eb18 eh19) ?_
 refine wA (ji (s:=b_) (r:=(⟨some ⟨b18,0,none⟩,1,1⟩:Slc)) Z rfl rfl rfl rfl rfl (bT eb18 eh19) H) ?_
 rintro _ h21 ⟨s20,rfl,H⟩
 refine w1 Z (zE (zR ?_))
 refine w2 Z ?_
 refine wQ Z H fun x22 H=>?_
 refine zL (zX (zF [8,10,4,6,7,9] (zR ?_)))
 refine w2 Z ?_
 refine wQ Z H fun x23 H=>?_
 refine zW ?_
 exact xJ (s20,x22,x23) H
 refine zY (yE (yE (yH (zX (zQ (w1 Z ?_))))))
 refine wD Z H fun a24 _ H=>?_
 refine wL Z H fun v25 H=>?_
 refine w2 Z (zE (zF [8,9,4,12] (zS (zQ ?_))))
 refine w3 Z ?_
 refine vU 3 [4,8,9,12] [(48,.bool ((a_ == 0) && (!(decide (v25>=2147483648)))))] ?_ ?_
 refine w1 Z ?_
 refine vU 6 [4,8] [(55,.bool (((a_ == 0) && (!(decide (v25>=2147483648)))) || ((a_ == 1) && (decide (v25>=2147483648)))))] ?_ ?_
 refine zE ?_
 refine zI H ?_ ?_ <;> intro H
 refine zQ ?_
 refine wY (bU Z rfl rfl rfl rfl rfl) ?_
 refine wTa Z H fun h26 H=>?_
 refine w1 Z (zE (zT (yT ?_)))
 obtain ⟨v27,hv27,H⟩:=H
 exact fu Z _ rfl [.agg (au.cs v27).toArray,.int .i64 19] ⟨⟨_,_,rfl,rfl,.inr ⟨rfl,_,rfl,rfl,hv27⟩⟩,rfl,trivial⟩ ⟨(v27,19),rfl,H⟩
 refine zK (zX (zS ?_))
 refine gB [4,8] ?_
 refine gT 0 [8] Z ?_
 refine gd 1 [57] Z H fun a28 H=>?_
 refine gl 2 [58] Z H fun v29 H=>?_
 refine gT 3 [59] Z ?_
 refine gT 4 [8] Z ?_
 refine gd 5 [61] Z H fun a30 H=>?_
 refine gl 6 [62] Z H fun v31 H=>?_
 refine gT 7 [60,63] Z ?_
 refine gT 8 [64] Z ?_
 refine gT 9 [8] Z ?_
 refine gd 10 [66] Z H fun a32 H=>?_
 refine gl 11 [67] Z H fun v33 H=>?_
 refine gT 12 [68] Z ?_
 refine gT 13 [8] Z ?_
 refine gd 14 [70] Z H fun a34 H=>?_
 refine gl 15 [71] Z H fun v35 H=>?_
 refine gT 16 [69,72] Z ?_
 refine gY 17 [65,73] rfl (fun _=>bU Z rfl rfl rfl rfl rfl) ?_
 obtain ⟨h36,wh36,eh36,H⟩:=H
 refine gH 18 [4,74] rfl (si Z rfl rfl rfl rfl rfl (yV (by kernel_rfl)) wh36 eh36) ?_
 refine gT 19 [] Z ?_
 refine gZ ?_
 refine zX (zF [4,5] (zT ?_))
 obtain ⟨v37,hv37,H⟩:=H
 exact fu Z _ rfl [.agg (au.cs v37).toArray,.int .i64 0] ⟨⟨_,_,rfl,rfl,.inr ⟨rfl,_,rfl,rfl,hv37⟩⟩,rfl,trivial⟩ ⟨(v37,0),rfl,H⟩
 refine vG (d:=49) (fun hb=>?_) (fun hb=>?_)
 refine wS (wS (wS (wS (wS (w1 Z ?_)))))
 refine vK ?_
 exact congrArg (fun b=>some (Value.bool b)) (BN hb)
 refine w3 Z ?_
 refine vU 2 [4,8,49] [(54,.bool ((a_ == 1) && (decide (v25>=2147483648))))] ?_ ?_
 refine w1 Z ?_
 refine vK ?_
 exact congrArg (fun b=>some (Value.bool b)) (BO hb)
 refine vG (d:=52) (fun hb=>?_) (fun hb=>?_)
 refine w2 Z ?_
 refine vK ?_
 exact congrArg (fun b=>some (Value.bool b)) (jD hb)
 refine wS (w1 Z ?_)
 refine vK ?_
 exact congrArg (fun b=>some (Value.bool b)) (jH hb)
 refine vG (d:=45) (fun hb=>?_) (fun hb=>?_)
 refine w3 Z ?_
 refine vK ?_
 exact congrArg (fun b=>some (Value.bool b)) (jD hb)
 refine wS (wS (w1 Z ?_))
 refine vK ?_
 exact congrArg (fun b=>some (Value.bool b)) (jH hb)
theorem O65:aF prog 65:=ck func65
theorem R65 (p0 p1 k h) (H:qN p0 p1 k h):CallsH prog 65 #[.int .i64 p0,.int .i64 p1] h (fun v h'=>∃ r:Int × Int,v = .tuple #[.int .i64 r.1,.int .i64 r.2]/\k r h'):=by
 refine fE func65 fun w0=>?_
 refine zF [0,1] (zQ ?_)
 refine w2 Z (zE (zS (zQ ?_)))
 refine w2 Z (zE ?_)
 refine zI H ?_ ?_ <;> intro H
 refine zQ (w2 Z (zE (zT (yT ?_))))
 exact aB _ rfl _ rfl ⟨(0,1),rfl,H⟩
 refine zK (zX (zS (zQ (w2 Z (zE ?_)))))
 refine zI H ?_ ?_ <;> intro H
 refine zS (zQ (w2 Z (zE (zF [0,12] ?_))))
 refine zI H ?_ ?_ <;> intro H
 refine zQ (w2 Z (zE (zT (yT (yT ?_)))))
 exact aB _ rfl _ rfl ⟨(0,19),rfl,H⟩
 refine zK (zX (zQ (w2 Z ?_)))
 refine wQ Z H fun x1 H=>?_
 refine w1 Z (zE (zT (yT ?_)))
 exact aB _ rfl _ rfl ⟨(x1,0),rfl,H⟩
 refine zK (zX (zQ (w2 Z ?_)))
 obtain ⟨z2,H⟩:=H
 refine wY (Og rfl rfl rfl z2) ?_
 refine wQ Z H fun x3 H=>?_
 refine zE (zF [0,1,6] ?_)
 refine zJ (α:=Int) [] (fun (s:Int)=>[(6,.int .i64 s)]) (fun (s:Int) h=>rE s k h) ?_ ?_
 rintro a_ h_1 H
 refine zF [6] (zQ ?_)
 refine w3 Z (zE (zT ?_))
 exact aB _ rfl _ rfl ⟨(a_,0),rfl,H⟩
 refine zQ (w6 Z ?_)
 refine vU 6 [6] [(29,.bool (((IntKind.i64.wrap (x3 * p1)) != p0) && (!((decide (p0 < 0)) == (decide (p1 < 0))))))] ?_ ?_
 refine zE ?_
 refine zI H ?_ ?_ <;> intro H
 refine zR (w2 Z ?_)
 refine wQ Z H fun x4 H=>?_
 refine zW ?_
 exact xJ x4 H
 refine zK ?_
 exact xJ x3 H
 refine vG (d:=23) (fun hb=>?_) (fun hb=>?_)
 refine w6 Z ?_
 refine vK ?_
 exact congrArg (fun b=>some (Value.bool b)) (jD hb)
 refine wS (wS (wS (wS (wS (w1 Z ?_)))))
 refine vK ?_
 exact congrArg (fun b=>some (Value.bool b)) (jH hb)
theorem O63:aF prog 63:=ck func63
theorem R63 (p0 k h) (H:mD p0 k h):CallsH prog 63 #[.int .i64 p0] h (fun v h'=>∃ r:au,v = .agg (au.cs r).toArray/\k r h'):=by
 refine fE func63 fun w0=>?_
 refine zF [0] (zQ ?_)
 refine wB Z H fun b1 h2 H=>?_
 refine zE (zS (zQ (w2 Z (zE ?_))))
 refine zI H ?_ ?_ <;> intro H
 refine zQ (w2 Z ?_)
 refine wY (bU Z rfl rfl rfl rfl rfl) ?_
 refine wTa Z H fun h3 H=>?_
 refine zE (zT (yT ?_))
 obtain ⟨v4,hv4,H⟩:=H
 exact fu Z _ rfl [.agg (au.cs v4).toArray] ⟨⟨_,_,rfl,rfl,.inr ⟨rfl,_,rfl,rfl,hv4⟩⟩,trivial⟩ ⟨v4,rfl,H⟩
 refine zK (zX (zQ (w2 Z ?_)))
 refine wY (bU Z rfl rfl rfl rfl rfl) ?_
 refine wTa Z H fun h5 H=>?_
 refine zE (zT ?_)
 obtain ⟨v6,hv6,H⟩:=H
 exact fu Z _ rfl [.agg (au.cs v6).toArray] ⟨⟨_,_,rfl,rfl,.inr ⟨rfl,_,rfl,rfl,hv6⟩⟩,trivial⟩ ⟨v6,rfl,H⟩
theorem O64:aF prog 64:=ck func64
theorem R64 (p0 p1 k h) (H:uj p0 p1 k h):CallsH prog 64 #[.int .i64 p0,.int .i64 p1] h (rB k):=by
 refine fE func64 fun w0=>?_
 refine zF [0,1] (zQ ?_)
 refine w1 Z (zE (zQ ?_))
 refine w3 Z ?_
 refine wQ Z H fun x1 H=>?_
 refine zE (zQ (w6 Z ?_))
 refine w1 Z (zE (zF [4] (zT ?_)))
 exact aB _ rfl _ rfl ⟨(((decide (p1 < 0)) == (decide (x1 > p0)))),rfl,H⟩
theorem Ox:aF prog 144:=ck func144
theorem Oz (p0 k h) (H:pM p0 k h):CallsH prog 144 #[.int .u8 p0] h (rB k):=by
 refine fE func144 fun w0=>?_
 refine zF [0] (zQ ?_)
 refine w1 Z (zE (zQ ?_))
 refine w3 Z ?_
 refine vU 3 [0] [(8,.bool ((decide (p0>=97)) && (decide (p0<=122))))] ?_ ?_
 refine w1 Z ?_
 refine vU 7 [0] [(16,.bool (((decide (p0>=97)) && (decide (p0<=122))) || ((decide (p0>=65)) && (decide (p0<=90)))))] ?_ ?_
 refine w1 Z ?_
 refine vU 7 [0] [(24,.bool ((((decide (p0>=97)) && (decide (p0<=122))) || ((decide (p0>=65)) && (decide (p0<=90)))) || ((decide (p0>=48)) && (decide (p0<=57)))))] ?_ ?_
 refine w1 Z ?_
 refine vU 3 [0] [(28,.bool (((((decide (p0>=97)) && (decide (p0<=122))) || ((decide (p0>=65)) && (decide (p0<=90)))) || ((decide (p0>=48)) && (decide (p0<=57)))) || (p0 == 95)))] ?_ ?_
 refine w1 Z ?_
 refine vU 3 [0] [(32,.bool ((((((decide (p0>=97)) && (decide (p0<=122))) || ((decide (p0>=65)) && (decide (p0<=90)))) || ((decide (p0>=48)) && (decide (p0<=57)))) || (p0 == 95)) || (p0 == 45)))] ?_ ?_
 refine w1 Z ?_
 refine vU 3 [0] [(36,.bool (((((((decide (p0>=97)) && (decide (p0<=122))) || ((decide (p0>=65)) && (decide (p0<=90)))) || ((decide (p0>=48)) && (decide (p0<=57)))) || (p0 == 95)) || (p0 == 45)) || (p0 == 46)))] ?_ ?_
 refine w1 Z ?_
 refine vU 3 [] [(40,.bool ((((((((decide (p0>=97)) && (decide (p0<=122))) || ((decide (p0>=65)) && (decide (p0<=90)))) || ((decide (p0>=48)) && (decide (p0<=57)))) || (p0 == 95)) || (p0 == 45)) || (p0 == 46)) || (p0 == 47)))] ?_ ?_
 refine w1 Z (zE (zT ?_))
 exact aB _ rfl _ rfl ⟨((((((((decide (p0>=97)) && (decide (p0<=122))) || ((decide (p0>=65)) && (decide (p0<=90)))) || ((decide (p0>=48)) && (decide (p0<=57)))) || (p0 == 95)) || (p0 == 45)) || (p0 == 46)) || (p0 == 47)),rfl,H⟩
 refine vG (d:=37) (fun hb=>?_) (fun hb=>?_)
 refine wS (wS (w1 Z ?_))
 refine vK ?_
 exact congrArg (fun b=>some (Value.bool b)) (BN hb)
 refine w3 Z ?_
 refine vK ?_
 exact congrArg (fun b=>some (Value.bool b)) (BO hb)
 refine vG (d:=33) (fun hb=>?_) (fun hb=>?_)
 refine wS (wS (w1 Z ?_))
 refine vK ?_
 exact congrArg (fun b=>some (Value.bool b)) (BN hb)
 refine w3 Z ?_
 refine vK ?_
 exact congrArg (fun b=>some (Value.bool b)) (BO hb)
 refine vG (d:=29) (fun hb=>?_) (fun hb=>?_)
 refine wS (wS (w1 Z ?_))
 refine vK ?_
 exact congrArg (fun b=>some (Value.bool b)) (BN hb)
 refine w3 Z ?_
 refine vK ?_
 exact congrArg (fun b=>some (Value.bool b)) (BO hb)
 refine vG (d:=25) (fun hb=>?_) (fun hb=>?_)
 refine wS (wS (w1 Z ?_))
 refine vK ?_
 exact congrArg (fun b=>some (Value.bool b)) (BN hb)
 refine w3 Z ?_
 refine vK ?_
 exact congrArg (fun b=>some (Value.bool b)) (BO hb)
 refine vG (d:=17) (fun hb=>?_) (fun hb=>?_)
 refine wS (wS (wS (wS (wS (wS (w1 Z ?_))))))
 refine vK ?_
 exact congrArg (fun b=>some (Value.bool b)) (BN hb)
 refine w3 Z ?_
 refine vU 3 [0,17] [(23,.bool ((decide (p0>=48)) && (decide (p0<=57))))] ?_ ?_
 refine w1 Z ?_
 refine vK ?_
 exact congrArg (fun b=>some (Value.bool b)) (BO hb)
 refine vG (d:=20) (fun hb=>?_) (fun hb=>?_)
 refine w3 Z ?_
 refine vK ?_
 exact congrArg (fun b=>some (Value.bool b)) (jD hb)
 refine wS (wS (w1 Z ?_))
 refine vK ?_
 exact congrArg (fun b=>some (Value.bool b)) (jH hb)
 refine vG (d:=9) (fun hb=>?_) (fun hb=>?_)
 refine wS (wS (wS (wS (wS (wS (w1 Z ?_))))))
 refine vK ?_
 exact congrArg (fun b=>some (Value.bool b)) (BN hb)
 refine w3 Z ?_
 refine vU 3 [0,9] [(15,.bool ((decide (p0>=65)) && (decide (p0<=90))))] ?_ ?_
 refine w1 Z ?_
 refine vK ?_
 exact congrArg (fun b=>some (Value.bool b)) (BO hb)
 refine vG (d:=12) (fun hb=>?_) (fun hb=>?_)
 refine w3 Z ?_
 refine vK ?_
 exact congrArg (fun b=>some (Value.bool b)) (jD hb)
 refine wS (wS (w1 Z ?_))
 refine vK ?_
 exact congrArg (fun b=>some (Value.bool b)) (jH hb)
 refine vG (d:=5) (fun hb=>?_) (fun hb=>?_)
 refine w3 Z ?_
 refine vK ?_
 exact congrArg (fun b=>some (Value.bool b)) (jD hb)
 refine wS (wS (w1 Z ?_))
 refine vK ?_
 exact congrArg (fun b=>some (Value.bool b)) (jH hb)
theorem J2:aF prog 112:=ck func112
theorem Kt (p0 k h) (H:nW p0 k h):CallsH prog 112 #[.string p0] h (rB k):=by
 refine fE func112 fun w0=>?_
 refine zF [0] (zQ ?_)
 refine w1 Z (zE (zS (zQ ?_)))
 refine w4 Z ?_
 refine vU 4 [0] [(11,.bool ((decide ((p0.size:Int) < 1)) || (decide ((p0.size:Int) > 24))))] ?_ ?_
 refine zE ?_
 refine zI H ?_ ?_ <;> intro H
 refine zQ (w1 Z (zE (zT (yT ?_))))
 exact aB _ rfl _ rfl ⟨false,rfl,H⟩
 refine zK (zX (zS (zQ (w1 Z (zE (zB ?_))))))
 obtain ⟨I1,μ1,H0,HI⟩:=H
 refine zO (σ:=Int) [0] (fun (s:Int)=>[(3,.int .i64 s)]) I1 μ1 0 H0 ?_
 rintro a_ h_1 H
 replace H:=HI a_ h_1 H
 refine zF [3,0] (zS (zQ ?_))
 refine w4 Z (zE ?_)
 refine zI H ?_ ?_ <;> intro H
 refine zK (zX (zS (zB (zQ (w2 Z ?_)))))
 obtain ⟨v1,lv1,hv1,H⟩:=H
 refine wY (uF Z rfl rfl rfl rfl lv1 hv1) ?_
 refine wC Ox (Oz _ _ _ H) fun r2 h3 H=>?_
 refine w1 Z (zE (zF [3,0,22] ?_))
 refine zI H ?_ ?_ <;> intro H
 refine zQ (w1 Z (zE (zT (yB (yT (yT (yB (yT ?_))))))))
 exact aB _ rfl _ rfl ⟨false,rfl,H⟩
 refine zK (yL (zX (zR (w2 Z ?_))))
 refine wQ Z H fun x4 H=>?_
 refine zW ?_
 exact xJ x4 H
 refine zY (yE (yE (yH (zX (zQ (w1 Z (zE (zT ?_))))))))
 exact aB _ rfl _ rfl ⟨true,rfl,H⟩
 refine vG (d:=7) (fun hb=>?_) (fun hb=>?_)
 refine wS (wS (wS (w1 Z ?_)))
 refine vK ?_
 exact congrArg (fun b=>some (Value.bool b)) (BN hb)
 refine w4 Z ?_
 refine vK ?_
 exact congrArg (fun b=>some (Value.bool b)) (BO hb)
theorem Sk:aF prog 111:=ck func111
theorem SS (p0 k h) (H:xB p0 k h):CallsH prog 111 #[.string p0] h (fun v h'=>∃ r:Slc × Slc,v = .tuple #[Slc.v r.1,Slc.v r.2]/\k r h'):=by
 refine fE func111 fun w0=>?_
 refine zF [0] (zQ ?_)
 refine w2 Z (zE (zQ ?_))
 refine w2 Z (zE (zQ ?_))
 refine w1 Z (zE (zS (zB ?_)))
 obtain ⟨I1,μ1,H0,HI⟩:=H
 refine zO (σ:=Slc × Slc × Int) [0] (fun (s:Slc × Slc × Int)=>[(4,Slc.v s.1),(5,Slc.v s.2.1),(6,.int .i64 s.2.2)]) I1 μ1 ((⟨none,0,0⟩:Slc),(⟨none,0,0⟩:Slc),0) H0 ?_
 rintro ⟨d_,b_,f_⟩ h_1 H
 replace H:=HI d_ b_ f_ h_1 H
 refine zF [4,5,6,0] (zS (zQ ?_))
 refine w4 Z (zE ?_)
 refine zI H ?_ ?_ <;> intro H
 refine zK (zX (zB (zQ (w2 Z (zE (zS (zB ?_)))))))
 obtain ⟨I2,μ2,H0,HI⟩:=H
 refine zO (σ:=Int) [0,4,5,6] (fun (s:Int)=>[(7,.int .i64 s)]) I2 μ2 f_ H0 ?_
 rintro a_ h_2 H
 replace H:=HI a_ h_2 H
 refine zF [7,0,4,5,6] (zS (zQ ?_))
 refine w5 Z ?_
 refine vJ 5 (α:=Bool) [0,4,5,6,7] (fun (s:Bool)=>[(22,.bool s)]) (fun (s:Bool) h=>mW p0 d_ b_ f_ a_ s k (fun s h'=>I1 s h'/\μ1 s h' < μ1 (d_,b_,f_) h_1) (fun s h'=>I2 s h'/\μ2 s h' < μ2 a_ h_2) h) ?_ ?_
 rintro h_ h_3 H
 refine vF [22,0,4,5,6,7] (zE ?_)
 refine zI H ?_ ?_ <;> intro H
 refine zK (zX (zB (zR (w2 Z ?_))))
 refine wQ Z H fun x1 H=>?_
 refine zL ?_
 exact xJ x1 H
 refine zY (yE (yE (yH (zX (zQ (w4 Z ?_))))))
 obtain ⟨s2,ps2,qs2,rs2,es2,H⟩:=H
 refine wYe (xh (s:=p0) (L:=f_) (H:=a_) Z rfl rfl rfl rfl rfl ps2 qs2 rs2) (congrArg Value.string es2) ?_
 obtain ⟨b3,h4,eb3,eh4,H⟩:=H
 refine wH (nJ Z rfl rfl rfl rfl rfl rfl rfl eb3 eh4) ?_
 refine wA (ji (s:=d_) (r:=(⟨some ⟨b3,0,none⟩,1,1⟩:Slc)) Z rfl rfl rfl rfl rfl (bT eb3 eh4) H) ?_
 rintro _ h6 ⟨s5,rfl,H⟩
 refine w1 Z (zE (zF [0,4,5,7] (zQ ?_)))
 refine w2 Z (zE (zS (zB ?_)))
 obtain ⟨I4,μ4,H0,HI⟩:=H
 refine zO (σ:=Int) [0,4,5,6] (fun (s:Int)=>[(7,.int .i64 s)]) I4 μ4 a_ H0 ?_
 rintro g_ h_4 H
 replace H:=HI g_ h_4 H
 refine zF [7,0,4,5,6] (zS (zQ ?_))
 refine w5 Z ?_
 refine vJ 6 (α:=Bool) [0,4,5,6,7] (fun (s:Bool)=>[(43,.bool s)]) (fun (s:Bool) h=>kz p0 s5 b_ a_ g_ s k (fun s h'=>I1 s h'/\μ1 s h' < μ1 (d_,b_,f_) h_1) (fun s h'=>I2 s h'/\μ2 s h' < μ2 a_ h_2) (fun s h'=>I4 s h'/\μ4 s h' < μ4 g_ h_4) h) ?_ ?_
 rintro j_ h_5 H
 refine vF [43,0,4,5,6,7] (zE ?_)
 refine zI H ?_ ?_ <;> intro H
 refine zK (zX (zB (zR (w2 Z ?_))))
 refine wQ Z H fun x7 H=>?_
 refine zL ?_
 exact xJ x7 H
 refine zY (yE (yE (yH (zX (zQ (w4 Z ?_))))))
 obtain ⟨s8,ps8,qs8,rs8,es8,H⟩:=H
 refine wYe (xh (s:=p0) (L:=a_) (H:=g_) Z rfl rfl rfl rfl rfl ps8 qs8 rs8) (congrArg Value.string es8) ?_
 obtain ⟨b9,h10,eb9,eh10,H⟩:=H
 refine wH (nJ Z rfl rfl rfl rfl rfl rfl rfl eb9 eh10) ?_
 refine wA (ji (s:=b_) (r:=(⟨some ⟨b9,0,none⟩,1,1⟩:Slc)) Z rfl rfl rfl rfl rfl (bT eb9 eh10) H) ?_
 rintro _ h12 ⟨s11,rfl,H⟩
 refine w1 Z (zE (zF [0,4,5,7] (zR ?_)))
 refine w2 Z (zL ?_)
 exact xJ (s5,s11,g_) H
 refine vI 37 H ?_ ?_ <;> intro H
 refine w2 Z ?_
 obtain ⟨v13,lv13,hv13,H⟩:=H
 refine wY (uF Z rfl rfl rfl rfl lv13 hv13) ?_
 refine wC Ox (Oz _ _ _ H) fun r14 h15 H=>?_
 refine w2 Z ?_
 exact wJ (!r14) H
 refine wS (wS (wS (wS (wS (w1 Z ?_)))))
 exact wJ false H
 refine vI 17 H ?_ ?_ <;> intro H
 refine w2 Z ?_
 obtain ⟨v16,lv16,hv16,H⟩:=H
 refine wY (uF Z rfl rfl rfl rfl lv16 hv16) ?_
 refine wC Ox (Oz _ _ _ H) fun r17 h18 H=>?_
 refine w1 Z ?_
 exact wJ r17 H
 refine wS (wS (wS (wS (w1 Z ?_))))
 exact wJ false H
 refine zY (yE (yE (yH (zX (zQ (w4 Z (zE (zF [2,3] (zT ?_)))))))))
 exact aB _ rfl _ rfl ⟨(d_,b_),rfl,H⟩
theorem O88:aF prog 88:=ck func88
theorem R88 (p0 k h) (H:iT p0 k h):CallsH prog 88 #[.string p0] h (fun v h'=>∃ r:af × Bool,v = .tuple #[.agg (af.cs r.1).toArray,.bool r.2]/\k r h'):=by
 refine fE func88 fun w0=>?_
 refine zF [0] (zQ ?_)
 refine wB Z H fun b1 h2 H=>?_
 refine w1 Z (zE (zQ ?_))
 refine wY (bU Z rfl rfl rfl rfl rfl) ?_
 refine wB Z H fun b3 h4 H=>?_
 refine wTa Z H fun h5 H=>?_
 refine zE (zQ (w1 Z ?_))
 refine wC Sk (SS _ _ _ H) fun r6 h7 H=>?_
 refine w5 Z (zE (zF [0,2,4,5,6] (zS (zQ ?_))))
 refine w3 Z (zE ?_)
 refine zI H ?_ ?_ <;> intro H
 refine zQ ?_
 refine wLa Z H fun v8 H=>?_
 refine w2 Z ?_
 refine wTa Z H fun h9 H=>?_
 refine w1 Z (zE (zF [2,3] (zT (yT ?_))))
 obtain ⟨v10,hv10,H⟩:=H
 exact fu Z _ rfl [.agg (af.cs v10).toArray,.bool (p0.toList == (⟨#[]⟩:ByteArray).toList)] ⟨⟨_,_,rfl,rfl,.inr ⟨rfl,_,rfl,rfl,hv10⟩⟩,rfl,trivial⟩ ⟨(v10,(p0.toList == (⟨#[]⟩:ByteArray).toList)),rfl,H⟩
 refine zK (zX (zQ (w1 Z ?_)))
 refine wD Z H fun a11 _ H=>?_
 refine wL Z H fun v12 H=>?_
 refine wY (bU Z rfl rfl rfl rfl rfl) ?_
 refine wB Z H fun b13 h14 H=>?_
 refine wTa Z H fun h15 H=>?_
 refine zE (zF [2,4,5,6,7] (zS (zQ ?_)))
 refine w1 Z ?_
 refine wD Z H fun a16 _ H=>?_
 refine wL Z H fun v17 H=>?_
 refine w2 Z ?_
 refine vJ 6 (α:=Bool) [2,4,5,6,7] (fun (s:Bool)=>[(38,.bool s)]) (fun (s:Bool) h=>lN (ad b1) (ad b3) r6.1 r6.2 (ad b13) s k h) ?_ ?_
 rintro h_ h_1 H
 refine vF [38,2,4,5,6,7] (zE ?_)
 refine zI H ?_ ?_ <;> intro H
 refine zQ ?_
 refine wLa Z H fun v18 H=>?_
 refine wTa Z H fun h19 H=>?_
 refine w1 Z (zE (zT (yT ?_)))
 obtain ⟨v20,hv20,H⟩:=H
 exact fu Z _ rfl [.agg (af.cs v20).toArray,.bool false] ⟨⟨_,_,rfl,rfl,.inr ⟨rfl,_,rfl,rfl,hv20⟩⟩,rfl,trivial⟩ ⟨(v20,false),rfl,H⟩
 refine zK (zX (zS (zQ (w4 Z ?_))))
 refine vJ 5 (α:=Bool) [2,4,5,6,7] (fun (s:Bool)=>[(48,.bool s)]) (fun (s:Bool) h=>lX (ad b1) (ad b3) r6.1 r6.2 (ad b13) s k h) ?_ ?_
 rintro j_ h_2 H
 refine vF [48,2,4,5,6,7] (zE ?_)
 refine zI H ?_ ?_ <;> intro H
 refine zQ ?_
 refine wLa Z H fun v21 H=>?_
 refine wTa Z H fun h22 H=>?_
 refine w1 Z (zE (zT (yT ?_)))
 obtain ⟨v23,hv23,H⟩:=H
 exact fu Z _ rfl [.agg (af.cs v23).toArray,.bool false] ⟨⟨_,_,rfl,rfl,.inr ⟨rfl,_,rfl,rfl,hv23⟩⟩,rfl,trivial⟩ ⟨(v23,false),rfl,H⟩
 refine zK (zX (zS (zQ (w3 Z (zE ?_)))))
 refine zI H ?_ ?_ <;> intro H
 refine zQ ?_
 refine wLa Z H fun v24 H=>?_
 refine wTa Z H fun h25 H=>?_
 refine w1 Z (zE (zF [2,3] (zT (yT ?_))))
 obtain ⟨v26,hv26,H⟩:=H
 exact fu Z _ rfl [.agg (af.cs v26).toArray,.bool true] ⟨⟨_,_,rfl,rfl,.inr ⟨rfl,_,rfl,rfl,hv26⟩⟩,rfl,trivial⟩ ⟨(v26,true),rfl,H⟩
 refine zK (zX (zS (zQ (w1 Z ?_))))
 refine wD Z H fun a27 _ H=>?_
 refine wL Z H fun v28 H=>?_
 refine w2 Z ?_
 refine vU 5 [2,4,5,6,7] [(63,.bool ((!(v28.toList == (⟨#[123]⟩:ByteArray).toList)) || ((Int.tmod (r6.1.len:Int) 2) == 0)))] ?_ ?_
 refine w1 Z ?_
 refine vU 4 [2,4,5,6,7] [(68,.bool (((!(v28.toList == (⟨#[123]⟩:ByteArray).toList)) || ((Int.tmod (r6.1.len:Int) 2) == 0)) || (decide ((r6.1.len:Int) > 17))))] ?_ ?_
 refine zE ?_
 refine zI H ?_ ?_ <;> intro H
 refine zQ ?_
 refine wLa Z H fun v29 H=>?_
 refine wTa Z H fun h30 H=>?_
 refine w1 Z (zE (zT (yT ?_)))
 obtain ⟨v31,hv31,H⟩:=H
 exact fu Z _ rfl [.agg (af.cs v31).toArray,.bool false] ⟨⟨_,_,rfl,rfl,.inr ⟨rfl,_,rfl,rfl,hv31⟩⟩,rfl,trivial⟩ ⟨(v31,false),rfl,H⟩
 refine zK (zX (zS (zQ (w1 Z (zE (zB ?_))))))
 obtain ⟨I3,μ3,H0,HI⟩:=H
 refine zO (σ:=Int) [2,4,5,6,7] (fun (s:Int)=>[(8,.int .i64 s)]) I3 μ3 1 H0 ?_
 rintro a_ h_3 H
 replace H:=HI a_ h_3 H
 refine zF [8,2,4,5,6,7] (zS (zQ ?_))
 refine w4 Z (zE ?_)
 refine zI H ?_ ?_ <;> intro H
 refine zK (zX (zS (zB (zQ ?_))))
 refine wQ Z H fun x32 H=>?_
 refine zE (zS (zQ (w1 Z (zE (zB ?_)))))
 obtain ⟨I4,μ4,H0,HI⟩:=H
 refine zO (σ:=Int × Int) [2,4,5,6,7,8] (fun (s:Int × Int)=>[(9,.int .i64 s.1),(10,.int .i64 s.2)]) I4 μ4 (x32,0) H0 ?_
 rintro ⟨b_,d_⟩ h_4 H
 replace H:=HI b_ d_ h_4 H
 refine zF [9,10,2,4,5,6,7,8] (zS (zQ ?_))
 refine w2 Z (zE ?_)
 refine zI H ?_ ?_ <;> intro H
 refine zK (zX ?_)
 refine zJ (α:=Int) [2,4,5,6,7,8,10] (fun (s:Int)=>[(9,.int .i64 s)]) (fun (s:Int) h=>lT (ad b1) (ad b3) r6.1 r6.2 (ad b13) a_ d_ s k (fun s h'=>I3 s h'/\μ3 s h' < μ3 a_ h_3) (fun s h'=>I4 s h'/\μ4 s h' < μ4 (b_,d_) h_4) h) ?_ ?_
 rintro f_ h_5 H
 refine zF [9,2,4,5,6,7,8,10] (zR ?_)
 refine w2 Z ?_
 refine wQ Z H fun x33 H=>?_
 refine zW ?_
 exact xJ (f_,x33) H
 refine zB (zS ?_)
 refine gB [2,4,5,6,7,8,9,10] ?_
 refine gT 0 [6] Z ?_
 refine gT 1 [8] Z ?_
 refine gd 2 [80,81] Z H fun a34 H=>?_
 refine gl 3 [82] Z H fun v35 H=>?_
 refine gT 5 [10] Z ?_
 obtain ⟨b36,h37,eb36,eh37,H⟩:=H
 refine gHr 4 [] rfl (nJ Z rfl rfl rfl rfl rfl rfl rfl eb36 eh37) ?_
 obtain ⟨hy38,H⟩:=H
 refine gR rfl (fq Z rfl rfl rfl rfl hy38) ?_
 refine gZ0 ?_
 refine gd 6 [84,85] Z H fun a39 H=>?_
 refine gl 7 [86] Z H fun v40 H=>?_
 refine gT 8 [83,87] Z ?_
 refine gZ ?_
 refine zX (zF [2,4,5,6,7,8,9,10,88] ?_)
 refine zI H ?_ ?_ <;> intro H
 refine zR (w2 Z (zL ?_))
 exact xJ d_ H
 refine zK (yL ?_)
 exact xJ b_ H
 refine zY (yE (yE (yH (zX (zQ (w1 Z (zE ?_)))))))
 refine zJ (α:=ByteArray) [2,4,5,6,7,8,9] (fun (s:ByteArray)=>[(11,.string s)]) (fun (s:ByteArray) h=>lL (ad b1) (ad b3) r6.1 r6.2 (ad b13) a_ b_ s k (fun s h'=>I3 s h'/\μ3 s h' < μ3 a_ h_3) (fun s h'=>I4 s h'/\μ4 s h' < μ4 (b_,d_) h_4) h) ?_ ?_
 rintro g_ h_6 H
 refine zF [11,2,4,5,6,7,8,9] (zS (zQ ?_))
 refine w3 Z ?_
 refine vJ 8 (α:=Bool) [2,4,5,6,7,8,9] (fun (s:Bool)=>[(105,.bool s)]) (fun (s:Bool) h=>mi (ad b1) (ad b3) r6.1 r6.2 (ad b13) a_ b_ s k (fun s h'=>I3 s h'/\μ3 s h' < μ3 a_ h_3) (fun s h'=>I4 s h'/\μ4 s h' < μ4 (b_,d_) h_4) h) ?_ ?_
 rintro l_ h_7 H
 refine vF [105,2,4,5,6,7,8,9] ?_
 refine w1 Z ?_
 refine vJ 7 (α:=Bool) [2,4,5,6,7,8,9] (fun (s:Bool)=>[(113,.bool s)]) (fun (s:Bool) h=>jo (ad b1) (ad b3) r6.1 r6.2 (ad b13) a_ b_ s k (fun s h'=>I3 s h'/\μ3 s h' < μ3 a_ h_3) (fun s h'=>I4 s h'/\μ4 s h' < μ4 (b_,d_) h_4) h) ?_ ?_
 rintro m_ h_8 H
 refine vF [113,2,4,5,6,7,8,9] ?_
 refine w1 Z ?_
 refine vJ 8 (α:=Bool) [2,4,5,6,7,8,9] (fun (s:Bool)=>[(122,.bool s)]) (fun (s:Bool) h=>jC (ad b1) (ad b3) r6.1 r6.2 (ad b13) a_ b_ s k (fun s h'=>I3 s h'/\μ3 s h' < μ3 a_ h_3) (fun s h'=>I4 s h'/\μ4 s h' < μ4 (b_,d_) h_4) h) ?_ ?_
 rintro n_ h_9 H
 refine vF [122,2,4,5,6,7,8,9] (zE ?_)
 refine zI H ?_ ?_ <;> intro H
 refine zQ ?_
 refine wLa Z H fun v41 H=>?_
 refine wTa Z H fun h42 H=>?_
 refine w1 Z (zE (zF [2,3] (zT (yT (yB (yT (yT (yB (yT ?_)))))))))
 obtain ⟨v43,hv43,H⟩:=H
 exact fu Z _ rfl [.agg (af.cs v43).toArray,.bool false] ⟨⟨_,_,rfl,rfl,.inr ⟨rfl,_,rfl,rfl,hv43⟩⟩,rfl,trivial⟩ ⟨(v43,false),rfl,H⟩
 refine zK (zX ?_)
 refine gB [2,4,5,6,7,8,9] ?_
 refine gT 0 [7] Z ?_
 refine gl 1 [124] Z H fun v44 H=>?_
 refine gT 2 [5] Z ?_
 refine gT 3 [8] Z ?_
 refine gd 4 [126,127] Z H fun a45 H=>?_
 refine gl 5 [128] Z H fun v46 H=>?_
 refine gT 6 [9] Z ?_
 refine gT 7 [5] Z ?_
 refine gT 8 [8] Z ?_
 refine gT 9 [132] Z ?_
 refine gd 10 [131,133] Z H fun a47 H=>?_
 refine gl 11 [134] Z H fun v48 H=>?_
 refine gY 12 [129,130,135] rfl (fun _=>bU Z rfl rfl rfl rfl rfl) ?_
 obtain ⟨b49,h50,eb49,eh50,H⟩:=H
 refine gHr 13 [136] rfl (nJ Z rfl rfl rfl rfl rfl rfl rfl eb49 eh50) ?_
 obtain ⟨hy51,H⟩:=H
 refine gR rfl (fq Z rfl rfl rfl rfl hy51) ?_
 refine gZ0 ?_
 refine gA 14 [125,137] rfl (ji (s:=v44) (r:=(⟨some ⟨b49,0,none⟩,1,1⟩:Slc)) Z rfl rfl rfl rfl rfl (bT eb49 eh50) H) ?_
 rintro _ h53 ⟨s52,rfl,H⟩
 refine gT 15 [7] Z ?_
 refine gs 16 [138,139] Z H fun h54 H=>?_
 refine gZ ?_
 refine yL (zX (zF [2,4,5,6,7,8] (zR ?_)))
 refine w2 Z ?_
 refine wQ Z H fun x55 H=>?_
 refine zW ?_
 exact xJ x55 H
 refine vI 114 H ?_ ?_ <;> intro H
 refine wS (wS (wS (wS (wS (wS (wS (w1 Z ?_)))))))
 exact wJ true H
 refine w3 Z ?_
 refine wD Z H fun a56 _ H=>?_
 refine wL Z H fun v57 H=>?_
 refine wC J2 (Kt _ _ _ H) fun r58 h59 H=>?_
 refine w2 Z ?_
 exact wJ (!r58) H
 refine vI 106 H ?_ ?_ <;> intro H
 refine wS (wS (wS (wS (wS (wS (w1 Z ?_))))))
 exact wJ true H
 refine w2 Z ?_
 refine wD Z H fun a60 _ H=>?_
 refine wL Z H fun v61 H=>?_
 refine wC J2 (Kt _ _ _ H) fun r62 h63 H=>?_
 refine w2 Z ?_
 exact wJ (!r62) H
 refine vI 97 H ?_ ?_ <;> intro H
 refine wS (wS (wS (wS (wS (wS (wS (w1 Z ?_)))))))
 exact wJ true H
 refine w3 Z ?_
 refine wD Z H fun a64 _ H=>?_
 refine wL Z H fun v65 H=>?_
 refine w3 Z ?_
 exact wJ (!(v65.toList == g_.toList)) H
 refine zQ (w5 Z (zE (zF [9,2,4,5,6,7,8,11,94] ?_)))
 refine zI H ?_ ?_ <;> intro H
 refine zR (w1 Z (zW ?_))
 exact xJ (⟨#[125]⟩:ByteArray) H
 refine zK ?_
 exact xJ (⟨#[44]⟩:ByteArray) H
 refine zY (yE (yE (yH (zX (zF [2,7] (zQ ?_))))))
 refine wLa Z H fun v66 H=>?_
 refine wTa Z H fun h67 H=>?_
 refine w1 Z (zE (zT ?_))
 obtain ⟨v68,hv68,H⟩:=H
 exact fu Z _ rfl [.agg (af.cs v68).toArray,.bool true] ⟨⟨_,_,rfl,rfl,.inr ⟨rfl,_,rfl,rfl,hv68⟩⟩,rfl,trivial⟩ ⟨(v68,true),rfl,H⟩
 refine vG (d:=64) (fun hb=>?_) (fun hb=>?_)
 refine wS (wS (wS (w1 Z ?_)))
 refine vK ?_
 exact congrArg (fun b=>some (Value.bool b)) (BN hb)
 refine w4 Z ?_
 refine vK ?_
 exact congrArg (fun b=>some (Value.bool b)) (BO hb)
 refine vG (d:=58) (fun hb=>?_) (fun hb=>?_)
 refine wS (wS (wS (wS (w1 Z ?_))))
 refine vK ?_
 exact congrArg (fun b=>some (Value.bool b)) (BN hb)
 refine w5 Z ?_
 refine vK ?_
 exact congrArg (fun b=>some (Value.bool b)) (BO hb)
 refine vI 43 H ?_ ?_ <;> intro H
 refine w1 Z ?_
 refine wD Z H fun a69 _ H=>?_
 refine wL Z H fun v70 H=>?_
 refine w2 Z ?_
 exact wJ (!(v70.toList == (⟨#[]⟩:ByteArray).toList)) H
 refine wS (wS (wS (wS (w1 Z ?_))))
 exact wJ false H
 refine vI 32 H ?_ ?_ <;> intro H
 refine w1 Z ?_
 refine wD Z H fun a71 _ H=>?_
 refine wL Z H fun v72 H=>?_
 refine wC J2 (Kt _ _ _ H) fun r73 h74 H=>?_
 refine w2 Z ?_
 exact wJ (!r73) H
 refine wS (wS (wS (wS (wS (w1 Z ?_)))))
 exact wJ false H
theorem SC:aF prog 113:=ck func113
theorem Tk (p0 k h) (H:xZ p0 k h):CallsH prog 113 #[.agg (ay.cs p0).toArray] h (rB k):=by
 refine fE func113 fun w0=>?_
 refine zF [0] (zQ ?_)
 refine wX H fun b1 h2 H=>?_
 refine w1 Z (zE (zS (zQ ?_)))
 refine w1 Z ?_
 refine wL Z H fun v3 H=>?_
 refine wC J2 (Kt _ _ _ H) fun r4 h5 H=>?_
 refine w2 Z ?_
 refine vJ 5 (α:=Bool) [1] (fun (s:Bool)=>[(13,.bool s)]) (fun (s:Bool) h=>oK (ad b1) s k h) ?_ ?_
 rintro b_ h_1 H
 refine vF [13,1] (zE ?_)
 refine zI H ?_ ?_ <;> intro H
 refine zQ (w1 Z (zE (zT (yT ?_))))
 exact aB _ rfl _ rfl ⟨false,rfl,H⟩
 refine zK (zX (zS (zQ (w1 Z (zE (zB ?_))))))
 obtain ⟨I2,μ2,H0,HI⟩:=H
 refine zO (σ:=Int) [1] (fun (s:Int)=>[(3,.int .i64 s)]) I2 μ2 0 H0 ?_
 rintro a_ h_2 H
 replace H:=HI a_ h_2 H
 refine zF [3,1] (zS (zQ ?_))
 refine w2 Z ?_
 refine wL Z H fun v6 H=>?_
 refine w2 Z (zE ?_)
 refine zI H ?_ ?_ <;> intro H
 refine zK (zX (zS (zB ?_)))
 refine zJ (α:=Bool) [1,3] (fun (s:Bool)=>[(58,.bool s)]) (fun (s:Bool) h=>fZ (ad b1) a_ s k (fun s h'=>I2 s h'/\μ2 s h' < μ2 a_ h_2) h) ?_ ?_
 rintro d_ h_3 H
 refine zF [58,1,3] ?_
 refine zI H ?_ ?_ <;> intro H
 refine zQ (w1 Z (zE (zT (yB (yT (yT (yB (yT ?_))))))))
 exact aB _ rfl _ rfl ⟨false,rfl,H⟩
 refine zK (yL (zX (zR (w2 Z ?_))))
 refine wQ Z H fun x7 H=>?_
 refine zW ?_
 exact xJ x7 H
 refine gB [1,3] ?_
 refine gT 0 [1] Z ?_
 refine gl 1 [21] Z H fun v8 H=>?_
 refine gT 2 [3] Z ?_
 refine gd 3 [22,23] Z H fun a9 H=>?_
 refine gT 4 [24] Z ?_
 refine gl 5 [25] Z H fun v10 H=>?_
 refine gC 6 [26] J2 (Kt _ _ _ H) fun r11 h12 H=>?_
 refine gT 7 [27] Z ?_
 refine gT 8 [28] Z ?_
 refine gI 29 H (fun hb H=>?_) (fun hb H=>?_)
 refine gS 9 [1,29] ?_
 refine gS 10 [29,30] ?_
 refine gS 11 [3,29] ?_
 refine gS 12 [29,31,32] ?_
 refine gS 13 [29,33] ?_
 refine gS 14 [29,34] ?_
 refine gS 15 [29,35] ?_
 refine gS 16 [29,36] ?_
 refine gT 17 [29,37] Z ?_
 refine gT 18 [38] Z ?_
 refine gI 39 H (fun hb H=>?_) (fun hb H=>?_)
 refine gS 19 [3,39] ?_
 refine gS 20 [39,40] ?_
 refine gS 21 [39,41] ?_
 refine gS 22 [1,42] ?_
 refine gS 23 [42,43] ?_
 refine gS 24 [3,42] ?_
 refine gS 25 [42,44,45] ?_
 refine gS 26 [42,46] ?_
 refine gS 27 [42,47] ?_
 refine gS 28 [1,42] ?_
 refine gS 29 [42,49] ?_
 refine gS 30 [3,42] ?_
 refine gS 31 [42,51] ?_
 refine gS 32 [42,50,52] ?_
 refine gS 33 [42,53] ?_
 refine gS 34 [42,54] ?_
 refine gS 35 [42,48,55] ?_
 refine gS 36 [39,42,56] ?_
 refine gT 37 [39,57] Z ?_
 refine gZ ?_
 exact xJ true H
 refine gT 19 [3,39] Z ?_
 refine gT 20 [39,40] Z ?_
 refine gT 21 [39,41] Z ?_
 refine gI 42 H (fun hb H=>?_) (fun hb H=>?_)
 refine gT 22 [1,42] Z ?_
 refine gl 23 [42,43] Z H fun v13 H=>?_
 refine gT 24 [3,42] Z ?_
 refine gd 25 [42,44,45] Z H fun a14 H=>?_
 refine gT 26 [42,46] Z ?_
 refine gl 27 [42,47] Z H fun v15 H=>?_
 refine gT 28 [1,42] Z ?_
 refine gl 29 [42,49] Z H fun v16 H=>?_
 refine gT 30 [3,42] Z ?_
 refine gT 31 [42,51] Z ?_
 refine gd 32 [42,50,52] Z H fun a17 H=>?_
 refine gT 33 [42,53] Z ?_
 refine gl 34 [42,54] Z H fun v18 H=>?_
 refine gT 35 [42,48,55] Z ?_
 refine gT 36 [39,42,56] Z ?_
 refine gT 37 [39,57] Z ?_
 refine gZ ?_
 exact xJ (Op.bytesLess v15.toList v18.toList || v15.toList == v18.toList) H
 refine gS 22 [1,42] ?_
 refine gS 23 [42,43] ?_
 refine gS 24 [3,42] ?_
 refine gS 25 [42,44,45] ?_
 refine gS 26 [42,46] ?_
 refine gS 27 [42,47] ?_
 refine gS 28 [1,42] ?_
 refine gS 29 [42,49] ?_
 refine gS 30 [3,42] ?_
 refine gS 31 [42,51] ?_
 refine gS 32 [42,50,52] ?_
 refine gS 33 [42,53] ?_
 refine gS 34 [42,54] ?_
 refine gS 35 [42,48,55] ?_
 refine gT 36 [39,42,56] Z ?_
 refine gT 37 [39,57] Z ?_
 refine gZ ?_
 exact xJ false H
 refine gT 9 [1,29] Z ?_
 refine gl 10 [29,30] Z H fun v19 H=>?_
 refine gT 11 [3,29] Z ?_
 refine gd 12 [29,31,32] Z H fun a20 H=>?_
 refine gT 13 [29,33] Z ?_
 refine gl 14 [29,34] Z H fun v21 H=>?_
 refine gC 15 [29,35] J2 (Kt _ _ _ H) fun r22 h23 H=>?_
 refine gT 16 [29,36] Z ?_
 refine gT 17 [29,37] Z ?_
 refine gT 18 [38] Z ?_
 refine gI 39 H (fun hb H=>?_) (fun hb H=>?_)
 refine gS 19 [3,39] ?_
 refine gS 20 [39,40] ?_
 refine gS 21 [39,41] ?_
 refine gS 22 [1,42] ?_
 refine gS 23 [42,43] ?_
 refine gS 24 [3,42] ?_
 refine gS 25 [42,44,45] ?_
 refine gS 26 [42,46] ?_
 refine gS 27 [42,47] ?_
 refine gS 28 [1,42] ?_
 refine gS 29 [42,49] ?_
 refine gS 30 [3,42] ?_
 refine gS 31 [42,51] ?_
 refine gS 32 [42,50,52] ?_
 refine gS 33 [42,53] ?_
 refine gS 34 [42,54] ?_
 refine gS 35 [42,48,55] ?_
 refine gS 36 [39,42,56] ?_
 refine gT 37 [39,57] Z ?_
 refine gZ ?_
 exact xJ true H
 refine gT 19 [3,39] Z ?_
 refine gT 20 [39,40] Z ?_
 refine gT 21 [39,41] Z ?_
 refine gI 42 H (fun hb H=>?_) (fun hb H=>?_)
 refine gT 22 [1,42] Z ?_
 refine gl 23 [42,43] Z H fun v24 H=>?_
 refine gT 24 [3,42] Z ?_
 refine gd 25 [42,44,45] Z H fun a25 H=>?_
 refine gT 26 [42,46] Z ?_
 refine gl 27 [42,47] Z H fun v26 H=>?_
 refine gT 28 [1,42] Z ?_
 refine gl 29 [42,49] Z H fun v27 H=>?_
 refine gT 30 [3,42] Z ?_
 refine gT 31 [42,51] Z ?_
 refine gd 32 [42,50,52] Z H fun a28 H=>?_
 refine gT 33 [42,53] Z ?_
 refine gl 34 [42,54] Z H fun v29 H=>?_
 refine gT 35 [42,48,55] Z ?_
 refine gT 36 [39,42,56] Z ?_
 refine gT 37 [39,57] Z ?_
 refine gZ ?_
 exact xJ (Op.bytesLess v26.toList v29.toList || v26.toList == v29.toList) H
 refine gS 22 [1,42] ?_
 refine gS 23 [42,43] ?_
 refine gS 24 [3,42] ?_
 refine gS 25 [42,44,45] ?_
 refine gS 26 [42,46] ?_
 refine gS 27 [42,47] ?_
 refine gS 28 [1,42] ?_
 refine gS 29 [42,49] ?_
 refine gS 30 [3,42] ?_
 refine gS 31 [42,51] ?_
 refine gS 32 [42,50,52] ?_
 refine gS 33 [42,53] ?_
 refine gS 34 [42,54] ?_
 refine gS 35 [42,48,55] ?_
 refine gT 36 [39,42,56] Z ?_
 refine gT 37 [39,57] Z ?_
 refine gZ ?_
 exact xJ false H
 refine zY (yE (yE (yH (zX (zF [] (zQ ?_))))))
 refine w1 Z (zE (zT ?_))
 exact aB _ rfl _ rfl ⟨true,rfl,H⟩
 refine vI 8 H ?_ ?_ <;> intro H
 refine wS (wS (wS (wS (w1 Z ?_))))
 exact wJ true H
 refine w1 Z ?_
 refine wL Z H fun v30 H=>?_
 refine w3 Z ?_
 exact wJ (decide ((v30.len:Int) > 8)) H
theorem O89:aF prog 89:=ck func89
theorem R89 (p0 k h) (H:uA p0 k h):CallsH prog 89 #[.string p0] h (fun v h'=>∃ r:ay × Bool,v = .tuple #[.agg (ay.cs r.1).toArray,.bool r.2]/\k r h'):=by
 refine fE func89 fun w0=>?_
 refine zF [0] (zQ ?_)
 refine wB Z H fun b1 h2 H=>?_
 refine w1 Z (zE (zQ ?_))
 refine w1 Z ?_
 refine wC O88 (R88 _ _ _ H) fun r3 h4 H=>?_
 refine w3 Z ?_
 refine wB Z H fun b5 h6 H=>?_
 refine wTa Z H fun h7 H=>?_
 refine w1 Z (zE (zF [2,4,5] (zQ ?_)))
 refine w1 Z ?_
 refine wL Z H fun v8 H=>?_
 refine wY (bU Z rfl rfl rfl rfl rfl) ?_
 refine wB Z H fun b9 h10 H=>?_
 refine wTa Z H fun h11 H=>?_
 refine zE (zS (zQ (w1 Z (zE (zB ?_)))))
 obtain ⟨I1,μ1,H0,HI⟩:=H
 refine zO (σ:=Bool × Int) [2,4,6] (fun (s:Bool × Int)=>[(5,.bool s.1),(7,.int .i64 s.2)]) I1 μ1 (r3.2,0) H0 ?_
 rintro ⟨b_,a_⟩ h_1 H
 replace H:=HI b_ a_ h_1 H
 refine zF [5,7,2,4,6] (zS (zQ ?_))
 refine w2 Z ?_
 refine wL Z H fun v12 H=>?_
 refine w2 Z (zE ?_)
 refine zI H ?_ ?_ <;> intro H
 refine zK (zX (zS (zB (zQ (w2 Z ?_)))))
 refine vJ 8 (α:=Bool) [2,4,6,7] (fun (s:Bool)=>[(32,.bool s)]) (fun (s:Bool) h=>oO (ad b1) (ad b5) (ad b9) a_ s k (fun s h'=>I1 s h'/\μ1 s h' < μ1 (b_,a_) h_1) h) ?_ ?_
 rintro d_ h_2 H
 refine vF [32,2,4,6,7] ?_
 refine w1 Z (zE ?_)
 refine gB [2,4,5,6,7] ?_
 refine gT 0 [6] Z ?_
 refine gl 1 [33] Z H fun v13 H=>?_
 refine gT 2 [4] Z ?_
 refine gl 3 [35] Z H fun v14 H=>?_
 refine gT 4 [7] Z ?_
 refine gd 5 [36,37] Z H fun a15 H=>?_
 refine gT 6 [38] Z ?_
 refine gl 7 [39] Z H fun v16 H=>?_
 refine gT 8 [4] Z ?_
 refine gl 9 [41] Z H fun v17 H=>?_
 refine gT 10 [7] Z ?_
 refine gd 11 [42,43] Z H fun a18 H=>?_
 refine gT 12 [44] Z ?_
 refine gl 13 [45] Z H fun v19 H=>?_
 refine gY 14 [40,46] rfl (fun _=>bU Z rfl rfl rfl rfl rfl) ?_
 obtain ⟨b20,h21,eb20,eh21,H⟩:=H
 refine gHr 15 [47] rfl (nJ Z rfl rfl rfl rfl rfl rfl rfl eb20 eh21) ?_
 obtain ⟨hy22,H⟩:=H
 refine gR rfl (fq Z rfl rfl rfl rfl hy22) ?_
 refine gZ0 ?_
 refine gA 16 [34,48] rfl (ji (s:=v13) (r:=(⟨some ⟨b20,0,none⟩,1,1⟩:Slc)) Z rfl rfl rfl rfl rfl (bT eb20 eh21) H) ?_
 rintro _ h24 ⟨s23,rfl,H⟩
 refine gT 17 [6] Z ?_
 refine gs 18 [49,50] Z H fun h25 H=>?_
 refine gZ ?_
 refine yL (zX (zF [2,4,5,6,7] (zR ?_)))
 refine w2 Z ?_
 refine wQ Z H fun x26 H=>?_
 refine zW ?_
 exact xJ (d_,x26) H
 refine vI 24 H ?_ ?_ <;> intro H
 refine w1 Z ?_
 refine wL Z H fun v27 H=>?_
 refine w1 Z ?_
 refine wD Z H fun a28 _ H=>?_
 refine w1 Z ?_
 refine wL Z H fun v29 H=>?_
 refine w2 Z ?_
 exact wJ (v29 == 0) H
 refine wS (wS (wS (wS (wS (wS (wS (w1 Z ?_)))))))
 exact wJ false H
 refine zY (yE (yE (yH (zX (zF [5,2,6] (zS (zQ ?_)))))))
 refine w3 Z ?_
 refine vJ 4 (α:=Bool) [2,6] (fun (s:Bool)=>[(57,.bool s)]) (fun (s:Bool) h=>mX (ad b1) (ad b9) s k (fun s h'=>I1 s h'/\μ1 s h' < μ1 (b_,a_) h_1) h) ?_ ?_
 rintro f_ h_3 H
 refine vF [57,2,6] (zE ?_)
 refine zI H ?_ ?_ <;> intro H
 refine zQ ?_
 refine wY (bU Z rfl rfl rfl rfl rfl) ?_
 refine wTa Z H fun h30 H=>?_
 refine w1 Z (zE (zT (yT ?_)))
 obtain ⟨v31,hv31,H⟩:=H
 exact fu Z _ rfl [.agg (ay.cs v31).toArray,.bool false] ⟨⟨_,_,rfl,rfl,.inr ⟨rfl,_,rfl,rfl,hv31⟩⟩,rfl,trivial⟩ ⟨(v31,false),rfl,H⟩
 refine zK (zX (zQ ?_))
 refine wLa Z H fun v32 H=>?_
 refine wTa Z H fun h33 H=>?_
 refine w1 Z (zE (zT ?_))
 obtain ⟨v34,hv34,H⟩:=H
 exact fu Z _ rfl [.agg (ay.cs v34).toArray,.bool true] ⟨⟨_,_,rfl,rfl,.inr ⟨rfl,_,rfl,rfl,hv34⟩⟩,rfl,trivial⟩ ⟨(v34,true),rfl,H⟩
 refine vI 53 H ?_ ?_ <;> intro H
 refine wS (wS (wS (w1 Z ?_)))
 exact wJ true H
 refine wLa Z H fun v35 H=>?_
 refine wC SC (Tk _ _ _ H) fun r36 h37 H=>?_
 refine w2 Z ?_
 exact wJ (!r36) H
theorem O90:aF prog 90:=ck func90
theorem R90 (p0 p1 k h) (H:sZ p0 p1 k h):CallsH prog 90 #[.agg (af.cs p0).toArray,.agg (ay.cs p1).toArray] h (rB k):=by
 refine fE func90 fun w0=>?_
 refine zF [0,1] (zQ ?_)
 refine wX H fun b1 h2 H=>?_
 refine wX H fun b3 h4 H=>?_
 refine w1 Z (zE (zS (zQ ?_)))
 refine w1 Z ?_
 refine wL Z H fun v5 H=>?_
 refine w2 Z ?_
 refine vJ 6 (α:=Bool) [2,3] (fun (s:Bool)=>[(20,.bool s)]) (fun (s:Bool) h=>nE (ad b1) (ad b3) s k h) ?_ ?_
 rintro n_ h_1 H
 refine vF [20,2,3] (zE ?_)
 refine zI H ?_ ?_ <;> intro H
 refine zQ (w1 Z (zE (zT (yT ?_))))
 exact aB _ rfl _ rfl ⟨false,rfl,H⟩
 refine zK (zX (zS (zQ (w1 Z (zE (zB ?_))))))
 obtain ⟨I2,μ2,H0,HI⟩:=H
 refine zO (σ:=Int) [2,3] (fun (s:Int)=>[(5,.int .i64 s)]) I2 μ2 0 H0 ?_
 rintro a_ h_2 H
 replace H:=HI a_ h_2 H
 refine zF [5,2,3] (zS (zQ ?_))
 refine w2 Z ?_
 refine wL Z H fun v6 H=>?_
 refine w2 Z (zE ?_)
 refine zI H ?_ ?_ <;> intro H
 refine zK (zX (zS (zB (zQ (w1 Z ?_)))))
 refine wL Z H fun v7 H=>?_
 refine w1 Z ?_
 refine wD Z H fun a8 _ H=>?_
 refine wLa Z H fun v9 H=>?_
 refine wB Z H fun b10 h11 H=>?_
 refine wTa Z H fun h12 H=>?_
 refine zE (zF [5,2,3,6] (zQ ?_))
 refine w2 Z (zE (zS (zQ ?_)))
 refine w1 Z (zE (zB ?_))
 obtain ⟨I3,μ3,H0,HI⟩:=H
 refine zO (σ:=Bool × Bool × Int) [2,3,5,6] (fun (s:Bool × Bool × Int)=>[(7,.bool s.1),(8,.bool s.2.1),(9,.int .i64 s.2.2)]) I3 μ3 (false,false,0) H0 ?_
 rintro ⟨f_,d_,b_⟩ h_3 H
 replace H:=HI f_ d_ b_ h_3 H
 refine zF [7,8,9,2,3,5,6] (zS (zQ ?_))
 refine w2 Z ?_
 refine wL Z H fun v13 H=>?_
 refine w2 Z (zE ?_)
 refine zI H ?_ ?_ <;> intro H
 refine zK (zX ?_)
 refine zJ (α:=Bool × Bool) [2,3,5,6,9] (fun (s:Bool × Bool)=>[(7,.bool s.1),(8,.bool s.2)]) (fun (s:Bool × Bool) h=>mR (ad b1) (ad b3) a_ (ad b10) b_ s.1 s.2 k (fun s h'=>I2 s h'/\μ2 s h' < μ2 a_ h_2) (fun s h'=>I3 s h'/\μ3 s h' < μ3 (f_,d_,b_) h_3) h) ?_ ?_
 rintro ⟨l_,m_⟩ h_4 H
 refine zF [7,8,2,3,5,6,9] (zR ?_)
 refine w2 Z ?_
 refine wQ Z H fun x14 H=>?_
 refine zW ?_
 exact xJ (l_,m_,x14) H
 refine zB (zQ (w1 Z ?_))
 refine wL Z H fun v15 H=>?_
 refine w1 Z ?_
 refine wD Z H fun a16 _ H=>?_
 refine wLa Z H fun v17 H=>?_
 refine wB Z H fun b18 h19 H=>?_
 refine wTa Z H fun h20 H=>?_
 refine zE (zF [7,8,9,2,3,5,6,10] (zS (zQ ?_)))
 refine w1 Z ?_
 refine wL Z H fun v21 H=>?_
 refine w1 Z ?_
 refine wL Z H fun v22 H=>?_
 refine w1 Z (zE ?_)
 refine zI H ?_ ?_ <;> intro H
 refine zY (yE (yH ?_))
 exact xJ (f_,d_) H
 refine zK (zX (zQ (w2 Z ?_)))
 refine vJ 6 (α:=Bool) [2,3,5,6,8,9,10] (fun (s:Bool)=>[(57,.bool s)]) (fun (s:Bool) h=>nC (ad b1) (ad b3) a_ (ad b10) d_ b_ (ad b18) s k (fun s h'=>I2 s h'/\μ2 s h' < μ2 a_ h_2) (fun s h'=>I3 s h'/\μ3 s h' < μ3 (f_,d_,b_) h_3) h) ?_ ?_
 rintro g_ h_5 H
 refine vF [57,2,3,5,6,8,9,10] ?_
 refine w1 Z (zE ?_)
 refine qZ (by kernel_rfl) (by kernel_rfl) ?_
 refine qp Z ?_
 refine qp Z ?_
 refine CG 19 (α:=Bool) (fun (s:Bool)=>[(78,.bool s),(2,pt b1),(3,pt b3),(5,.int .i64 a_),(6,pt b10),(7,.bool g_),(9,.int .i64 b_)]) (fun (s:Bool)=>ko (ad b1) (ad b3) a_ (ad b10) g_ b_ s k (fun s h'=>I2 s h'/\μ2 s h' < μ2 a_ h_2) (fun s h'=>I3 s h'/\μ3 s h' < μ3 (f_,d_,b_) h_3) h_5) ?_ ?_
 rintro h_ H
 refine zq [(78,.bool h_),(2,pt b1),(3,pt b3),(5,.int .i64 a_),(6,pt b10),(7,.bool g_),(9,.int .i64 b_)] ⟨rfl,rfl,rfl,rfl,rfl,rfl,rfl,trivial⟩ ?_
 refine qp Z ?_
 refine xK ?_
 refine yL ?_
 exact xJ (g_,h_) H
 refine CR (d:=59) H rfl (fun H=>?_) (fun H=>?_)
 refine qs ?_
 refine qs ?_
 refine qs ?_
 refine qs ?_
 refine qs ?_
 refine qs ?_
 refine qs ?_
 refine qs ?_
 refine qs ?_
 refine qs ?_
 refine qs ?_
 refine qs ?_
 refine qs ?_
 refine qs ?_
 refine qs ?_
 refine qs ?_
 refine qs ?_
 refine qs ?_
 refine qp Z ?_
 exact Au true H ⟨rfl,rfl,rfl,rfl,rfl,rfl,rfl,trivial⟩
 refine qp Z ?_
 obtain ⟨v23,hv23,H⟩:=H
 refine q_y (fq Z rfl rfl rfl rfl hv23) rfl rfl ?_
 refine qp Z ?_
 refine qp Z ?_
 obtain ⟨v24,hv24,H⟩:=H
 refine q_y (fq Z rfl rfl rfl rfl hv24) rfl rfl ?_
 refine qp Z ?_
 refine qp Z ?_
 refine qp Z ?_
 refine CG 10 (α:=Bool) (fun (s:Bool)=>[(77,.bool s),(2,pt b1),(3,pt b3),(5,.int .i64 a_),(6,pt b10),(7,.bool g_),(9,.int .i64 b_),(59,.bool false)]) (fun (s:Bool)=>ng (ad b1) (ad b3) a_ (ad b10) g_ b_ false s k (fun s h'=>I2 s h'/\μ2 s h' < μ2 a_ h_2) (fun s h'=>I3 s h'/\μ3 s h' < μ3 (f_,d_,b_) h_3) h_5) ?_ ?_
 rintro j_ H
 refine zq [(77,.bool j_),(2,pt b1),(3,pt b3),(5,.int .i64 a_),(6,pt b10),(7,.bool g_),(9,.int .i64 b_),(59,.bool false)] ⟨rfl,rfl,rfl,rfl,rfl,rfl,rfl,rfl,trivial⟩ ?_
 refine qp Z ?_
 exact Au j_ H ⟨rfl,rfl,rfl,rfl,rfl,rfl,rfl,trivial⟩
 refine CR (d:=67) H rfl (fun H=>?_) (fun H=>?_)
 refine qp Z ?_
 obtain ⟨v25,hv25,H⟩:=H
 refine q_y (fq Z rfl rfl rfl rfl hv25) rfl rfl ?_
 refine qp Z ?_
 obtain ⟨v26,hv26,H⟩:=H
 refine q_y (fq Z rfl rfl rfl rfl hv26) rfl rfl ?_
 refine qp Z ?_
 obtain ⟨s27,ps27,qs27,rs27,es27,H⟩:=H
 refine Pp (xh (s:=v25) (L:=0) (H:=(v26.size:Int)) Z rfl rfl rfl rfl rfl ps27 qs27 rs27) (congrArg Value.string es27) rfl rfl ?_
 refine qp Z ?_
 obtain ⟨v28,hv28,H⟩:=H
 refine q_y (fq Z rfl rfl rfl rfl hv28) rfl rfl ?_
 refine qp Z ?_
 refine qp Z ?_
 exact Au (s27.toList == v28.toList) H ⟨rfl,rfl,rfl,rfl,rfl,rfl,rfl,rfl,trivial⟩
 refine qs ?_
 refine qs ?_
 refine qs ?_
 refine qs ?_
 refine qs ?_
 refine qs ?_
 refine qs ?_
 refine qs ?_
 refine qs ?_
 refine qp Z ?_
 exact Au false H ⟨rfl,rfl,rfl,rfl,rfl,rfl,rfl,rfl,trivial⟩
 refine vI 51 H ?_ ?_ <;> intro H
 refine wS (wS (wS (wS (wS (w1 Z ?_)))))
 exact wJ true H
 refine w1 Z ?_
 refine wL Z H fun v29 H=>?_
 refine w1 Z ?_
 refine wL Z H fun v30 H=>?_
 refine w2 Z ?_
 exact wJ (v29.toList == v30.toList) H
 refine zY (yE (yE (yH (zX (zQ (w1 Z ?_))))))
 refine wL Z H fun v31 H=>?_
 refine w2 Z ?_
 refine vU 3 [2,3,5,6,7,8] [(85,.bool ((v31 == 0) && (!f_)))] ?_ ?_
 refine w1 Z ?_
 refine vJ 7 (α:=Bool) [2,3,5,6,8] (fun (s:Bool)=>[(93,.bool s)]) (fun (s:Bool) h=>fM (ad b1) (ad b3) a_ (ad b10) d_ s k (fun s h'=>I2 s h'/\μ2 s h' < μ2 a_ h_2) (fun s h'=>I3 s h'/\μ3 s h' < μ3 (f_,d_,b_) h_3) h) ?_ ?_
 rintro o_ h_8 H
 refine vF [93,2,3,5,6,8] ?_
 refine w1 Z ?_
 refine vJ 8 (α:=Bool) [2,3,5,6] (fun (s:Bool)=>[(102,.bool s)]) (fun (s:Bool) h=>fo (ad b1) (ad b3) a_ (ad b10) s k (fun s h'=>I2 s h'/\μ2 s h' < μ2 a_ h_2) (fun s h'=>I3 s h'/\μ3 s h' < μ3 (f_,d_,b_) h_3) h) ?_ ?_
 rintro p_ h_9 H
 refine vF [102,2,3,5,6] ?_
 refine w1 Z ?_
 refine vJ 4 (α:=Bool) [2,3,5,6] (fun (s:Bool)=>[(107,.bool s)]) (fun (s:Bool) h=>ek (ad b1) (ad b3) a_ (ad b10) s k (fun s h'=>I2 s h'/\μ2 s h' < μ2 a_ h_2) (fun s h'=>I3 s h'/\μ3 s h' < μ3 (f_,d_,b_) h_3) h) ?_ ?_
 rintro r_ h_10 H
 refine vF [107,2,3,5,6] ?_
 refine w1 Z ?_
 refine vJ 4 (α:=Bool) [2,3,5] (fun (s:Bool)=>[(112,.bool s)]) (fun (s:Bool) h=>lU (ad b1) (ad b3) a_ s k (fun s h'=>I2 s h'/\μ2 s h' < μ2 a_ h_2) (fun s h'=>I3 s h'/\μ3 s h' < μ3 (f_,d_,b_) h_3) h) ?_ ?_
 rintro t_ h_11 H
 refine vF [112,2,3,5] (zE ?_)
 refine zI H ?_ ?_ <;> intro H
 refine zQ (w1 Z (zE (zT (yB (yT (yT (yB (yT ?_))))))))
 exact aB _ rfl _ rfl ⟨false,rfl,H⟩
 refine zK (yL (zX (zR (w2 Z ?_))))
 refine wQ Z H fun x32 H=>?_
 refine zW ?_
 exact xJ x32 H
 refine vI 108 H ?_ ?_ <;> intro H
 refine wS (wS (wS (w1 Z ?_)))
 exact wJ true H
 refine w1 Z ?_
 refine wL Z H fun v33 H=>?_
 refine w2 Z ?_
 exact wJ (decide (v33 > 2)) H
 refine vI 103 H ?_ ?_ <;> intro H
 refine wS (wS (wS (w1 Z ?_)))
 exact wJ true H
 refine w1 Z ?_
 refine wL Z H fun v34 H=>?_
 refine w2 Z ?_
 exact wJ (decide (v34 < 0)) H
 refine vI 94 H ?_ ?_ <;> intro H
 refine wS (wS (wS (wS (wS (wS (wS (w1 Z ?_)))))))
 exact wJ true H
 refine w1 Z ?_
 refine wL Z H fun v35 H=>?_
 refine w2 Z ?_
 refine vU 3 [2,3,5,6,94] [(101,.bool ((v35 == 2) && (!d_)))] ?_ ?_
 refine w1 Z ?_
 exact wJ ((v35 == 2) && (!d_)) H
 refine vG (d:=98) (fun hb=>?_) (fun hb=>?_)
 refine w3 Z ?_
 refine vK ?_
 exact congrArg (fun b=>some (Value.bool b)) (jD hb)
 refine wS (wS (w1 Z ?_))
 refine vK ?_
 exact congrArg (fun b=>some (Value.bool b)) (jH hb)
 refine vI 86 H ?_ ?_ <;> intro H
 refine wS (wS (wS (wS (wS (wS (w1 Z ?_))))))
 exact wJ true H
 refine w1 Z ?_
 refine wL Z H fun v36 H=>?_
 refine w2 Z ?_
 refine vU 2 [2,3,5,6,8,86] [(92,.bool ((v36 == 1) && f_))] ?_ ?_
 refine w1 Z ?_
 exact wJ ((v36 == 1) && f_) H
 refine vG (d:=90) (fun hb=>?_) (fun hb=>?_)
 refine w2 Z ?_
 refine vK ?_
 exact congrArg (fun b=>some (Value.bool b)) (jD hb)
 refine wS (w1 Z ?_)
 refine vK ?_
 exact congrArg (fun b=>some (Value.bool b)) (jH hb)
 refine vG (d:=82) (fun hb=>?_) (fun hb=>?_)
 refine w3 Z ?_
 refine vK ?_
 exact congrArg (fun b=>some (Value.bool b)) (jD hb)
 refine wS (wS (w1 Z ?_))
 refine vK ?_
 exact congrArg (fun b=>some (Value.bool b)) (jH hb)
 refine zY (yE (yE (yH (zX (zF [] (zQ ?_))))))
 refine w1 Z (zE (zT ?_))
 exact aB _ rfl _ rfl ⟨true,rfl,H⟩
 refine vI 14 H ?_ ?_ <;> intro H
 refine w1 Z ?_
 refine wL Z H fun v37 H=>?_
 refine w1 Z ?_
 refine wL Z H fun v38 H=>?_
 refine w2 Z ?_
 exact wJ (!(v37.toList == v38.toList)) H
 refine wS (wS (wS (wS (wS (w1 Z ?_)))))
 exact wJ false H
theorem O58:aF prog 58:=ck func58
theorem R58 (p0 k h) (H:ym p0 k h):CallsH prog 58 #[.agg (ae.cs p0).toArray] h (rB k):=by
 refine fE func58 fun w0=>?_
 refine zF [0] (zQ ?_)
 refine wX H fun b1 h2 H=>?_
 refine w1 Z (zE (zQ ?_))
 refine w1 Z ?_
 refine wL Z H fun v3 H=>?_
 refine w3 Z ?_
 refine vJ 5 (α:=Bool) [] (fun (s:Bool)=>[(12,.bool s)]) (fun (s:Bool) h=>qQ s k h) ?_ ?_
 rintro a_ h_1 H
 refine vF [12] ?_
 refine w1 Z (zE (zT ?_))
 exact aB _ rfl _ rfl ⟨a_,rfl,H⟩
 refine vI 7 H ?_ ?_ <;> intro H
 refine w1 Z ?_
 refine wL Z H fun v4 H=>?_
 refine w3 Z ?_
 exact wJ (decide ((v4.size:Int)<=200)) H
 refine wS (wS (wS (wS (w1 Z ?_))))
 exact wJ false H
theorem O59:aF prog 59:=ck func59
theorem R59 (p0 p1 k h) (H:xA p0 p1 k h):CallsH prog 59 #[.agg (aG.cs p0).toArray,.agg (aG.cs p1).toArray] h (rB k):=by
 refine fE func59 fun w0=>?_
 refine zF [0,1] (zQ ?_)
 refine wX H fun b1 h2 H=>?_
 refine wX H fun b3 h4 H=>?_
 refine w1 Z (zE (zQ ?_))
 refine w1 Z ?_
 refine wL Z H fun v5 H=>?_
 refine w1 Z ?_
 refine wL Z H fun v6 H=>?_
 refine w2 Z ?_
 refine vJ 13 (α:=Bool) [] (fun (s:Bool)=>[(23,.bool s)]) (fun (s:Bool) h=>pg s k h) ?_ ?_
 rintro a_ h_1 H
 refine vF [23] ?_
 refine w1 Z (zE (zT ?_))
 exact aB _ rfl _ rfl ⟨a_,rfl,H⟩
 refine vI 10 H ?_ ?_ <;> intro H
 refine wS (wS (wS (wS (wS (wS (wS (wS (wS (wS (wS (wS (w1 Z ?_))))))))))))
 exact wJ true H
 refine w1 Z ?_
 refine wL Z H fun v7 H=>?_
 refine w1 Z ?_
 refine wL Z H fun v8 H=>?_
 refine w2 Z ?_
 refine vJ 6 (α:=Bool) [10] (fun (s:Bool)=>[(22,.bool s)]) (fun (s:Bool) h=>ru false s k h) ?_ ?_
 rintro b_ h_2 H
 refine vF [22,10] ?_
 refine w1 Z ?_
 exact wJ b_ H
 refine vI 16 H ?_ ?_ <;> intro H
 refine w1 Z ?_
 refine wL Z H fun v9 H=>?_
 refine w1 Z ?_
 refine wL Z H fun v10 H=>?_
 refine w2 Z ?_
 exact wJ (decide (v9 > v10)) H
 refine wS (wS (wS (wS (wS (w1 Z ?_)))))
 exact wJ false H
theorem O39:aF prog 39:=ck func39
theorem R39 (p0 k h) (H:tT p0 k h):CallsH prog 39 #[Slc.v p0] h (rS k):=by
 refine fE func39 fun w0=>?_
 refine zF [0] (zQ ?_)
 refine w1 Z (zE (zQ ?_))
 refine w1 Z (zE (zS (zQ ?_)))
 refine w1 Z (zE (zB ?_))
 obtain ⟨I1,μ1,H0,HI⟩:=H
 refine zO (σ:=Slc × Int) [0] (fun (s:Slc × Int)=>[(3,Slc.v s.1),(4,.int .i64 s.2)]) I1 μ1 ((⟨none,0,0⟩:Slc),0) H0 ?_
 rintro ⟨a_,b_⟩ h_1 H
 replace H:=HI a_ b_ h_1 H
 refine zF [3,4,0] (zS (zQ ?_))
 refine w4 Z (zE ?_)
 refine zI H ?_ ?_ <;> intro H
 refine zK (zX ?_)
 refine zJ (α:=Slc) [0,4] (fun (s:Slc)=>[(3,Slc.v s)]) (fun (s:Slc) h=>mZ p0 b_ s k (fun s h'=>I1 s h'/\μ1 s h' < μ1 (a_,b_) h_1) h) ?_ ?_
 rintro h_ h_2 H
 refine zF [3,0,4] (zR ?_)
 refine w2 Z ?_
 refine wQ Z H fun x1 H=>?_
 refine zW ?_
 exact xJ (h_,x1) H
 refine zB (zQ (w2 Z ?_))
 refine wD Z H fun a2 _ H=>?_
 refine wLa Z H fun v3 H=>?_
 refine wB Z H fun b4 h5 H=>?_
 refine wTa Z H fun h6 H=>?_
 refine zE (zF [3,4,0,5] (zS (zQ ?_)))
 refine wLa Z H fun v7 H=>?_
 refine wC O58 (R58 _ _ _ H) fun r8 h9 H=>?_
 refine w1 Z (zE ?_)
 refine zI H ?_ ?_ <;> intro H
 refine zY (yE (yH ?_))
 exact xJ a_ H
 refine zK (zX (zQ (w1 Z (zE (zS (zB ?_))))))
 obtain ⟨I3,μ3,H0,HI⟩:=H
 refine zO (σ:=Int) [0,3,4,5] (fun (s:Int)=>[(6,.int .i64 s)]) I3 μ3 0 H0 ?_
 rintro d_ h_3 H
 replace H:=HI d_ h_3 H
 refine zF [6,0,3,4,5] (zS (zS ?_))
 refine qZ (by kernel_rfl) (by kernel_rfl) ?_
 refine qp Z ?_
 refine qp Z ?_
 refine qp Z ?_
 refine qp Z ?_
 refine qp Z ?_
 refine CG 29 (α:=Bool) (fun (s:Bool)=>[(54,.bool s),(0,Slc.v p0),(3,Slc.v a_),(4,.int .i64 b_),(5,pt b4),(6,.int .i64 d_)]) (fun (s:Bool)=>kM p0 a_ b_ (ad b4) d_ s k (fun s h'=>I1 s h'/\μ1 s h' < μ1 (a_,b_) h_1) (fun s h'=>I3 s h'/\μ3 s h' < μ3 d_ h_3) h_3) ?_ ?_
 rintro j_ H
 refine zq [(54,.bool j_),(0,Slc.v p0),(3,Slc.v a_),(4,.int .i64 b_),(5,pt b4),(6,.int .i64 d_)] ⟨rfl,rfl,rfl,rfl,rfl,rfl,trivial⟩ ?_
 refine xK ?_
 refine zX ?_
 refine zI H ?_ ?_ <;> intro H
 refine zK (zX (zB (zR (w2 Z ?_))))
 refine wQ Z H fun x10 H=>?_
 refine zL ?_
 exact xJ x10 H
 refine zY (yE (yE (yH (zX (zS (zS ?_))))))
 refine qZ (by kernel_rfl) (by kernel_rfl) ?_
 refine qp Z ?_
 refine qp Z ?_
 refine qp Z ?_
 refine qp Z ?_
 refine qp Z ?_
 refine CG 9 (α:=Bool) (fun (s:Bool)=>[(70,.bool s),(0,Slc.v p0),(3,Slc.v a_),(4,.int .i64 b_),(5,pt b4),(6,.int .i64 d_)]) (fun (s:Bool)=>oZ p0 a_ b_ (ad b4) d_ s k (fun s h'=>I1 s h'/\μ1 s h' < μ1 (a_,b_) h_1) (fun s h'=>I3 s h'/\μ3 s h' < μ3 d_ h_3) h_3) ?_ ?_
 rintro l_ H
 refine zq [(70,.bool l_),(0,Slc.v p0),(3,Slc.v a_),(4,.int .i64 b_),(5,pt b4),(6,.int .i64 d_)] ⟨rfl,rfl,rfl,rfl,rfl,rfl,trivial⟩ ?_
 refine qp Z ?_
 refine CG 9 (α:=Bool) (fun (s:Bool)=>[(80,.bool s),(0,Slc.v p0),(3,Slc.v a_),(4,.int .i64 b_),(5,pt b4),(6,.int .i64 d_)]) (fun (s:Bool)=>nG p0 a_ b_ (ad b4) d_ s k (fun s h'=>I1 s h'/\μ1 s h' < μ1 (a_,b_) h_1) (fun s h'=>I3 s h'/\μ3 s h' < μ3 d_ h_3) h_3) ?_ ?_
 rintro m_ H
 refine zq [(80,.bool m_),(0,Slc.v p0),(3,Slc.v a_),(4,.int .i64 b_),(5,pt b4),(6,.int .i64 d_)] ⟨rfl,rfl,rfl,rfl,rfl,rfl,trivial⟩ ?_
 refine xK ?_
 refine zX ?_
 refine zI H ?_ ?_ <;> intro H
 refine zJ (α:=Unit) [0,3,4] (fun (s:Unit)=>[]) (fun (s:Unit) h=>oQ p0 a_ b_ k (fun s h'=>I1 s h'/\μ1 s h' < μ1 (a_,b_) h_1) (fun s h'=>I3 s h'/\μ3 s h' < μ3 d_ h_3) h) ?_ ?_
 rintro _ h_7 H
 refine zF [0,3,4] (zY (yE (yH ?_)))
 exact xJ a_ H
 refine zJ (α:=Bool) [0,3,4,5,6] (fun (s:Bool)=>[(108,.bool s)]) (fun (s:Bool) h=>nH p0 a_ b_ (ad b4) d_ s k (fun s h'=>I1 s h'/\μ1 s h' < μ1 (a_,b_) h_1) (fun s h'=>I3 s h'/\μ3 s h' < μ3 d_ h_3) h) ?_ ?_
 rintro n_ h_8 H
 refine zF [108,0,3,4,5,6] ?_
 refine zI H ?_ ?_ <;> intro H
 refine zR (w2 Z ?_)
 refine wLa Z H fun v11 H=>?_
 refine wD Z H fun a12 _ H=>?_
 refine wTa Z H fun h13 H=>?_
 refine zW ?_
 exact xJ () H
 refine zK ?_
 exact xJ () H
 refine gB [0,3,4,5,6] ?_
 refine gT 0 [5] Z ?_
 refine gla 1 [81] Z H fun v14 H=>?_
 refine gT 2 [3] Z ?_
 refine gT 3 [6] Z ?_
 refine gd 4 [83,84] Z H fun a15 H=>?_
 refine gT 5 [85] Z ?_
 refine gla 6 [86] Z H fun v16 H=>?_
 refine gC 7 [82,87] O59 (R59 _ _ _ _ H) fun r17 h18 H=>?_
 refine gT 8 [88] Z ?_
 refine gI 89 H (fun hb H=>?_) (fun hb H=>?_)
 refine gS 9 [5,89] ?_
 refine gS 10 [89,90] ?_
 refine gS 11 [3,89] ?_
 refine gS 12 [6,89] ?_
 refine gS 13 [89,92,93] ?_
 refine gS 14 [89,94] ?_
 refine gS 15 [89,95] ?_
 refine gS 16 [89,91,96] ?_
 refine gS 17 [89,97] ?_
 refine gS 18 [5,98] ?_
 refine gS 19 [98,99] ?_
 refine gS 20 [3,98] ?_
 refine gS 21 [6,98] ?_
 refine gS 22 [98,101,102] ?_
 refine gS 23 [98,103] ?_
 refine gS 24 [98,104] ?_
 refine gS 25 [98,100,105] ?_
 refine gS 26 [89,98,106] ?_
 refine gT 27 [89,107] Z ?_
 refine gZ ?_
 exact xJ true H
 refine gT 9 [5,89] Z ?_
 refine gla 10 [89,90] Z H fun v19 H=>?_
 refine gT 11 [3,89] Z ?_
 refine gT 12 [6,89] Z ?_
 refine gd 13 [89,92,93] Z H fun a20 H=>?_
 refine gT 14 [89,94] Z ?_
 refine gla 15 [89,95] Z H fun v21 H=>?_
 refine gY 16 [89,91,96] rfl (fun _=>GR (op:=.eql) (xs:=aG.cs v19) (ys:=aG.cs v21) (.inl rfl) rfl rfl rfl (ER v19 v21) (by kernel_rfl)) ?_
 refine gT 17 [89,97] Z ?_
 refine gI 98 H (fun hb H=>?_) (fun hb H=>?_)
 refine gT 18 [5,98] Z ?_
 refine gl 19 [98,99] Z H fun v22 H=>?_
 refine gT 20 [3,98] Z ?_
 refine gT 21 [6,98] Z ?_
 refine gd 22 [98,101,102] Z H fun a23 H=>?_
 refine gT 23 [98,103] Z ?_
 refine gl 24 [98,104] Z H fun v24 H=>?_
 refine gT 25 [98,100,105] Z ?_
 refine gT 26 [89,98,106] Z ?_
 refine gT 27 [89,107] Z ?_
 refine gZ ?_
 exact xJ (decide (v22 > v24)) H
 refine gS 18 [5,98] ?_
 refine gS 19 [98,99] ?_
 refine gS 20 [3,98] ?_
 refine gS 21 [6,98] ?_
 refine gS 22 [98,101,102] ?_
 refine gS 23 [98,103] ?_
 refine gS 24 [98,104] ?_
 refine gS 25 [98,100,105] ?_
 refine gT 26 [89,98,106] Z ?_
 refine gT 27 [89,107] Z ?_
 refine gZ ?_
 exact xJ false H
 refine zK (zX (zQ (w1 Z (zE (zQ ?_)))))
 refine w3 Z ?_
 obtain ⟨s25,ps25,qs25,rs25,ts25,es25,H⟩:=H
 refine wYe (Jg (s:=a_) (L:=0) (H:=d_) (M:=(a_.cap:Int)) Z rfl rfl rfl rfl rfl rfl rfl (by simp) ps25 qs25 rs25 ts25) (congrArg Slc.v es25) ?_
 obtain ⟨l28,hl28,H⟩:=H
 refine wA (ji (s:=(⟨none,0,0⟩:Slc)) (r:=s25) Z rfl rfl rfl rfl rfl hl28 H) ?_
 rintro _ h27 ⟨s26,rfl,H⟩
 refine w1 Z (zE (zQ ?_))
 refine w1 Z ?_
 refine wLa Z H fun v29 H=>?_
 obtain ⟨b30,h31,eb30,eh31,H⟩:=H
 refine wH (nJ Z rfl rfl rfl rfl rfl rfl rfl eb30 eh31) ?_
 refine wA (ji (s:=s26) (r:=(⟨some ⟨b30,0,none⟩,1,1⟩:Slc)) Z rfl rfl rfl rfl rfl (bT eb30 eh31) H) ?_
 rintro _ h33 ⟨s32,rfl,H⟩
 refine w1 Z (zE (zF [0,3,4,6,7] (zR ?_)))
 refine w3 Z ?_
 obtain ⟨s34,ps34,qs34,rs34,ts34,es34,H⟩:=H
 refine wYe (Jg (s:=a_) (L:=d_) (H:=(a_.len:Int)) (M:=(a_.cap:Int)) Z rfl rfl rfl rfl rfl rfl rfl (by simp) ps34 qs34 rs34 ts34) (congrArg Slc.v es34) ?_
 obtain ⟨l37,hl37,H⟩:=H
 refine wA (ji (s:=s32) (r:=s34) Z rfl rfl rfl rfl rfl hl37 H) ?_
 rintro _ h36 ⟨s35,rfl,H⟩
 refine w1 Z (zL ?_)
 exact xJ s35 H
 refine CR (d:=71) H rfl (fun H=>?_) (fun H=>?_)
 refine qp Z ?_
 refine qp Z ?_
 obtain ⟨a38,ha38,la38,ua38,H⟩:=H
 refine q_y (lh Z rfl rfl ha38 rfl rfl rfl la38 ua38) rfl rfl ?_
 refine qp Z ?_
 obtain ⟨v39,hv39,H⟩:=H
 refine q_y (fq Z rfl rfl rfl rfl hv39) rfl rfl ?_
 refine qp Z ?_
 obtain ⟨v40,hv40,H⟩:=H
 refine q_y (fq Z rfl rfl rfl rfl hv40) rfl rfl ?_
 refine qp Z ?_
 refine qp Z ?_
 exact Au (v39 == v40) H ⟨rfl,rfl,rfl,rfl,rfl,rfl,trivial⟩
 refine qs ?_
 refine qs ?_
 refine qs ?_
 refine qs ?_
 refine qs ?_
 refine qs ?_
 refine qs ?_
 refine qs ?_
 refine qp Z ?_
 exact Au false H ⟨rfl,rfl,rfl,rfl,rfl,rfl,trivial⟩
 refine CR (d:=61) H rfl (fun H=>?_) (fun H=>?_)
 refine qp Z ?_
 refine qp Z ?_
 obtain ⟨a41,ha41,la41,ua41,H⟩:=H
 refine q_y (lh Z rfl rfl ha41 rfl rfl rfl la41 ua41) rfl rfl ?_
 refine qp Z ?_
 obtain ⟨v42,hv42,H⟩:=H
 refine q_y (fq Z rfl rfl rfl rfl hv42) rfl rfl ?_
 refine qp Z ?_
 obtain ⟨v43,hv43,H⟩:=H
 refine q_y (fq Z rfl rfl rfl rfl hv43) rfl rfl ?_
 refine qp Z ?_
 refine qp Z ?_
 exact Au (v42.toList == v43.toList) H ⟨rfl,rfl,rfl,rfl,rfl,rfl,trivial⟩
 refine qs ?_
 refine qs ?_
 refine qs ?_
 refine qs ?_
 refine qs ?_
 refine qs ?_
 refine qs ?_
 refine qs ?_
 refine qp Z ?_
 exact Au false H ⟨rfl,rfl,rfl,rfl,rfl,rfl,trivial⟩
 refine CR (d:=25) H rfl (fun H=>?_) (fun H=>?_)
 refine qp Z ?_
 refine qp Z ?_
 obtain ⟨a44,ha44,la44,ua44,H⟩:=H
 refine q_y (lh Z rfl rfl ha44 rfl rfl rfl la44 ua44) rfl rfl ?_
 refine qp Z ?_
 obtain ⟨v45,hv45,H⟩:=H
 refine q_y (fq Z rfl rfl rfl rfl hv45) rfl rfl ?_
 refine qp Z ?_
 obtain ⟨v46,hv46,H⟩:=H
 refine q_y (fq Z rfl rfl rfl rfl hv46) rfl rfl ?_
 refine qp Z ?_
 refine qp Z ?_
 refine CG 19 (α:=Bool) (fun (s:Bool)=>[(53,.bool s),(0,Slc.v p0),(3,Slc.v a_),(4,.int .i64 b_),(5,pt b4),(6,.int .i64 d_),(25,.bool true)]) (fun (s:Bool)=>oI p0 a_ b_ (ad b4) d_ true s k (fun s h'=>I1 s h'/\μ1 s h' < μ1 (a_,b_) h_1) (fun s h'=>I3 s h'/\μ3 s h' < μ3 d_ h_3) h_3) ?_ ?_
 rintro f_ H
 refine zq [(53,.bool f_),(0,Slc.v p0),(3,Slc.v a_),(4,.int .i64 b_),(5,pt b4),(6,.int .i64 d_),(25,.bool true)] ⟨rfl,rfl,rfl,rfl,rfl,rfl,rfl,trivial⟩ ?_
 refine qp Z ?_
 exact Au f_ H ⟨rfl,rfl,rfl,rfl,rfl,rfl,trivial⟩
 refine CR (d:=34) H rfl (fun H=>?_) (fun H=>?_)
 refine qs ?_
 refine qs ?_
 refine qs ?_
 refine qs ?_
 refine qs ?_
 refine qs ?_
 refine qs ?_
 refine qs ?_
 refine qs ?_
 refine qs ?_
 refine qs ?_
 refine qs ?_
 refine qs ?_
 refine qs ?_
 refine qs ?_
 refine qs ?_
 refine qs ?_
 refine qs ?_
 refine qp Z ?_
 exact Au true H ⟨rfl,rfl,rfl,rfl,rfl,rfl,rfl,trivial⟩
 refine qp Z ?_
 refine qp Z ?_
 obtain ⟨a47,ha47,la47,ua47,H⟩:=H
 refine q_y (lh Z rfl rfl ha47 rfl rfl rfl la47 ua47) rfl rfl ?_
 refine qp Z ?_
 obtain ⟨v48,hv48,H⟩:=H
 refine q_y (fq Z rfl rfl rfl rfl hv48) rfl rfl ?_
 refine qp Z ?_
 obtain ⟨v49,hv49,H⟩:=H
 refine q_y (fq Z rfl rfl rfl rfl hv49) rfl rfl ?_
 refine qp Z ?_
 refine qp Z ?_
 refine CG 9 (α:=Bool) (fun (s:Bool)=>[(52,.bool s),(0,Slc.v p0),(3,Slc.v a_),(4,.int .i64 b_),(5,pt b4),(6,.int .i64 d_),(25,.bool true),(34,.bool false)]) (fun (s:Bool)=>qB p0 a_ b_ (ad b4) d_ true false s k (fun s h'=>I1 s h'/\μ1 s h' < μ1 (a_,b_) h_1) (fun s h'=>I3 s h'/\μ3 s h' < μ3 d_ h_3) h_3) ?_ ?_
 rintro g_ H
 refine zq [(52,.bool g_),(0,Slc.v p0),(3,Slc.v a_),(4,.int .i64 b_),(5,pt b4),(6,.int .i64 d_),(25,.bool true),(34,.bool false)] ⟨rfl,rfl,rfl,rfl,rfl,rfl,rfl,rfl,trivial⟩ ?_
 refine qp Z ?_
 exact Au g_ H ⟨rfl,rfl,rfl,rfl,rfl,rfl,rfl,trivial⟩
 refine CR (d:=43) H rfl (fun H=>?_) (fun H=>?_)
 refine qp Z ?_
 refine qp Z ?_
 obtain ⟨a50,ha50,la50,ua50,H⟩:=H
 refine q_y (lh Z rfl rfl ha50 rfl rfl rfl la50 ua50) rfl rfl ?_
 refine qp Z ?_
 obtain ⟨v51,hv51,H⟩:=H
 refine q_y (fq Z rfl rfl rfl rfl hv51) rfl rfl ?_
 refine qp Z ?_
 obtain ⟨v52,hv52,H⟩:=H
 refine q_y (fq Z rfl rfl rfl rfl hv52) rfl rfl ?_
 refine qp Z ?_
 refine qp Z ?_
 exact Au (decide (v51 < v52)) H ⟨rfl,rfl,rfl,rfl,rfl,rfl,rfl,rfl,trivial⟩
 refine qs ?_
 refine qs ?_
 refine qs ?_
 refine qs ?_
 refine qs ?_
 refine qs ?_
 refine qs ?_
 refine qs ?_
 refine qp Z ?_
 exact Au false H ⟨rfl,rfl,rfl,rfl,rfl,rfl,rfl,rfl,trivial⟩
 refine qs ?_
 refine qs ?_
 refine qs ?_
 refine qs ?_
 refine qs ?_
 refine qs ?_
 refine qs ?_
 refine qs ?_
 refine qs ?_
 refine qs ?_
 refine qs ?_
 refine qs ?_
 refine qs ?_
 refine qs ?_
 refine qs ?_
 refine qs ?_
 refine qs ?_
 refine qs ?_
 refine qs ?_
 refine qs ?_
 refine qs ?_
 refine qs ?_
 refine qs ?_
 refine qs ?_
 refine qs ?_
 refine qs ?_
 refine qs ?_
 refine qs ?_
 refine qp Z ?_
 exact Au false H ⟨rfl,rfl,rfl,rfl,rfl,rfl,trivial⟩
 refine zY (yE (yE (yH (zX (zQ (w2 Z (zE (zF [2] (zT ?_)))))))))
 exact aB _ rfl _ rfl ⟨a_,rfl,H⟩
theorem O60:aF prog 60:=ck func60
theorem R60 (p0 k h) (H:xC p0 k h):CallsH prog 60 #[.agg (aC.cs p0).toArray] h (rI .i64 k):=by
 refine fE func60 fun w0=>?_
 refine zF [0] (zQ ?_)
 refine wX H fun b1 h2 H=>?_
 refine w1 Z (zE (zS (zQ ?_)))
 refine w1 Z ?_
 refine wL Z H fun v3 H=>?_
 refine wC O88 (R88 _ _ _ H) fun r4 h5 H=>?_
 refine w3 Z ?_
 refine wB Z H fun b6 h7 H=>?_
 refine wTa Z H fun h8 H=>?_
 refine w1 Z (zE (zF [1,4] (zQ ?_)))
 refine w2 Z (zE ?_)
 refine zI H ?_ ?_ <;> intro H
 refine zQ (w1 Z (zE (zT (yT ?_))))
 exact aB _ rfl _ rfl ⟨4,rfl,H⟩
 refine zK (zX (zS (zQ (w1 Z ?_))))
 refine wL Z H fun v9 H=>?_
 refine w2 Z ?_
 refine vJ 4 (α:=Bool) [1] (fun (s:Bool)=>[(20,.bool s)]) (fun (s:Bool) h=>qP (ad b1) s k h) ?_ ?_
 rintro b_ h_1 H
 refine vF [20,1] ?_
 refine w1 Z ?_
 refine vJ 9 (α:=Bool) [] (fun (s:Bool)=>[(30,.bool s)]) (fun (s:Bool) h=>rV s k h) ?_ ?_
 rintro d_ h_2 H
 refine vF [30] (zE ?_)
 refine zI H ?_ ?_ <;> intro H
 refine zQ (w1 Z (zE (zT (yT ?_))))
 exact aB _ rfl _ rfl ⟨1,rfl,H⟩
 refine zK (zX (zQ (w1 Z (zE (zT ?_)))))
 exact aB _ rfl _ rfl ⟨0,rfl,H⟩
 refine vI 21 H ?_ ?_ <;> intro H
 refine wS (wS (wS (wS (wS (wS (wS (wS (w1 Z ?_))))))))
 exact wJ true H
 refine w1 Z ?_
 refine wL Z H fun v10 H=>?_
 refine w2 Z ?_
 refine vJ 4 (α:=Bool) [21] (fun (s:Bool)=>[(29,.bool s)]) (fun (s:Bool) h=>qW false s k h) ?_ ?_
 rintro a_ h_3 H
 refine vF [29,21] ?_
 refine w1 Z ?_
 exact wJ a_ H
 refine vI 25 H ?_ ?_ <;> intro H
 refine w1 Z ?_
 refine wL Z H fun v11 H=>?_
 refine w2 Z ?_
 exact wJ (decide (v11 < 1)) H
 refine wS (wS (wS (w1 Z ?_)))
 exact wJ false H
 refine vI 16 H ?_ ?_ <;> intro H
 refine wS (wS (wS (w1 Z ?_)))
 exact wJ true H
 refine w1 Z ?_
 refine wL Z H fun v12 H=>?_
 refine w2 Z ?_
 exact wJ (decide (v12 > 6)) H
theorem O61:aF prog 61:=ck func61
theorem R61 (p0 p1 p2 k h) (H:Bn p0 p1 p2 k h):CallsH prog 61 #[.agg (aC.cs p0).toArray,Slc.v p1,.int .i64 p2] h (rS k):=by
 refine fE func61 fun w0=>?_
 refine zF [0,1,2] (zQ ?_)
 refine wX H fun b1 h2 H=>?_
 refine w1 Z (zE (zQ ?_))
 refine w1 Z ?_
 refine wL Z H fun v3 H=>?_
 refine wC O88 (R88 _ _ _ H) fun r4 h5 H=>?_
 refine w3 Z ?_
 refine wB Z H fun b6 h7 H=>?_
 refine wTa Z H fun h8 H=>?_
 refine w1 Z (zE (zF [1,2,3,7] (zQ ?_)))
 refine w1 Z ?_
 refine wC O39 (R39 _ _ _ H) fun r9 h10 H=>?_
 refine w1 Z (zE (zQ ?_))
 refine w1 Z (zE (zS (zQ ?_)))
 refine w1 Z (zE (zB ?_))
 obtain ⟨I1,μ1,H0,HI⟩:=H
 refine zO (σ:=Slc × Int) [2,3,7,9] (fun (s:Slc × Int)=>[(10,Slc.v s.1),(11,.int .i64 s.2)]) I1 μ1 ((⟨none,0,0⟩:Slc),0) H0 ?_
 rintro ⟨a_,b_⟩ h_1 H
 replace H:=HI a_ b_ h_1 H
 refine zF [10,11,2,3,7,9] (zS (zQ ?_))
 refine w4 Z (zE ?_)
 refine zI H ?_ ?_ <;> intro H
 refine zK (zX ?_)
 refine zJ (α:=Slc) [2,3,7,9,11] (fun (s:Slc)=>[(10,Slc.v s)]) (fun (s:Slc) h=>vg p2 (ad b1) (ad b6) r9 b_ s k (fun s h'=>I1 s h'/\μ1 s h' < μ1 (a_,b_) h_1) h) ?_ ?_
 rintro d_ h_2 H
 refine zF [10,2,3,7,9,11] (zR ?_)
 refine w2 Z ?_
 refine wQ Z H fun x11 H=>?_
 refine zW ?_
 exact xJ (d_,x11) H
 refine zB (zQ (w2 Z ?_))
 refine wD Z H fun a12 _ H=>?_
 refine w1 Z ?_
 refine wL Z H fun v13 H=>?_
 refine wC O89 (R89 _ _ _ H) fun r14 h15 H=>?_
 refine w3 Z ?_
 refine wB Z H fun b16 h17 H=>?_
 refine wTa Z H fun h18 H=>?_
 refine w1 Z (zE (zF [10,11,2,3,7,9,12,13] ?_))
 refine zJ (α:=Bool) [2,3,7,9,10,11] (fun (s:Bool)=>[(71,.bool s)]) (fun (s:Bool) h=>bS p2 (ad b1) (ad b6) r9 a_ b_ s k (fun s h'=>I1 s h'/\μ1 s h' < μ1 (a_,b_) h_1) h) ?_ ?_
 rintro f_ h_3 H
 refine zF [71,2,3,7,9,10,11] ?_
 refine zI H ?_ ?_ <;> intro H
 refine zR (w3 Z ?_)
 refine wD Z H fun a19 _ H=>?_
 refine wLa Z H fun v20 H=>?_
 obtain ⟨b21,h22,eb21,eh22,H⟩:=H
 refine wH (nJ Z rfl rfl rfl rfl rfl rfl rfl eb21 eh22) ?_
 refine wA (ji (s:=a_) (r:=(⟨some ⟨b21,0,none⟩,1,1⟩:Slc)) Z rfl rfl rfl rfl rfl (bT eb21 eh22) H) ?_
 rintro _ h24 ⟨s23,rfl,H⟩
 refine w1 Z (zL ?_)
 exact xJ s23 H
 refine zK (yL ?_)
 exact xJ a_ H
 refine gB [2,3,7,9,10,11,12,13] ?_
 refine gT 0 [13] Z ?_
 refine gT 1 [37] Z ?_
 refine gI 38 H (fun hb H=>?_) (fun hb H=>?_)
 refine gla 2 [7,38] Z H fun v25 H=>?_
 refine gla 3 [12,38] Z H fun v26 H=>?_
 refine gC 4 [38,39,40] O90 (R90 _ _ _ _ H) fun r27 h28 H=>?_
 refine gT 5 [38,41] Z ?_
 refine gT 6 [42] Z ?_
 refine gI 43 H (fun hb H=>?_) (fun hb H=>?_)
 refine gT 7 [9,43] Z ?_
 refine gT 8 [11,43] Z ?_
 refine gd 9 [43,44,45] Z H fun a29 H=>?_
 refine gT 10 [43,46] Z ?_
 refine gl 11 [43,47] Z H fun v30 H=>?_
 refine gT 12 [3,43] Z ?_
 refine gl 13 [43,49] Z H fun v31 H=>?_
 refine gT 14 [43,48,50] Z ?_
 refine gT 15 [43,51] Z ?_
 refine gT 16 [52] Z ?_
 refine gI 53 H (fun hb H=>?_) (fun hb H=>?_)
 refine gT 17 [9,53] Z ?_
 refine gT 18 [11,53] Z ?_
 refine gd 19 [53,54,55] Z H fun a32 H=>?_
 refine gT 20 [53,56] Z ?_
 refine gl 21 [53,57] Z H fun v33 H=>?_
 refine gT 22 [2,53] Z ?_
 refine gT 23 [53,58,59] Z ?_
 refine gT 24 [53,60] Z ?_
 refine gT 25 [61] Z ?_
 refine gI 62 H (fun hb H=>?_) (fun hb H=>?_)
 refine gT 26 [9,62] Z ?_
 refine gT 27 [11,62] Z ?_
 refine gd 28 [62,63,64] Z H fun a34 H=>?_
 refine gT 29 [62,65] Z ?_
 refine gl 30 [62,66] Z H fun v35 H=>?_
 refine gT 31 [3,62] Z ?_
 refine gl 32 [62,68] Z H fun v36 H=>?_
 refine gT 33 [62,67,69] Z ?_
 refine gT 34 [62,70] Z ?_
 refine gZ ?_
 exact xJ (decide (v35<=v36)) H
 refine gS 26 [9,62] ?_
 refine gS 27 [11,62] ?_
 refine gS 28 [62,63,64] ?_
 refine gS 29 [62,65] ?_
 refine gS 30 [62,66] ?_
 refine gS 31 [3,62] ?_
 refine gS 32 [62,68] ?_
 refine gS 33 [62,67,69] ?_
 refine gT 34 [62,70] Z ?_
 refine gZ ?_
 exact xJ false H
 refine gS 17 [9,53] ?_
 refine gS 18 [11,53] ?_
 refine gS 19 [53,54,55] ?_
 refine gS 20 [53,56] ?_
 refine gS 21 [53,57] ?_
 refine gS 22 [2,53] ?_
 refine gS 23 [53,58,59] ?_
 refine gT 24 [53,60] Z ?_
 refine gT 25 [61] Z ?_
 refine gI 62 H (fun hb H=>?_) (fun hb H=>?_)
 refine gT 26 [9,62] Z ?_
 refine gT 27 [11,62] Z ?_
 refine gd 28 [62,63,64] Z H fun a37 H=>?_
 refine gT 29 [62,65] Z ?_
 refine gl 30 [62,66] Z H fun v38 H=>?_
 refine gT 31 [3,62] Z ?_
 refine gl 32 [62,68] Z H fun v39 H=>?_
 refine gT 33 [62,67,69] Z ?_
 refine gT 34 [62,70] Z ?_
 refine gZ ?_
 exact xJ (decide (v38<=v39)) H
 refine gS 26 [9,62] ?_
 refine gS 27 [11,62] ?_
 refine gS 28 [62,63,64] ?_
 refine gS 29 [62,65] ?_
 refine gS 30 [62,66] ?_
 refine gS 31 [3,62] ?_
 refine gS 32 [62,68] ?_
 refine gS 33 [62,67,69] ?_
 refine gT 34 [62,70] Z ?_
 refine gZ ?_
 exact xJ false H
 refine gS 7 [9,43] ?_
 refine gS 8 [11,43] ?_
 refine gS 9 [43,44,45] ?_
 refine gS 10 [43,46] ?_
 refine gS 11 [43,47] ?_
 refine gS 12 [3,43] ?_
 refine gS 13 [43,49] ?_
 refine gS 14 [43,48,50] ?_
 refine gT 15 [43,51] Z ?_
 refine gT 16 [52] Z ?_
 refine gI 53 H (fun hb H=>?_) (fun hb H=>?_)
 refine gT 17 [9,53] Z ?_
 refine gT 18 [11,53] Z ?_
 refine gd 19 [53,54,55] Z H fun a40 H=>?_
 refine gT 20 [53,56] Z ?_
 refine gl 21 [53,57] Z H fun v41 H=>?_
 refine gT 22 [2,53] Z ?_
 refine gT 23 [53,58,59] Z ?_
 refine gT 24 [53,60] Z ?_
 refine gT 25 [61] Z ?_
 refine gI 62 H (fun hb H=>?_) (fun hb H=>?_)
 refine gT 26 [9,62] Z ?_
 refine gT 27 [11,62] Z ?_
 refine gd 28 [62,63,64] Z H fun a42 H=>?_
 refine gT 29 [62,65] Z ?_
 refine gl 30 [62,66] Z H fun v43 H=>?_
 refine gT 31 [3,62] Z ?_
 refine gl 32 [62,68] Z H fun v44 H=>?_
 refine gT 33 [62,67,69] Z ?_
 refine gT 34 [62,70] Z ?_
 refine gZ ?_
 exact xJ (decide (v43<=v44)) H
 refine gS 26 [9,62] ?_
 refine gS 27 [11,62] ?_
 refine gS 28 [62,63,64] ?_
 refine gS 29 [62,65] ?_
 refine gS 30 [62,66] ?_
 refine gS 31 [3,62] ?_
 refine gS 32 [62,68] ?_
 refine gS 33 [62,67,69] ?_
 refine gT 34 [62,70] Z ?_
 refine gZ ?_
 exact xJ false H
 refine gS 17 [9,53] ?_
 refine gS 18 [11,53] ?_
 refine gS 19 [53,54,55] ?_
 refine gS 20 [53,56] ?_
 refine gS 21 [53,57] ?_
 refine gS 22 [2,53] ?_
 refine gS 23 [53,58,59] ?_
 refine gT 24 [53,60] Z ?_
 refine gT 25 [61] Z ?_
 refine gI 62 H (fun hb H=>?_) (fun hb H=>?_)
 refine gT 26 [9,62] Z ?_
 refine gT 27 [11,62] Z ?_
 refine gd 28 [62,63,64] Z H fun a45 H=>?_
 refine gT 29 [62,65] Z ?_
 refine gl 30 [62,66] Z H fun v46 H=>?_
 refine gT 31 [3,62] Z ?_
 refine gl 32 [62,68] Z H fun v47 H=>?_
 refine gT 33 [62,67,69] Z ?_
 refine gT 34 [62,70] Z ?_
 refine gZ ?_
 exact xJ (decide (v46<=v47)) H
 refine gS 26 [9,62] ?_
 refine gS 27 [11,62] ?_
 refine gS 28 [62,63,64] ?_
 refine gS 29 [62,65] ?_
 refine gS 30 [62,66] ?_
 refine gS 31 [3,62] ?_
 refine gS 32 [62,68] ?_
 refine gS 33 [62,67,69] ?_
 refine gT 34 [62,70] Z ?_
 refine gZ ?_
 exact xJ false H
 refine gS 2 [7,38] ?_
 refine gS 3 [12,38] ?_
 refine gS 4 [38,39,40] ?_
 refine gT 5 [38,41] Z ?_
 refine gT 6 [42] Z ?_
 refine gI 43 H (fun hb H=>?_) (fun hb H=>?_)
 refine gT 7 [9,43] Z ?_
 refine gT 8 [11,43] Z ?_
 refine gd 9 [43,44,45] Z H fun a48 H=>?_
 refine gT 10 [43,46] Z ?_
 refine gl 11 [43,47] Z H fun v49 H=>?_
 refine gT 12 [3,43] Z ?_
 refine gl 13 [43,49] Z H fun v50 H=>?_
 refine gT 14 [43,48,50] Z ?_
 refine gT 15 [43,51] Z ?_
 refine gT 16 [52] Z ?_
 refine gI 53 H (fun hb H=>?_) (fun hb H=>?_)
 refine gT 17 [9,53] Z ?_
 refine gT 18 [11,53] Z ?_
 refine gd 19 [53,54,55] Z H fun a51 H=>?_
 refine gT 20 [53,56] Z ?_
 refine gl 21 [53,57] Z H fun v52 H=>?_
 refine gT 22 [2,53] Z ?_
 refine gT 23 [53,58,59] Z ?_
 refine gT 24 [53,60] Z ?_
 refine gT 25 [61] Z ?_
 refine gI 62 H (fun hb H=>?_) (fun hb H=>?_)
 refine gT 26 [9,62] Z ?_
 refine gT 27 [11,62] Z ?_
 refine gd 28 [62,63,64] Z H fun a53 H=>?_
 refine gT 29 [62,65] Z ?_
 refine gl 30 [62,66] Z H fun v54 H=>?_
 refine gT 31 [3,62] Z ?_
 refine gl 32 [62,68] Z H fun v55 H=>?_
 refine gT 33 [62,67,69] Z ?_
 refine gT 34 [62,70] Z ?_
 refine gZ ?_
 exact xJ (decide (v54<=v55)) H
 refine gS 26 [9,62] ?_
 refine gS 27 [11,62] ?_
 refine gS 28 [62,63,64] ?_
 refine gS 29 [62,65] ?_
 refine gS 30 [62,66] ?_
 refine gS 31 [3,62] ?_
 refine gS 32 [62,68] ?_
 refine gS 33 [62,67,69] ?_
 refine gT 34 [62,70] Z ?_
 refine gZ ?_
 exact xJ false H
 refine gS 17 [9,53] ?_
 refine gS 18 [11,53] ?_
 refine gS 19 [53,54,55] ?_
 refine gS 20 [53,56] ?_
 refine gS 21 [53,57] ?_
 refine gS 22 [2,53] ?_
 refine gS 23 [53,58,59] ?_
 refine gT 24 [53,60] Z ?_
 refine gT 25 [61] Z ?_
 refine gI 62 H (fun hb H=>?_) (fun hb H=>?_)
 refine gT 26 [9,62] Z ?_
 refine gT 27 [11,62] Z ?_
 refine gd 28 [62,63,64] Z H fun a56 H=>?_
 refine gT 29 [62,65] Z ?_
 refine gl 30 [62,66] Z H fun v57 H=>?_
 refine gT 31 [3,62] Z ?_
 refine gl 32 [62,68] Z H fun v58 H=>?_
 refine gT 33 [62,67,69] Z ?_
 refine gT 34 [62,70] Z ?_
 refine gZ ?_
 exact xJ (decide (v57<=v58)) H
 refine gS 26 [9,62] ?_
 refine gS 27 [11,62] ?_
 refine gS 28 [62,63,64] ?_
 refine gS 29 [62,65] ?_
 refine gS 30 [62,66] ?_
 refine gS 31 [3,62] ?_
 refine gS 32 [62,68] ?_
 refine gS 33 [62,67,69] ?_
 refine gT 34 [62,70] Z ?_
 refine gZ ?_
 exact xJ false H
 refine gS 7 [9,43] ?_
 refine gS 8 [11,43] ?_
 refine gS 9 [43,44,45] ?_
 refine gS 10 [43,46] ?_
 refine gS 11 [43,47] ?_
 refine gS 12 [3,43] ?_
 refine gS 13 [43,49] ?_
 refine gS 14 [43,48,50] ?_
 refine gT 15 [43,51] Z ?_
 refine gT 16 [52] Z ?_
 refine gI 53 H (fun hb H=>?_) (fun hb H=>?_)
 refine gT 17 [9,53] Z ?_
 refine gT 18 [11,53] Z ?_
 refine gd 19 [53,54,55] Z H fun a59 H=>?_
 refine gT 20 [53,56] Z ?_
 refine gl 21 [53,57] Z H fun v60 H=>?_
 refine gT 22 [2,53] Z ?_
 refine gT 23 [53,58,59] Z ?_
 refine gT 24 [53,60] Z ?_
 refine gT 25 [61] Z ?_
 refine gI 62 H (fun hb H=>?_) (fun hb H=>?_)
 refine gT 26 [9,62] Z ?_
 refine gT 27 [11,62] Z ?_
 refine gd 28 [62,63,64] Z H fun a61 H=>?_
 refine gT 29 [62,65] Z ?_
 refine gl 30 [62,66] Z H fun v62 H=>?_
 refine gT 31 [3,62] Z ?_
 refine gl 32 [62,68] Z H fun v63 H=>?_
 refine gT 33 [62,67,69] Z ?_
 refine gT 34 [62,70] Z ?_
 refine gZ ?_
 exact xJ (decide (v62<=v63)) H
 refine gS 26 [9,62] ?_
 refine gS 27 [11,62] ?_
 refine gS 28 [62,63,64] ?_
 refine gS 29 [62,65] ?_
 refine gS 30 [62,66] ?_
 refine gS 31 [3,62] ?_
 refine gS 32 [62,68] ?_
 refine gS 33 [62,67,69] ?_
 refine gT 34 [62,70] Z ?_
 refine gZ ?_
 exact xJ false H
 refine gS 17 [9,53] ?_
 refine gS 18 [11,53] ?_
 refine gS 19 [53,54,55] ?_
 refine gS 20 [53,56] ?_
 refine gS 21 [53,57] ?_
 refine gS 22 [2,53] ?_
 refine gS 23 [53,58,59] ?_
 refine gT 24 [53,60] Z ?_
 refine gT 25 [61] Z ?_
 refine gI 62 H (fun hb H=>?_) (fun hb H=>?_)
 refine gT 26 [9,62] Z ?_
 refine gT 27 [11,62] Z ?_
 refine gd 28 [62,63,64] Z H fun a64 H=>?_
 refine gT 29 [62,65] Z ?_
 refine gl 30 [62,66] Z H fun v65 H=>?_
 refine gT 31 [3,62] Z ?_
 refine gl 32 [62,68] Z H fun v66 H=>?_
 refine gT 33 [62,67,69] Z ?_
 refine gT 34 [62,70] Z ?_
 refine gZ ?_
 exact xJ (decide (v65<=v66)) H
 refine gS 26 [9,62] ?_
 refine gS 27 [11,62] ?_
 refine gS 28 [62,63,64] ?_
 refine gS 29 [62,65] ?_
 refine gS 30 [62,66] ?_
 refine gS 31 [3,62] ?_
 refine gS 32 [62,68] ?_
 refine gS 33 [62,67,69] ?_
 refine gT 34 [62,70] Z ?_
 refine gZ ?_
 exact xJ false H
 refine zY (yE (yE (yH (zX (zF [10] (zQ ?_))))))
 refine w2 Z (zE (zT ?_))
 exact aB _ rfl _ rfl ⟨a_,rfl,H⟩
theorem O40:aF prog 40:=ck func40
theorem R40 (p0 p1 p2 k h) (H:BK p0 p1 p2 k h):CallsH prog 40 #[.agg (aC.cs p0).toArray,Slc.v p1,.int .i64 p2] h (fun v h'=>∃ r:Slc × Int,v = .tuple #[Slc.v r.1,.int .i64 r.2]/\k r h'):=by
 refine fE func40 fun w0=>?_
 refine zF [0,1,2] (zQ ?_)
 refine wX H fun b1 h2 H=>?_
 refine w2 Z (zE (zS (zQ ?_)))
 refine wLa Z H fun v3 H=>?_
 refine wC O60 (R60 _ _ _ H) fun r4 h5 H=>?_
 refine w1 Z (zE (zQ ?_))
 refine w2 Z (zE ?_)
 refine zI H ?_ ?_ <;> intro H
 refine zQ (w3 Z (zE (zF [6,7] (zT (yT ?_)))))
 exact aB _ rfl _ rfl ⟨((⟨none,0,0⟩:Slc),r4),rfl,H⟩
 refine zK (zX (zF [1,2,3] (zQ ?_)))
 refine wLa Z H fun v6 H=>?_
 refine w2 Z ?_
 refine wC O61 (R61 _ _ _ _ _ H) fun r7 h8 H=>?_
 refine w1 Z (zE (zQ ?_))
 refine w1 Z (zE (zS (zQ ?_)))
 refine w1 Z (zE (zB ?_))
 obtain ⟨I1,μ1,H0,HI⟩:=H
 refine zO (σ:=Slc × Int) [3,9] (fun (s:Slc × Int)=>[(10,Slc.v s.1),(11,.int .i64 s.2)]) I1 μ1 ((⟨none,0,0⟩:Slc),0) H0 ?_
 rintro ⟨a_,b_⟩ h_1 H
 replace H:=HI a_ b_ h_1 H
 refine zF [10,11,3,9] (zS (zQ ?_))
 refine w4 Z (zE ?_)
 refine zI H ?_ ?_ <;> intro H
 refine zK (zX (zB (zQ (w2 Z (zE (zS (zB ?_)))))))
 obtain ⟨I2,μ2,H0,HI⟩:=H
 refine zO (σ:=Int) [3,9,10,11] (fun (s:Int)=>[(12,.int .i64 s)]) I2 μ2 b_ H0 ?_
 rintro d_ h_2 H
 replace H:=HI d_ h_2 H
 refine zF [12,3,9,10,11] (zS (zS ?_))
 refine qZ (by kernel_rfl) (by kernel_rfl) ?_
 refine qp Z ?_
 refine qp Z ?_
 refine qp Z ?_
 refine qp Z ?_
 refine qp Z ?_
 refine CG 12 (α:=Bool) (fun (s:Bool)=>[(59,.bool s),(3,pt b1),(9,Slc.v r7),(10,Slc.v a_),(11,.int .i64 b_),(12,.int .i64 d_)]) (fun (s:Bool)=>nP (ad b1) r7 a_ b_ d_ s k (fun s h'=>I1 s h'/\μ1 s h' < μ1 (a_,b_) h_1) (fun s h'=>I2 s h'/\μ2 s h' < μ2 d_ h_2) h_2) ?_ ?_
 rintro p_ H
 refine zq [(59,.bool p_),(3,pt b1),(9,Slc.v r7),(10,Slc.v a_),(11,.int .i64 b_),(12,.int .i64 d_)] ⟨rfl,rfl,rfl,rfl,rfl,rfl,trivial⟩ ?_
 refine xK ?_
 refine zX ?_
 refine zI H ?_ ?_ <;> intro H
 refine zK (zX (zB (zR (w2 Z ?_))))
 refine wQ Z H fun x9 H=>?_
 refine zL ?_
 exact xJ x9 H
 refine zY (yE (yE (yH (zX (zS ?_)))))
 refine gB [3,9,10,11,12] ?_
 refine gY 0 [] rfl (fun _=>bU Z rfl rfl rfl rfl rfl) ?_
 refine gT 1 [9] Z ?_
 refine gT 2 [11] Z ?_
 refine gd 3 [63,64] Z H fun a10 H=>?_
 refine gT 4 [65] Z ?_
 refine gl 5 [66] Z H fun v11 H=>?_
 refine gT 6 [9] Z ?_
 refine gT 7 [11] Z ?_
 refine gd 8 [68,69] Z H fun a12 H=>?_
 refine gT 9 [70] Z ?_
 refine gl 10 [71] Z H fun v13 H=>?_
 obtain ⟨b14,h15,eb14,eh15,H⟩:=H
 refine gHr 11 [] rfl (tH Z rfl rfl eb14 eh15) ?_
 obtain ⟨hy16,hy17,H⟩:=H
 refine gR rfl (fq Z rfl rfl rfl rfl hy16) ?_
 refine gR rfl (fq Z rfl rfl rfl rfl hy17) ?_
 refine gZ0 ?_
 obtain ⟨h18,wh18,eh18,H⟩:=H
 refine gHr 12 [13,62] rfl (si Z rfl rfl rfl rfl rfl (yV (by kernel_rfl)) wh18 eh18) ?_
 obtain ⟨hy19,hy20,H⟩:=H
 refine gR rfl (fq Z rfl rfl rfl rfl hy19) ?_
 refine gR rfl (fq Z rfl rfl rfl rfl hy20) ?_
 refine gZ0 ?_
 refine gT 13 [67] Z ?_
 refine gT 14 [72] Z ?_
 refine gZ ?_
 refine zX (zF [3,9,10,11,12,13,14,15] (zS (zQ ?_)))
 refine w2 Z (zE (zB ?_))
 obtain ⟨I4,μ4,H0,HI⟩:=H
 refine zO (σ:=Int × Int × Int) [3,9,10,11,12,13] (fun (s:Int × Int × Int)=>[(14,.int .i64 s.1),(15,.int .i64 s.2.1),(16,.int .i64 s.2.2)]) I4 μ4 (v11,v13,b_) H0 ?_
 rintro ⟨f_,g_,h_⟩ h_4 H
 replace H:=HI f_ g_ h_ h_4 H
 refine zF [14,15,16,3,9,10,11,12,13] (zS (zQ ?_))
 refine w3 Z (zE ?_)
 refine zI H ?_ ?_ <;> intro H
 refine zK (zX (zS (zB (zS ?_))))
 refine gB [3,9,10,11,12,13,14,15,16] ?_
 refine gla 0 [13] Z H fun v21 H=>?_
 refine gT 1 [9] Z ?_
 refine gT 2 [16] Z ?_
 refine gd 3 [81,82] Z H fun a22 H=>?_
 refine gT 4 [83] Z ?_
 refine gl 5 [84] Z H fun v23 H=>?_
 refine gCr 6 [85] O63 (R63 _ _ _ H) fun r24 h25 H=>?_
 obtain ⟨hy26,H⟩:=H
 refine gR rfl (fC Z rfl rfl rfl rfl rfl hy26) ?_
 refine gZ0 ?_
 refine gC 7 [80,86] O62 (R62 _ _ _ _ H) fun r27 h28 H=>?_
 refine gT 8 [87] Z ?_
 refine gT 9 [79] Z ?_
 refine gT 10 [79] Z ?_
 obtain ⟨h29,wh29,eh29,H⟩:=H
 refine gH 11 [13,88] rfl (si Z rfl rfl rfl rfl rfl (yV (by kernel_rfl)) wh29 eh29) ?_
 refine gZ ?_
 refine zX (zF [3,9,10,11,12,13,14,15,16] (zQ ?_))
 refine w3 Z ?_
 refine wD Z H fun a30 _ H=>?_
 refine w1 Z ?_
 refine wL Z H fun v31 H=>?_
 refine w1 Z ?_
 refine wQ Z H fun x32 H=>?_
 refine zE (zF [3,9,10,11,12,13,14,15,16] (zR ?_))
 refine w3 Z ?_
 refine wD Z H fun a33 _ H=>?_
 refine w1 Z ?_
 refine wL Z H fun v34 H=>?_
 refine w1 Z ?_
 refine wQ Z H fun x35 H=>?_
 refine zL (zX (zF [3,9,10,11,12,13,14,15,16] (zR ?_)))
 refine w2 Z ?_
 refine wQ Z H fun x36 H=>?_
 refine zW ?_
 exact xJ (x32,x35,x36) H
 refine zY (yE (yE (yH (zX (zQ (w2 Z ?_))))))
 refine wD Z H fun a37 _ H=>?_
 refine w1 Z ?_
 refine wL Z H fun v38 H=>?_
 refine wY (bU Z rfl rfl rfl rfl rfl) ?_
 refine wB Z H fun b39 h40 H=>?_
 refine wTa Z H fun h41 H=>?_
 refine zE (zF [14,15,3,9,10,11,12,13,17] ?_)
 refine zJ (α:=Slc) [3,9,11,12,17] (fun (s:Slc)=>[(10,Slc.v s)]) (fun (s:Slc) h=>dR (ad b1) r7 b_ d_ (ad b39) s k (fun s h'=>I1 s h'/\μ1 s h' < μ1 (a_,b_) h_1) (fun s h'=>I2 s h'/\μ2 s h' < μ2 d_ h_2) (fun s h'=>I4 s h'/\μ4 s h' < μ4 (f_,g_,h_) h_4) h) ?_ ?_
 rintro l_ h_5 H
 refine zF [10,3,9,11,12,17] ?_
 refine zJ (α:=Slc) [3,9,12] (fun (s:Slc)=>[(10,Slc.v s)]) (fun (s:Slc) h=>qV (ad b1) r7 d_ s k (fun s h'=>I1 s h'/\μ1 s h' < μ1 (a_,b_) h_1) (fun s h'=>I2 s h'/\μ2 s h' < μ2 d_ h_2) (fun s h'=>I4 s h'/\μ4 s h' < μ4 (f_,g_,h_) h_4) h) ?_ ?_
 rintro r_ h_6 H
 refine zF [10,3,9,12] (zR ?_)
 refine w2 Z (zL ?_)
 exact xJ (r_,d_) H
 refine zQ (w1 Z ?_)
 refine wL Z H fun v42 H=>?_
 refine w2 Z ?_
 refine vJ 4 (α:=Bool) [3,9,10,11,12,17] (fun (s:Bool)=>[(276,.bool s)]) (fun (s:Bool) h=>pV (ad b1) r7 l_ b_ d_ (ad b39) s k (fun s h'=>I1 s h'/\μ1 s h' < μ1 (a_,b_) h_1) (fun s h'=>I2 s h'/\μ2 s h' < μ2 d_ h_2) (fun s h'=>I4 s h'/\μ4 s h' < μ4 (f_,g_,h_) h_4) h) ?_ ?_
 rintro x_ h_7 H
 refine vF [276,3,9,10,11,12,17] ?_
 refine w1 Z ?_
 refine vJ 10 (α:=Bool) [3,9,10,12,17] (fun (s:Bool)=>[(287,.bool s)]) (fun (s:Bool) h=>pO (ad b1) r7 l_ d_ (ad b39) s k (fun s h'=>I1 s h'/\μ1 s h' < μ1 (a_,b_) h_1) (fun s h'=>I2 s h'/\μ2 s h' < μ2 d_ h_2) (fun s h'=>I4 s h'/\μ4 s h' < μ4 (f_,g_,h_) h_4) h) ?_ ?_
 rintro y_ h_8 H
 refine vF [287,3,9,10,12,17] (zE ?_)
 refine zI H ?_ ?_ <;> intro H
 refine zR (w1 Z ?_)
 refine wLa Z H fun v43 H=>?_
 obtain ⟨b44,h45,eb44,eh45,H⟩:=H
 refine wH (nJ Z rfl rfl rfl rfl rfl rfl rfl eb44 eh45) ?_
 refine wA (ji (s:=l_) (r:=(⟨some ⟨b44,0,none⟩,1,1⟩:Slc)) Z rfl rfl rfl rfl rfl (bT eb44 eh45) H) ?_
 rintro _ h47 ⟨s46,rfl,H⟩
 refine w1 Z (zW ?_)
 exact xJ s46 H
 refine zK ?_
 exact xJ l_ H
 refine vI 277 H ?_ ?_ <;> intro H
 refine wS (wS (wS (wS (wS (wS (wS (wS (wS (w1 Z ?_)))))))))
 exact wJ true H
 refine w1 Z ?_
 refine wL Z H fun v48 H=>?_
 refine w2 Z ?_
 refine vU 5 [3,9,10,12,17,277] [(286,.bool ((v48 == 5) && (decide ((IntKind.i64.wrap (d_ - b_)) > 1))))] ?_ ?_
 refine w1 Z ?_
 exact wJ ((v48 == 5) && (decide ((IntKind.i64.wrap (d_ - b_)) > 1))) H
 refine vG (d:=281) (fun hb=>?_) (fun hb=>?_)
 refine w5 Z ?_
 refine vK ?_
 exact congrArg (fun b=>some (Value.bool b)) (jD hb)
 refine wS (wS (wS (wS (w1 Z ?_))))
 refine vK ?_
 exact congrArg (fun b=>some (Value.bool b)) (jH hb)
 refine vI 272 H ?_ ?_ <;> intro H
 refine w1 Z ?_
 refine wL Z H fun v49 H=>?_
 refine w2 Z ?_
 exact wJ (decide (v49<=4)) H
 refine wS (wS (wS (w1 Z ?_)))
 exact wJ false H
 refine zQ (w1 Z ?_)
 refine wL Z H fun v50 H=>?_
 refine zE (zB (zQ (w2 Z (zE ?_))))
 refine zI H ?_ ?_ <;> intro H
 refine zQ (w2 Z (zE (zF [3,9,10,11,12,17,18] (zB ?_))))
 obtain ⟨I9,μ9,H0,HI⟩:=H
 refine zO (σ:=Slc × Int) [3,9,11,12,17] (fun (s:Slc × Int)=>[(10,Slc.v s.1),(18,.int .i64 s.2)]) I9 μ9 (a_,b_) H0 ?_
 rintro ⟨m_,t_⟩ h_9 H
 replace H:=HI m_ t_ h_9 H
 refine zF [10,18,3,9,11,12,17] (zS (zQ ?_))
 refine w3 Z (zE ?_)
 refine zI H ?_ ?_ <;> intro H
 refine zK (zX (zS (zB ?_)))
 refine gB [3,9,10,11,12,17,18] ?_
 refine gT 0 [10] Z ?_
 refine gT 1 [9] Z ?_
 refine gT 2 [18] Z ?_
 refine gd 3 [121,122] Z H fun a51 H=>?_
 refine gT 4 [123] Z ?_
 refine gl 5 [124] Z H fun v52 H=>?_
 refine gT 6 [9] Z ?_
 refine gT 7 [18] Z ?_
 refine gd 8 [126,127] Z H fun a53 H=>?_
 refine gT 9 [128] Z ?_
 refine gl 10 [129] Z H fun v54 H=>?_
 refine gT 11 [9] Z ?_
 refine gT 12 [18] Z ?_
 refine gd 13 [131,132] Z H fun a55 H=>?_
 refine gT 14 [133] Z ?_
 refine gl 15 [134] Z H fun v56 H=>?_
 refine gCr 16 [135] O63 (R63 _ _ _ H) fun r57 h58 H=>?_
 obtain ⟨hy59,hy60,H⟩:=H
 refine gR rfl (fq Z rfl rfl rfl rfl hy59) ?_
 refine gR rfl (fq Z rfl rfl rfl rfl hy60) ?_
 refine gZ0 ?_
 refine gY 17 [125,130,136] rfl (fun _=>bU Z rfl rfl rfl rfl rfl) ?_
 obtain ⟨b61,h62,eb61,eh62,H⟩:=H
 refine gH 18 [137] rfl (nJ Z rfl rfl rfl rfl rfl rfl rfl eb61 eh62) ?_
 refine gA 19 [120,138] rfl (ji (s:=m_) (r:=(⟨some ⟨b61,0,none⟩,1,1⟩:Slc)) Z rfl rfl rfl rfl rfl (bT eb61 eh62) H) ?_
 rintro _ h64 ⟨s63,rfl,H⟩
 refine gT 20 [139] Z ?_
 refine gZ ?_
 refine yL (zX (zF [3,9,10,11,12,17,18] (zR ?_)))
 refine w2 Z ?_
 refine wQ Z H fun x65 H=>?_
 refine zW ?_
 exact xJ (s63,x65) H
 refine zY (yE (yE (yH (yL ?_))))
 exact xJ m_ H
 refine zQ (w2 Z (zE ?_))
 refine zI H ?_ ?_ <;> intro H
 refine zR (w3 Z ?_)
 refine wC O63 (R63 _ _ _ H) fun r66 h67 H=>?_
 refine w1 Z ?_
 refine wTa Z H fun h68 H=>?_
 refine zL ?_
 exact xJ a_ H
 refine zQ (w2 Z (zE ?_))
 refine zI H ?_ ?_ <;> intro H
 refine zR ?_
 refine wLa Z H fun v69 H=>?_
 refine w1 Z ?_
 refine wTa Z H fun h70 H=>?_
 refine zL ?_
 exact xJ a_ H
 refine zQ (w2 Z (zE (zF [14,15,3,9,10,11,12,17,111,151] ?_)))
 refine zI H ?_ ?_ <;> intro H
 refine zR (w1 Z ?_)
 refine wC O63 (R63 _ _ _ H) fun r71 h72 H=>?_
 refine w1 Z ?_
 refine wTa Z H fun h73 H=>?_
 refine zL ?_
 exact xJ a_ H
 refine zQ (w2 Z (zE ?_))
 refine zI H ?_ ?_ <;> intro H
 refine zR (w1 Z ?_)
 refine wC O63 (R63 _ _ _ H) fun r74 h75 H=>?_
 refine w1 Z ?_
 refine wTa Z H fun h76 H=>?_
 refine zL ?_
 exact xJ a_ H
 refine zQ (w2 Z (zE ?_))
 refine zI H ?_ ?_ <;> intro H
 refine zJ (α:=Addr × Addr) [3,9,10,11,12,17] (fun (s:Addr × Addr)=>[(19,.pointer (some s.1)),(20,.pointer (some s.2))]) (fun (s:Addr × Addr) h=>oq (ad b1) r7 a_ b_ d_ (ad b39) s.1 s.2 k (fun s h'=>I1 s h'/\μ1 s h' < μ1 (a_,b_) h_1) (fun s h'=>I2 s h'/\μ2 s h' < μ2 d_ h_2) (fun s h'=>I4 s h'/\μ4 s h' < μ4 (f_,g_,h_) h_4) h) ?_ ?_
 rintro ⟨u_,v_⟩ h_10 H
 refine zF [19,20,3,9,10,11,12,17] (zQ ?_)
 refine w4 Z (zE ?_)
 refine zI H ?_ ?_ <;> intro H
 refine zS (zQ (w1 Z ?_))
 refine wL Z H fun v77 H=>?_
 refine w1 Z ?_
 refine wL Z H fun v78 H=>?_
 refine wC O64 (R64 _ _ _ _ H) fun r79 h80 H=>?_
 refine w2 Z ?_
 refine vJ 7 (α:=Bool) [3,9,10,11,12,17,19,20] (fun (s:Bool)=>[(189,.bool s)]) (fun (s:Bool) h=>ou (ad b1) r7 a_ b_ d_ (ad b39) u_ v_ s k (fun s h'=>I1 s h'/\μ1 s h' < μ1 (a_,b_) h_1) (fun s h'=>I2 s h'/\μ2 s h' < μ2 d_ h_2) (fun s h'=>I4 s h'/\μ4 s h' < μ4 (f_,g_,h_) h_4) h) ?_ ?_
 rintro z_ h_11 H
 refine vF [189,3,9,10,11,12,17,19,20] (zE ?_)
 refine zI H ?_ ?_ <;> intro H
 refine zQ (w2 Z (zE (zF [6,7] (zT (yT (yB (yT (yB (yT (yB (yT ?_)))))))))))
 exact aB _ rfl _ rfl ⟨((⟨none,0,0⟩:Slc),19),rfl,H⟩
 refine zK (zX (zQ (w1 Z ?_)))
 refine wL Z H fun v81 H=>?_
 refine w1 Z ?_
 refine wL Z H fun v82 H=>?_
 refine w2 Z ?_
 refine wL Z H fun v83 H=>?_
 refine w1 Z ?_
 refine wL Z H fun v84 H=>?_
 refine w1 Z ?_
 refine wC O65 (R65 _ _ _ _ H) fun r85 h86 H=>?_
 refine w5 Z (zE (zF [3,9,10,11,12,17,21] (zR ?_)))
 refine w1 Z ?_
 refine wC O63 (R63 _ _ _ H) fun r87 h88 H=>?_
 refine w1 Z ?_
 refine wTa Z H fun h89 H=>?_
 refine zL ?_
 exact xJ a_ H
 refine vI 182 H ?_ ?_ <;> intro H
 refine wS (wS (wS (wS (wS (wS (w1 Z ?_))))))
 exact wJ true H
 refine w1 Z ?_
 refine wL Z H fun v90 H=>?_
 refine w1 Z ?_
 refine wL Z H fun v91 H=>?_
 refine wC O64 (R64 _ _ _ _ H) fun r92 h93 H=>?_
 refine w2 Z ?_
 exact wJ (!r92) H
 refine zK (yL ?_)
 exact xJ a_ H
 refine gB [3,9,10,11,12,17] ?_
 refine gT 0 [9] Z ?_
 refine gT 1 [11] Z ?_
 refine gd 2 [163,164] Z H fun a94 H=>?_
 refine gla 3 [165] Z H fun v95 H=>?_
 refine gT 4 [9] Z ?_
 refine gT 5 [12] Z ?_
 refine gT 6 [168] Z ?_
 refine gd 7 [167,169] Z H fun a96 H=>?_
 refine gla 8 [170] Z H fun v97 H=>?_
 refine gO 9 10 H (fun H=>?_) (fun H=>?_)
 obtain ⟨b98,h99,eb98,eh99,H⟩:=H
 refine NQ 9 [] rfl (tH Z rfl rfl eb98 eh99) ?_
 obtain ⟨hy100,hy101,H⟩:=H
 refine gR rfl (fC Z rfl rfl rfl rfl rfl hy100) ?_
 refine gR rfl (fC Z rfl rfl rfl rfl rfl hy101) ?_
 refine gZ0 ?_
 obtain ⟨b102,h103,eb102,eh103,H⟩:=H
 refine gHr 10 [] rfl (tH Z rfl rfl eb102 eh103) ?_
 obtain ⟨hy104,hy105,H⟩:=H
 refine gR rfl (fC Z rfl rfl rfl rfl rfl hy104) ?_
 refine gR rfl (fC Z rfl rfl rfl rfl rfl hy105) ?_
 refine gZ0 ?_
 obtain ⟨h106,wh106,eh106,H⟩:=H
 refine gHr 11 [19,166] rfl (si Z rfl rfl rfl rfl rfl (yV (by kernel_rfl)) wh106 eh106) ?_
 obtain ⟨hy107,H⟩:=H
 refine gR rfl (fC Z rfl rfl rfl rfl rfl hy107) ?_
 refine gZ0 ?_
 obtain ⟨h108,wh108,eh108,H⟩:=H
 refine gH 12 [20,171] rfl (si Z rfl rfl rfl rfl rfl (yV (by kernel_rfl)) wh108 eh108) ?_
 refine gZ ?_
 exact xJ ((ad b98),(ad b102)) H
 obtain ⟨b109,h110,eb109,eh110,H⟩:=H
 refine NQ 10 [] rfl (tH Z rfl rfl eb109 eh110) ?_
 obtain ⟨hy111,hy112,H⟩:=H
 refine gR rfl (fC Z rfl rfl rfl rfl rfl hy111) ?_
 refine gR rfl (fC Z rfl rfl rfl rfl rfl hy112) ?_
 refine gZ0 ?_
 obtain ⟨b113,h114,eb113,eh114,H⟩:=H
 refine gHr 9 [] rfl (tH Z rfl rfl eb113 eh114) ?_
 obtain ⟨hy115,hy116,H⟩:=H
 refine gR rfl (fC Z rfl rfl rfl rfl rfl hy115) ?_
 refine gR rfl (fC Z rfl rfl rfl rfl rfl hy116) ?_
 refine gZ0 ?_
 obtain ⟨h117,wh117,eh117,H⟩:=H
 refine gHr 11 [19,166] rfl (si Z rfl rfl rfl rfl rfl (yV (by kernel_rfl)) wh117 eh117) ?_
 obtain ⟨hy118,H⟩:=H
 refine gR rfl (fC Z rfl rfl rfl rfl rfl hy118) ?_
 refine gZ0 ?_
 obtain ⟨h119,wh119,eh119,H⟩:=H
 refine gH 12 [20,171] rfl (si Z rfl rfl rfl rfl rfl (yV (by kernel_rfl)) wh119 eh119) ?_
 refine gZ ?_
 exact xJ ((ad b113),(ad b109)) H
 refine zQ (w2 Z (zE (zF [3,9,10,11,12,17,207] ?_)))
 refine zI H ?_ ?_ <;> intro H
 refine zQ (w2 Z (zE (zB ?_)))
 obtain ⟨I12,μ12,H0,HI⟩:=H
 refine zO (σ:=Slc × Int) [3,9,11,12,17] (fun (s:Slc × Int)=>[(10,Slc.v s.1),(23,.int .i64 s.2)]) I12 μ12 (a_,b_) H0 ?_
 rintro ⟨j_,n_⟩ h_12 H
 replace H:=HI j_ n_ h_12 H
 refine zF [10,23,3,9,11,12,17] (zS (zQ ?_))
 refine w3 Z (zE ?_)
 refine zI H ?_ ?_ <;> intro H
 refine zK (zX (zB (zS ?_)))
 refine gB [3,9,10,11,12,17,23] ?_
 refine gT 0 [9] Z ?_
 refine gT 1 [23] Z ?_
 refine gd 2 [214,215] Z H fun a120 H=>?_
 refine gT 3 [216] Z ?_
 refine gl 4 [217] Z H fun v121 H=>?_
 refine gT 5 [3] Z ?_
 refine gl 6 [219] Z H fun v122 H=>?_
 refine gC 7 [218,220] O65 (R65 _ _ _ _ H) fun r123 h124 H=>?_
 refine gT 8 [221] Z ?_
 refine gT 9 [213] Z ?_
 refine gT 10 [213] Z ?_
 refine gT 11 [222] Z ?_
 refine gT 12 [223] Z ?_
 refine gZ ?_
 refine zX (zF [3,9,10,11,12,17,23,24] (zQ ?_))
 refine wY (bU Z rfl rfl rfl rfl rfl) ?_
 refine wB Z H fun b125 h126 H=>?_
 refine wTa Z H fun h127 H=>?_
 refine zE ?_
 refine zJ (α:=Int) [3,9,10,11,12,17,24,26] (fun (s:Int)=>[(23,.int .i64 s)]) (fun (s:Int) h=>qy (ad b1) r7 j_ b_ d_ (ad b39) r123.1 (ad b125) s k (fun s h'=>I1 s h'/\μ1 s h' < μ1 (a_,b_) h_1) (fun s h'=>I2 s h'/\μ2 s h' < μ2 d_ h_2) (fun s h'=>I4 s h'/\μ4 s h' < μ4 (f_,g_,h_) h_4) (fun s h'=>I12 s h'/\μ12 s h' < μ12 (j_,n_) h_12) h) ?_ ?_
 rintro w_ h_13 H
 refine zF [23,3,9,10,11,12,17,24,26] ?_
 refine gB [3,9,10,11,12,17,23,24,26] ?_
 refine gT 0 [10] Z ?_
 refine gT 1 [9] Z ?_
 refine gT 2 [11] Z ?_
 refine gd 3 [256,257] Z H fun a128 H=>?_
 refine gT 4 [258] Z ?_
 refine gl 5 [259] Z H fun v129 H=>?_
 refine gT 6 [24] Z ?_
 refine gT 7 [3] Z ?_
 refine gl 8 [262] Z H fun v130 H=>?_
 refine gT 9 [261,263] Z ?_
 refine gla 10 [26] Z H fun v131 H=>?_
 refine gY 11 [260,264,265] rfl (fun _=>bU Z rfl rfl rfl rfl rfl) ?_
 obtain ⟨b132,h133,eb132,eh133,H⟩:=H
 refine gH 12 [266] rfl (nJ Z rfl rfl rfl rfl rfl rfl rfl eb132 eh133) ?_
 refine gA 13 [255,267] rfl (ji (s:=j_) (r:=(⟨some ⟨b132,0,none⟩,1,1⟩:Slc)) Z rfl rfl rfl rfl rfl (bT eb132 eh133) H) ?_
 rintro _ h135 ⟨s134,rfl,H⟩
 refine gT 14 [268] Z ?_
 refine gZ ?_
 refine yL ?_
 exact xJ (s134,w_) H
 refine zB ?_
 obtain ⟨I14,μ14,H0,HI⟩:=H
 refine zO (σ:=Int) [3,9,10,11,12,17,24,26] (fun (s:Int)=>[(23,.int .i64 s)]) I14 μ14 n_ H0 ?_
 rintro o_ h_14 H
 replace H:=HI o_ h_14 H
 refine zF [23,3,9,10,11,12,17,24,26] (zS (zQ ?_))
 refine w3 Z (zE ?_)
 refine zI H ?_ ?_ <;> intro H
 refine zK (zX (zB (zS ?_)))
 refine gB [3,9,10,11,12,17,23,24,26] ?_
 refine gT 0 [9] Z ?_
 refine gT 1 [23] Z ?_
 refine gd 2 [229,230] Z H fun a136 H=>?_
 refine gT 3 [231] Z ?_
 refine gl 4 [232] Z H fun v137 H=>?_
 refine gT 5 [3] Z ?_
 refine gl 6 [234] Z H fun v138 H=>?_
 refine gC 7 [233,235] O65 (R65 _ _ _ _ H) fun r139 h140 H=>?_
 refine gT 8 [236] Z ?_
 refine gT 9 [228] Z ?_
 refine gT 10 [228] Z ?_
 refine gT 11 [237] Z ?_
 refine gT 12 [238] Z ?_
 refine gZ ?_
 refine zX (zF [3,9,10,11,12,17,23,24,26,27] (zS (zQ ?_)))
 refine w3 Z (zE ?_)
 refine zI H ?_ ?_ <;> intro H
 refine zY (yE (zM (yE (yH ?_))))
 exact xJ o_ H
 refine zK (zX (zS ?_))
 refine gB [3,9,10,11,12,17,23,24,26] ?_
 refine gla 0 [26] Z H fun v141 H=>?_
 refine gT 1 [9] Z ?_
 refine gT 2 [23] Z ?_
 refine gd 3 [244,245] Z H fun a142 H=>?_
 refine gT 4 [246] Z ?_
 refine gl 5 [247] Z H fun v143 H=>?_
 refine gCr 6 [248] O63 (R63 _ _ _ H) fun r144 h145 H=>?_
 obtain ⟨hy146,H⟩:=H
 refine gR rfl (fC Z rfl rfl rfl rfl rfl hy146) ?_
 refine gZ0 ?_
 refine gC 7 [243,249] O62 (R62 _ _ _ _ H) fun r147 h148 H=>?_
 refine gT 8 [250] Z ?_
 refine gT 9 [242] Z ?_
 refine gT 10 [242] Z ?_
 obtain ⟨h149,wh149,eh149,H⟩:=H
 refine gH 11 [26,251] rfl (si Z rfl rfl rfl rfl rfl (yV (by kernel_rfl)) wh149 eh149) ?_
 refine gZ ?_
 refine zX (zF [3,9,10,11,12,17,23,24,26] (zR ?_))
 refine w2 Z ?_
 refine wQ Z H fun x150 H=>?_
 refine zL ?_
 exact xJ x150 H
 refine zY (yE (yE (yH ?_)))
 exact xJ o_ H
 refine zY (yE (yE (yH (yL ?_))))
 exact xJ j_ H
 refine zK (yL ?_)
 exact xJ a_ H
 refine CR (d:=47) H rfl (fun H=>?_) (fun H=>?_)
 refine qp Z ?_
 refine qp Z ?_
 obtain ⟨a151,ha151,la151,ua151,H⟩:=H
 refine q_y (lh Z rfl rfl ha151 rfl rfl rfl la151 ua151) rfl rfl ?_
 refine qp Z ?_
 obtain ⟨v152,hv152,H⟩:=H
 refine q_y (fq Z rfl rfl rfl rfl hv152) rfl rfl ?_
 refine qp Z ?_
 refine qp Z ?_
 obtain ⟨a153,ha153,la153,ua153,H⟩:=H
 refine q_y (lh Z rfl rfl ha153 rfl rfl rfl la153 ua153) rfl rfl ?_
 refine qp Z ?_
 obtain ⟨v154,hv154,H⟩:=H
 refine q_y (fq Z rfl rfl rfl rfl hv154) rfl rfl ?_
 refine qp Z ?_
 refine qp Z ?_
 exact Au (v152.toList == v154.toList) H ⟨rfl,rfl,rfl,rfl,rfl,rfl,trivial⟩
 refine qs ?_
 refine qs ?_
 refine qs ?_
 refine qs ?_
 refine qs ?_
 refine qs ?_
 refine qs ?_
 refine qs ?_
 refine qs ?_
 refine qs ?_
 refine qs ?_
 refine qp Z ?_
 exact Au false H ⟨rfl,rfl,rfl,rfl,rfl,rfl,trivial⟩
 refine zY (yE (yE (yH (zX (zF [10] (zQ ?_))))))
 refine w3 Z (zE (zT ?_))
 exact aB _ rfl _ rfl ⟨(a_,0),rfl,H⟩
end Go.Q.Yq
end
