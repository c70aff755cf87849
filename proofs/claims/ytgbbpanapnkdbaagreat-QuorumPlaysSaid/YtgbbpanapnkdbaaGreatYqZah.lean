/- A part of the proof of statements of this seat: lemmas, no statement of their own. -/
import Derived.Test.YtgbbpanapnkdbaaGreatYqZad
import Derived.Test.YtgbbpanapnkdbaaGreatYqZae
set_option linter.unusedVariables false
set_option linter.unusedSimpArgs false
set_option maxRecDepth 100000
set_option maxHeartbeats 1000000
section
namespace Go.Q.Yq
open Go.Proofs.Tryz
/-- internal stringslite.IndexByte -/
def bY (p0:ByteArray) (p1:Int) (k:KP Int) (h:Heap):Prop :=
  ∃ x1,x1=(Lib.indexByte p0.data.toList p1.toNat.toUInt8)/\(k x1 h)
/-- strings.IndexByte -/
def strings_IndexByte (p0:ByteArray) (p1:Int) (k:KP Int) (h:Heap):Prop :=
  bY p0 p1 (fun r1 h2=>k r1 h2) h
/-- quaestor label.letter -/
def lu (a_:Int) (b_:Bool) (k:KP Bool) (h_1:Heap):Prop :=
  if b_ then (k true h_1) else (strings_IndexByte (⟨#[95,45,46,47]⟩:ByteArray) a_ (fun r1 h2=>k (decide (r1>=0)) h2) h_1)
def rq (p0:Int) (k:KP Bool) (h:Heap):Prop :=
  if ((decide (p0>=97)) && (decide (p0<=122))) then (lu p0 ((decide (p0>=97)) && (decide (p0<=122))) k h) else (if ((decide (p0>=65)) && (decide (p0<=90))) then (lu p0 ((decide (p0>=65)) && (decide (p0<=90))) k h) else (lu p0 ((decide (p0>=48)) && (decide (p0<=57))) k h))
/-- quaestor label.word -/
def Bg (b_:ByteArray) (d_:Int) (a_:Int) (k:KP Bool) (nx1:KP Int) (h_1:Heap):Prop :=
  if (decide (a_ < d_)) then (∃ v1,(0:Int)<=a_/\wK b_ a_ v1/\(rq v1 (fun r2 h3=>if (!r2) then (k false h3) else (nx1 (IntKind.i64.wrap (a_ + 1)) h3)) h_1)) else (k ((decide ((b_.size:Int) > 0)) && (decide ((b_.size:Int)<=24))) h_1)
def Fw (b_:ByteArray) (d_:Int) (i6:Int) (k:KP Bool) (h:Heap):Prop :=
  ∃ (I:KP Int) (μ:Int->Heap->Nat),I i6 h/\∀ (a_:Int) (h:Heap),I a_ h->Bg b_ d_ a_ k (fun s h'=>I s h'/\μ s h' < μ a_ h) h
def nY (p0:ByteArray) (k:KP Bool) (h:Heap):Prop :=
  Fw p0 (p0.size:Int) 0 k h
/-- internal stringslite.Index -/
def nL (a_:ByteArray) (j_:ByteArray) (f_:Int) (l_:Int) (m_:Int) (b_:Int) (g_:Int) (d_:Int) (h_:Bool) (k:KP Int) (nx1:KP (Int × Int)) (h_4:Heap):Prop :=
  if h_ then (∃ s14,(0:Int)<=b_/\(b_:Int)<=(a_.size:Int)/\(a_.size:Int)<=(a_.size:Int)/\s14=a_.extract b_.toNat (a_.size:Int).toNat/\(False)) else (∃ v15,ah h_4 (⟨0,0,none⟩:Addr)=some (.int .i64 v15)/\(if (((decide (f_ > v15)) && (decide (d_>=(IntKind.i64.wrap (4 + (shr .i64 b_ (4:Int).toNat)))))) && (decide (b_ < g_))) then (∃ s16,(0:Int)<=b_/\(b_:Int)<=(a_.size:Int)/\(a_.size:Int)<=(a_.size:Int)/\s16=a_.extract b_.toNat (a_.size:Int).toNat/\(False)) else (nx1 (b_,d_) h_4)))
def iZ (d_:ByteArray) (f_:ByteArray) (a_:Int) (g_:Int) (h_:Int) (b_:Int) (j_:Int) (l_:Int) (m_:Bool) (k:KP Int) (nx1:KP (Int × Int)) (h_3:Heap):Prop :=
  if m_ then (k b_ h_3) else (∃ x11,x11=(IntKind.i64.wrap (b_ + 1))/\(∃ x12,x12=(IntKind.i64.wrap (l_ + 1))/\(∃ v13,ah h_3 (⟨0,0,none⟩:Addr)=some (.int .i64 v13)/\(if (decide (a_<=v13)) then (False) else (nL d_ f_ a_ g_ h_ x11 j_ x12 false k nx1 h_3)))))
def jg (b_:ByteArray) (f_:ByteArray) (d_:Int) (h_:Int) (g_:Int) (j_:Int) (l_:Int) (a_:Int) (k:KP Int) (nx1:KP (Int × Int)) (h_2:Heap):Prop :=
  ∃ v10,(0:Int)<=(IntKind.i64.wrap (a_ + 1))/\wK b_ (IntKind.i64.wrap (a_ + 1)) v10/\(if (v10 == g_) then (∃ s17,(0:Int)<=a_/\(a_:Int)<=(IntKind.i64.wrap (a_ + d_))/\(IntKind.i64.wrap (a_ + d_))<=(b_.size:Int)/\s17=b_.extract a_.toNat (IntKind.i64.wrap (a_ + d_)).toNat/\(iZ b_ f_ d_ h_ g_ a_ j_ l_ (s17.toList == f_.toList) k nx1 h_2)) else (iZ b_ f_ d_ h_ g_ a_ j_ l_ false k nx1 h_2))
def sK (d_:ByteArray) (g_:ByteArray) (h_:Int) (f_:Int) (j_:Int) (b_:Int) (a_:Int) (l_:Int) (k:KP Int) (nx1:KP (Int × Int)) (h_1:Heap):Prop :=
  if (decide (a_ < b_)) then (∃ v18,(0:Int)<=a_/\wK d_ a_ v18/\(if (v18 != f_) then (∃ s19,(0:Int)<=(IntKind.i64.wrap (a_ + 1))/\((IntKind.i64.wrap (a_ + 1)):Int)<=b_/\b_<=(d_.size:Int)/\s19=d_.extract (IntKind.i64.wrap (a_ + 1)).toNat b_.toNat/\(bY s19 f_ (fun r20 h21=>if (decide (r20 < 0)) then (∃ x22,x22=(-1)/\(k x22 h21)) else (∃ x23,x23=(IntKind.i64.wrap (a_ + (IntKind.i64.wrap (r20 + 1))))/\(jg d_ g_ h_ f_ j_ b_ l_ x23 k nx1 h21))) h_1)) else (jg d_ g_ h_ f_ j_ b_ l_ a_ k nx1 h_1))) else (∃ x24,x24=(-1)/\(k x24 h_1))
def tV (d_:ByteArray) (f_:ByteArray) (g_:Int) (h_:Int) (j_:Int) (l_:Int) (i8:Int) (i10:Int) (k:KP Int) (h:Heap):Prop :=
  ∃ (I:KP (Int × Int)) (μ:(Int × Int)->Heap->Nat),I (i8,i10) h/\∀ (a_:Int) (b_:Int) (h:Heap),I (a_,b_) h->sK d_ f_ g_ h_ j_ l_ a_ b_ k (fun s h'=>I s h'/\μ s h' < μ (a_,b_) h) h
def kI (p0:ByteArray) (p1:ByteArray) (k:KP Int) (h:Heap):Prop :=
  ∃ x1,x1=(p1.size:Int)/\(if ((x1 == 0) || (p1.toList == p0.toList)) then (k 0 h) else (if (x1 == 1) then (∃ v2,(0:Int)<=0/\wK p1 0 v2/\(bY p0 v2 (fun r3 h4=>k r3 h4) h)) else (if (decide (x1>=(p0.size:Int))) then (∃ x5,x5=(-1)/\(k x5 h)) else (∃ v6,ah h (⟨0,0,none⟩:Addr)=some (.int .i64 v6)/\(if ((decide (x1<=v6)) && (decide ((p0.size:Int)<=64))) then (False) else (∃ v7,(0:Int)<=0/\wK p1 0 v7/\(∃ v8,(0:Int)<=1/\wK p1 1 v8/\(∃ x9,x9=(IntKind.i64.wrap ((IntKind.i64.wrap ((p0.size:Int) - x1)) + 1))/\(tV p0 p1 x1 v7 v8 x9 0 0 k h)))))))))
/-- internal stringslite.Cut -/
def mE (p0:ByteArray) (p1:ByteArray) (k:KP (ByteArray × ByteArray × Bool)) (h:Heap):Prop :=
  kI p0 p1 (fun r1 h2=>if (decide (r1>=0)) then (∃ s3,(0:Int)<=0/\(0:Int)<=r1/\r1<=(p0.size:Int)/\s3=p0.extract (0:Int).toNat r1.toNat/\(∃ s4,(0:Int)<=(IntKind.i64.wrap (r1 + (p1.size:Int)))/\((IntKind.i64.wrap (r1 + (p1.size:Int))):Int)<=(p0.size:Int)/\(p0.size:Int)<=(p0.size:Int)/\s4=p0.extract (IntKind.i64.wrap (r1 + (p1.size:Int))).toNat (p0.size:Int).toNat/\(k (s3,s4,true) h2))) else (k (p0,(⟨#[]⟩:ByteArray),false) h2)) h
/-- strings.Cut -/
def strings_Cut (p0:ByteArray) (p1:ByteArray) (k:KP (ByteArray × ByteArray × Bool)) (h:Heap):Prop :=
  mE p0 p1 (fun r1 h2=>k (r1.1,r1.2.1,r1.2.2) h2) h
/-- internal stringslite.HasSuffix -/
def dY (a_:Bool) (k:KP Bool) (h_1:Heap):Prop :=
  k a_ h_1
def iI (p0:ByteArray) (p1:ByteArray) (k:KP Bool) (h:Heap):Prop :=
  if (decide ((p0.size:Int)>=(p1.size:Int))) then (∃ s1,(0:Int)<=(IntKind.i64.wrap ((p0.size:Int) - (p1.size:Int)))/\((IntKind.i64.wrap ((p0.size:Int) - (p1.size:Int))):Int)<=(p0.size:Int)/\(p0.size:Int)<=(p0.size:Int)/\s1=p0.extract (IntKind.i64.wrap ((p0.size:Int) - (p1.size:Int))).toNat (p0.size:Int).toNat/\(dY (s1.toList == p1.toList) k h)) else (dY false k h)
/-- internal stringslite.CutSuffix -/
def iF (p0:ByteArray) (p1:ByteArray) (k:KP (ByteArray × Bool)) (h:Heap):Prop :=
  iI p0 p1 (fun r1 h2=>if (!r1) then (k (p0,false) h2) else (∃ s3,(0:Int)<=0/\(0:Int)<=(IntKind.i64.wrap ((p0.size:Int) - (p1.size:Int)))/\(IntKind.i64.wrap ((p0.size:Int) - (p1.size:Int)))<=(p0.size:Int)/\s3=p0.extract (0:Int).toNat (IntKind.i64.wrap ((p0.size:Int) - (p1.size:Int))).toNat/\(k (s3,true) h2))) h
/-- strings.CutSuffix -/
def strings_CutSuffix (p0:ByteArray) (p1:ByteArray) (k:KP (ByteArray × Bool)) (h:Heap):Prop :=
  iF p0 p1 (fun r1 h2=>k (r1.1,r1.2) h2) h
/-- internal stringslite.HasPrefix -/
def dW (a_:Bool) (k:KP Bool) (h_1:Heap):Prop :=
  k a_ h_1
def fe (p0:ByteArray) (p1:ByteArray) (k:KP Bool) (h:Heap):Prop :=
  if (decide ((p0.size:Int)>=(p1.size:Int))) then (∃ s1,(0:Int)<=0/\(0:Int)<=(p1.size:Int)/\(p1.size:Int)<=(p0.size:Int)/\s1=p0.extract (0:Int).toNat (p1.size:Int).toNat/\(dW (s1.toList == p1.toList) k h)) else (dW false k h)
/-- strings.HasPrefix -/
def strings_HasPrefix (p0:ByteArray) (p1:ByteArray) (k:KP Bool) (h:Heap):Prop :=
  fe p0 p1 (fun r1 h2=>k r1 h2) h
/-- internal stringslite.CutPrefix -/
def iA (p0:ByteArray) (p1:ByteArray) (k:KP (ByteArray × Bool)) (h:Heap):Prop :=
  fe p0 p1 (fun r1 h2=>if (!r1) then (k (p0,false) h2) else (∃ s3,(0:Int)<=(p1.size:Int)/\((p1.size:Int):Int)<=(p0.size:Int)/\(p0.size:Int)<=(p0.size:Int)/\s3=p0.extract (p1.size:Int).toNat (p0.size:Int).toNat/\(k (s3,true) h2))) h
/-- strings.CutPrefix -/
def strings_CutPrefix (p0:ByteArray) (p1:ByteArray) (k:KP (ByteArray × Bool)) (h:Heap):Prop :=
  iA p0 p1 (fun r1 h2=>k (r1.1,r1.2) h2) h
/-- quaestor label.signs -/
def Bc (k:KP Slc) (h:Heap):Prop :=
  ∃ b1 h2,b1=h.size/\h2=h.push (.cells ([.string (⟨#[61]⟩:ByteArray),.string (⟨#[33,61]⟩:ByteArray),.string (⟨#[94,61]⟩:ByteArray)]).toArray 9)/\(k (⟨some ⟨b1,0,none⟩,3,3⟩:Slc) h2)
/-- quaestor label.question -/
def lF (a_:Addr) (b_:Bool) (k:KP (az × Bool)) (nx1:KP Int) (nx3:KP Int) (h_4:Heap):Prop :=
  ∃ v17,ai h_4 a_ (az.cs v17)/\k (v17,b_) h_4
def wW (f_:ByteArray) (b_:Addr) (g_:Int) (a_:Addr) (h_:Slc) (j_:Int) (d_:Int) (k:KP (az × Bool)) (nx1:KP Int) (nx3:KP Int) (h_3:Heap):Prop :=
  if (decide (d_ < j_)) then (∃ a10,h_.a=some a10/\(0:Int)<=d_/\d_ < (h_.len:Int)/\(∃ v11,ah h_3 (a10.add (d_.toNat * 1))=some (.string v11)/\(∃ s12,(0:Int)<=g_/\(g_:Int)<=(f_.size:Int)/\(f_.size:Int)<=(f_.size:Int)/\s12=f_.extract g_.toNat (f_.size:Int).toNat/\(strings_CutPrefix s12 v11 (fun r13 h14=>if r13.2 then (∃ h15,WrH h14 (a_.add 1)/\h15=setH h14 (a_.add 1) (.int .i64 d_)/\(∃ h16,WrH h15 (a_.add 2)/\h16=setH h15 (a_.add 2) (.string r13.1)/\(∃ v18,ai h16 a_ (az.cs v18)/\(∃ v19,ah h16 a_=some (.string v19)/\(nY v19 (fun r20 h21=>ai h21 a_ (az.cs v18)/\(if r20 then (∃ v23,ah h21 (a_.add 2)=some (.string v23)/\(nY v23 (fun r24 h25=>ai h25 a_ (az.cs v18)/\(∃ h27,aN h25 b_ 3/\h27=aM h25 b_ 0 (az.cs v18)/\(lF b_ r24 k nx1 nx3 h27))) h21)) else (∃ h28,aN h21 b_ 3/\h28=aM h21 b_ 0 (az.cs v18)/\(lF b_ false k nx1 nx3 h28)))) h16))))) else (nx3 (IntKind.i64.wrap (d_ + 1)) h14)) h_3)))) else (∃ v29,ai h_3 a_ (az.cs v29)/\(∃ h30,aN h_3 b_ 3/\h30=aM h_3 b_ 0 (az.cs v29)/\(∃ v31,ai h30 b_ (az.cs v31)/\k (v31,false) h30)))
def CX (b_:ByteArray) (d_:Addr) (f_:Int) (g_:Addr) (h_:Slc) (j_:Int) (i28:Int) (k:KP (az × Bool)) (nx1:KP Int) (h:Heap):Prop :=
  ∃ (I:KP Int) (μ:Int->Heap->Nat),I i28 h/\∀ (a_:Int) (h:Heap),I a_ h->wW b_ d_ f_ g_ h_ j_ a_ k nx1 (fun s h'=>I s h'/\μ s h' < μ a_ h) h
def jF (b_:ByteArray) (d_:Addr) (a_:Int) (f_:Bool) (k:KP (az × Bool)) (nx1:KP Int) (h_2:Heap):Prop :=
  if f_ then (∃ x3,x3=(IntKind.i64.wrap (a_ + 1))/\(nx1 x3 h_2)) else (∃ s4,(0:Int)<=0/\(0:Int)<=a_/\a_<=(b_.size:Int)/\s4=b_.extract (0:Int).toNat a_.toNat/\(∃ b5 h6,b5=h_2.size/\h6=h_2.push (.cells (az.cs (⟨ByteArray.empty,0,ByteArray.empty⟩:az)).toArray 174)/\(∃ h7,aN h6 (ad b5) 3/\h7=aM h6 (ad b5) 0 (az.cs (⟨s4,0,ByteArray.empty⟩:az))/\(Bc  (fun r8 h9=>CX b_ d_ a_ (ad b5) r8 (r8.len:Int) 0 k nx1 h9) h7))))
def vY (b_:ByteArray) (d_:Addr) (a_:Int) (k:KP (az × Bool)) (nx1:KP Int) (h_1:Heap):Prop :=
  if (decide (a_ < (b_.size:Int))) then (∃ v32,(0:Int)<=a_/\wK b_ a_ v32/\(rq v32 (fun r33 h34=>jF b_ d_ a_ r33 k nx1 h34) h_1)) else (jF b_ d_ a_ false k nx1 h_1)
def CJ (b_:ByteArray) (d_:Addr) (i4:Int) (k:KP (az × Bool)) (h:Heap):Prop :=
  ∃ (I:KP Int) (μ:Int->Heap->Nat),I i4 h/\∀ (a_:Int) (h:Heap),I a_ h->vY b_ d_ a_ k (fun s h'=>I s h'/\μ s h' < μ a_ h) h
def rW (p0:ByteArray) (k:KP (az × Bool)) (h:Heap):Prop :=
  ∃ b1 h2,b1=h.size/\h2=h.push (.cells (az.cs (⟨ByteArray.empty,0,ByteArray.empty⟩:az)).toArray 174)/\(CJ p0 (ad b1) 0 k h2)
/-- quaestor label.Selector -/
def fB (a_:Addr) (b_:Addr) (d_:Bool) (k:KP (af × Int)) (h_2:Heap):Prop :=
  if (!d_) then (∃ h15,aN h_2 a_ 2/\h15=aM h_2 a_ 0 (af.cs (⟨ByteArray.empty,(⟨none,0,0⟩:Slc)⟩:af))/\(∃ v16,ai h15 a_ (af.cs v16)/\k (v16,4) h15)) else (∃ v17,ai h_2 b_ (af.cs v17)/\(∃ h18,aN h_2 a_ 2/\h18=aM h_2 a_ 0 (af.cs v17)/\(∃ v19,ai h18 a_ (af.cs v19)/\k (v19,0) h18)))
def lK (b_:Addr) (d_:ByteArray) (a_:Addr) (f_:Bool) (g_:Bool) (h_:Addr) (j_:Bool) (k:KP (af × Int)) (nx3:KP (ByteArray × Bool × Bool)) (h_4:Heap):Prop :=
  if j_ then (fB b_ a_ false k h_4) else (∃ v27,ah h_4 (a_.add 1)=some (Slc.v v27)/\(∃ v28,ai h_4 h_ (az.cs v28)/\(∃ b29 h30,b29=h_4.size/\h30=h_4.push (.cells ((az.cs v28)).toArray 174)/\(App 174 3 40 [.string ByteArray.empty,.int .i64 0,.string ByteArray.empty] h30 v27 1 ((az.cs v28)) (fun s31 h32=>∃ h33,WrH h32 (a_.add 1)/\h33=setH h32 (a_.add 1) (Slc.v s31)/\(nx3 (d_,f_,g_) h33))))))
def vV (d_:Addr) (a_:Addr) (f_:ByteArray) (b_:Bool) (g_:Bool) (k:KP (af × Int)) (nx3:KP (ByteArray × Bool × Bool)) (h_3:Heap):Prop :=
  if (b_ && g_) then (strings_Cut f_ (⟨#[44]⟩:ByteArray) (fun r20 h21=>rW r20.1 (fun r22 h23=>∃ b24 h25,b24=h23.size/\h25=h23.push (.cells (az.cs (⟨ByteArray.empty,0,ByteArray.empty⟩:az)).toArray 174)/\(∃ h26,aN h25 (ad b24) 3/\h26=aM h25 (ad b24) 0 (az.cs r22.1)/\(if (!r22.2) then (lK d_ r20.2.1 a_ b_ r20.2.2 (ad b24) true k nx3 h26) else (∃ v34,ah h26 (a_.add 1)=some (Slc.v v34)/\(lK d_ r20.2.1 a_ b_ r20.2.2 (ad b24) ((v34.len:Int) == 8) k nx3 h26))))) h21) h_3) else (fB d_ a_ b_ k h_3)
def Dt (f_:Addr) (g_:Addr) (i5:ByteArray) (i8:Bool) (i9:Bool) (k:KP (af × Int)) (h:Heap):Prop :=
  ∃ (I:KP (ByteArray × Bool × Bool)) (μ:(ByteArray × Bool × Bool)->Heap->Nat),I (i5,i8,i9) h/\∀ (a_:ByteArray) (b_:Bool) (d_:Bool) (h:Heap),I (a_,b_,d_) h->vV f_ g_ a_ b_ d_ k (fun s h'=>I s h'/\μ s h' < μ (a_,b_,d_) h) h
def lZ (a_:Addr) (d_:ByteArray) (f_:Bool) (b_:Addr) (g_:Bool) (k:KP (af × Int)) (h_1:Heap):Prop :=
  if g_ then (∃ h8,aN h_1 a_ 2/\h8=aM h_1 a_ 0 (af.cs (⟨ByteArray.empty,(⟨none,0,0⟩:Slc)⟩:af))/\(∃ v9,ai h8 a_ (af.cs v9)/\k (v9,4) h8)) else (if (!f_) then (∃ v10,ai h_1 b_ (af.cs v10)/\(∃ h11,aN h_1 a_ 2/\h11=aM h_1 a_ 0 (af.cs v10)/\(∃ v12,ai h11 a_ (af.cs v12)/\k (v12,0) h11))) else (strings_CutSuffix d_ (⟨#[125]⟩:ByteArray) (fun r13 h14=>Dt a_ b_ r13.1 r13.2 true k h14) h_1))
def je (p0:ByteArray) (k:KP (af × Int)) (h:Heap):Prop :=
  ∃ b1 h2,b1=h.size/\h2=h.push (.cells (af.cs (⟨ByteArray.empty,(⟨none,0,0⟩:Slc)⟩:af)).toArray 139)/\(strings_Cut p0 (⟨#[123]⟩:ByteArray) (fun r3 h4=>∃ b5 h6,b5=h4.size/\h6=h4.push (.cells (af.cs (⟨ByteArray.empty,(⟨none,0,0⟩:Slc)⟩:af)).toArray 139)/\(∃ h7,aN h6 (ad b5) 2/\h7=aM h6 (ad b5) 0 (af.cs (⟨r3.1,(⟨none,0,0⟩:Slc)⟩:af))/\(if (!(r3.1.toList == (⟨#[]⟩:ByteArray).toList)) then (nY r3.1 (fun r35 h36=>lZ (ad b1) r3.2.1 r3.2.2 (ad b5) (!r35) k h36) h7) else (lZ (ad b1) r3.2.1 r3.2.2 (ad b5) false k h7)))) h2)
/-- quaestor label.Check -/
def gu (d_:Addr) (f_:Slc) (g_:Int) (a_:Int) (b_:Bool) (k:KP Int) (nx2:KP Int) (h_3:Heap):Prop :=
  if b_ then (k 1 h_3) else (nx2 (IntKind.i64.wrap (a_ + 1)) h_3)
def Am (b_:Addr) (d_:Slc) (f_:Int) (a_:Int) (k:KP Int) (nx2:KP Int) (h_2:Heap):Prop :=
  if (decide (a_ < f_)) then (∃ a7,d_.a=some a7/\(0:Int)<=a_/\a_ < (d_.len:Int)/\(∃ v8,ai h_2 (a7.add (a_.toNat * 2)) (aD.cs v8)/\(∃ b9 h10,b9=h_2.size/\h10=h_2.push (.cells (aD.cs (⟨ByteArray.empty,ByteArray.empty⟩:aD)).toArray 178)/\(∃ h11,aN h10 (ad b9) 2/\h11=aM h10 (ad b9) 0 (aD.cs v8)/\(∃ v12,ah h11 (ad b9)=some (.string v12)/\(nY v12 (fun r13 h14=>if (!r13) then (if true then (gu b_ d_ f_ a_ true k nx2 h14) else (if (decide (a_ > 0)) then (∃ v15,ah h14 (b_.add 1)=some (Slc.v v15)/\(∃ a16,v15.a=some a16/\(0:Int)<=(IntKind.i64.wrap (a_ - 1))/\(IntKind.i64.wrap (a_ - 1)) < (v15.len:Int)/\(∃ v17,ah h14 (a16.add ((IntKind.i64.wrap (a_ - 1)).toNat * 2))=some (.string v17)/\(∃ v18,ah h14 (ad b9)=some (.string v18)/\(gu b_ d_ f_ a_ (!(Op.bytesLess v17.toList v18.toList)) k nx2 h14))))) else (gu b_ d_ f_ a_ false k nx2 h14))) else (∃ v19,ah h14 ((ad b9).add 1)=some (.string v19)/\(nY v19 (fun r20 h21=>if (!r20) then (gu b_ d_ f_ a_ true k nx2 h21) else (if (decide (a_ > 0)) then (∃ v22,ah h21 (b_.add 1)=some (Slc.v v22)/\(∃ a23,v22.a=some a23/\(0:Int)<=(IntKind.i64.wrap (a_ - 1))/\(IntKind.i64.wrap (a_ - 1)) < (v22.len:Int)/\(∃ v24,ah h21 (a23.add ((IntKind.i64.wrap (a_ - 1)).toNat * 2))=some (.string v24)/\(∃ v25,ah h21 (ad b9)=some (.string v25)/\(gu b_ d_ f_ a_ (!(Op.bytesLess v24.toList v25.toList)) k nx2 h21))))) else (gu b_ d_ f_ a_ false k nx2 h21))) h14))) h11)))))) else (k 0 h_2)
def EX (b_:Addr) (d_:Slc) (f_:Int) (i18:Int) (k:KP Int) (h:Heap):Prop :=
  ∃ (I:KP Int) (μ:Int->Heap->Nat),I i18 h/\∀ (a_:Int) (h:Heap),I a_ h->Am b_ d_ f_ a_ k (fun s h'=>I s h'/\μ s h' < μ a_ h) h
def oN (a_:Addr) (b_:Bool) (k:KP Int) (h_1:Heap):Prop :=
  if b_ then (k 1 h_1) else (∃ v6,ah h_1 (a_.add 1)=some (Slc.v v6)/\(EX a_ v6 (v6.len:Int) 0 k h_1))
def yn (p0:ay) (k:KP Int) (h:Heap):Prop :=
  ∃ b1 h2,b1=h.size/\h2=h.push (.cells (ay.cs p0).toArray 147)/\(∃ v3,ah h2 (ad b1)=some (.string v3)/\(nY v3 (fun r4 h5=>if (!r4) then (oN (ad b1) true k h5) else (∃ v26,ah h5 ((ad b1).add 1)=some (Slc.v v26)/\(oN (ad b1) (decide ((v26.len:Int) > 8)) k h5))) h2))
/-- quaestor label.Parse -/
def pF (g_:Addr) (a_:Addr) (b_:Addr) (h_:Slc) (j_:Int) (d_:Int) (f_:Int) (k:KP (ay × Int)) (nx1:KP (Int × Int)) (h_2:Heap):Prop :=
  ∃ v18,ah h_2 (a_.add 1)=some (Slc.v v18)/\(∃ v19,ah h_2 b_=some (.string v19)/\(∃ v20,ah h_2 (b_.add 2)=some (.string v20)/\(∃ b21 h22,b21=h_2.size/\h22=h_2.push (.cells ((aD.cs (⟨v19,v20⟩:aD))).toArray 178)/\(App 178 2 32 [.string ByteArray.empty,.string ByteArray.empty] h22 v18 1 ((aD.cs (⟨v19,v20⟩:aD))) (fun s23 h24=>∃ h25,WrH h24 (a_.add 1)/\h25=setH h24 (a_.add 1) (Slc.v s23)/\(nx1 (f_,(IntKind.i64.wrap (d_ + 1))) h25))))))
def oP (a_:Addr) (b_:Addr) (d_:Bool) (k:KP (ay × Int)) (nx1:KP (Int × Int)) (h_3:Heap):Prop :=
  if d_ then (∃ h27,aN h_3 a_ 2/\h27=aM h_3 a_ 0 (ay.cs (⟨ByteArray.empty,(⟨none,0,0⟩:Slc)⟩:ay))/\(∃ v28,ai h27 a_ (ay.cs v28)/\k (v28,4) h27)) else (∃ v29,ai h_3 b_ (ay.cs v29)/\(∃ h30,aN h_3 a_ 2/\h30=aM h_3 a_ 0 (ay.cs v29)/\(∃ v31,ai h30 a_ (ay.cs v31)/\k (v31,0) h30)))
def Ai (d_:Addr) (b_:Addr) (f_:Slc) (g_:Int) (h_:Int) (a_:Int) (k:KP (ay × Int)) (nx1:KP (Int × Int)) (h_1:Heap):Prop :=
  if (decide (a_ < g_)) then (∃ a13,f_.a=some a13/\(0:Int)<=a_/\a_ < (f_.len:Int)/\(∃ v14,ai h_1 (a13.add (a_.toNat * 3)) (az.cs v14)/\(∃ b15 h16,b15=h_1.size/\h16=h_1.push (.cells (az.cs (⟨ByteArray.empty,0,ByteArray.empty⟩:az)).toArray 174)/\(∃ h17,aN h16 (ad b15) 3/\h17=aM h16 (ad b15) 0 (az.cs v14)/\(∃ v26,ah h17 ((ad b15).add 1)=some (.int .i64 v26)/\(if (v26 != 0) then (pF d_ b_ (ad b15) f_ g_ a_ 4 k nx1 h17) else (pF d_ b_ (ad b15) f_ g_ a_ h_ k nx1 h17))))))) else (if (h_ != 0) then (oP d_ b_ true k nx1 h_1) else (∃ v32,ai h_1 b_ (ay.cs v32)/\(yn v32 (fun r33 h34=>oP d_ b_ (r33 != 0) k nx1 h34) h_1)))
def Ba (d_:Addr) (f_:Addr) (g_:Slc) (h_:Int) (i5:Int) (i20:Int) (k:KP (ay × Int)) (h:Heap):Prop :=
  ∃ (I:KP (Int × Int)) (μ:(Int × Int)->Heap->Nat),I (i5,i20) h/\∀ (a_:Int) (b_:Int) (h:Heap),I (a_,b_) h->Ai d_ f_ g_ h_ a_ b_ k (fun s h'=>I s h'/\μ s h' < μ (a_,b_) h) h
def tY (p0:ByteArray) (k:KP (ay × Int)) (h:Heap):Prop :=
  ∃ b1 h2,b1=h.size/\h2=h.push (.cells (ay.cs (⟨ByteArray.empty,(⟨none,0,0⟩:Slc)⟩:ay)).toArray 147)/\(je p0 (fun r3 h4=>∃ b5 h6,b5=h4.size/\h6=h4.push (.cells (af.cs (⟨ByteArray.empty,(⟨none,0,0⟩:Slc)⟩:af)).toArray 139)/\(∃ h7,aN h6 (ad b5) 2/\h7=aM h6 (ad b5) 0 (af.cs r3.1)/\(∃ v8,ah h7 (ad b5)=some (.string v8)/\(∃ b9 h10,b9=h7.size/\h10=h7.push (.cells (ay.cs (⟨ByteArray.empty,(⟨none,0,0⟩:Slc)⟩:ay)).toArray 147)/\(∃ h11,aN h10 (ad b9) 2/\h11=aM h10 (ad b9) 0 (ay.cs (⟨v8,(⟨none,0,0⟩:Slc)⟩:ay))/\(∃ v12,ah h11 ((ad b5).add 1)=some (Slc.v v12)/\(Ba (ad b1) (ad b9) v12 (v12.len:Int) r3.2 0 k h11))))))) h2)
theorem PD:aF prog 161:=ck func161
theorem Oy (p0 p1 k h) (H:bY p0 p1 k h):CallsH prog 161 #[.string p0,.int .u8 p1] h (rI .i64 k):=by
 refine fE func161 fun w0=>?_
 refine zF [0,1] (zQ ?_)
 refine w1 Z (zE (zQ ?_))
 refine w2 Z ?_
 refine wY (Ma (MN p0 p1 func166 (by kernel_rfl) (by kernel_rfl) (by kernel_rfl) (by kernel_rfl)) rfl rfl) ?_
 refine wQ Z H fun x1 H=>?_
 refine zE (zT ?_)
 exact aB _ rfl _ rfl ⟨x1,rfl,H⟩
theorem Rf:aF prog 151:=ck func151
theorem SI (p0 p1 k h) (H:strings_IndexByte p0 p1 k h):CallsH prog 151 #[.string p0,.int .u8 p1] h (rI .i64 k):=by
 refine fE func151 fun w0=>?_
 refine zF [0,1] (zQ ?_)
 refine w1 Z (zE (zQ ?_))
 refine w2 Z ?_
 refine wC PD (Oy _ _ _ _ H) fun r1 h2 H=>?_
 refine w1 Z (zE (zT ?_))
 exact aB _ rfl _ rfl ⟨r1,rfl,H⟩
theorem Ql:aF prog 125:=ck func125
theorem Qe (p0 k h) (H:rq p0 k h):CallsH prog 125 #[.int .u8 p0] h (rB k):=by
 refine fE func125 fun w0=>?_
 refine zF [0] (zQ ?_)
 refine w1 Z (zE (zS (zB ?_)))
 refine zJ (α:=Bool) [0] (fun (s:Bool)=>[(3,.bool s)]) (fun (s:Bool) h=>lu p0 s k h) ?_ ?_
 rintro a_ h_1 H
 refine zF [3,0] ?_
 refine zI H ?_ ?_ <;> intro H
 refine zQ (w1 Z (zE (zT (yB (yT ?_)))))
 exact aB _ rfl _ rfl ⟨true,rfl,H⟩
 refine zK (yL (zX (zQ (w1 Z ?_))))
 refine wC Rf (SI _ _ _ _ H) fun r1 h2 H=>?_
 refine w2 Z (zE (zT ?_))
 exact aB _ rfl _ rfl ⟨(decide (r1>=0)),rfl,H⟩
 refine zQ (w3 Z ?_)
 refine vU 3 [0] [(9,.bool ((decide (p0>=97)) && (decide (p0<=122))))] ?_ ?_
 refine w1 Z (zE ?_)
 refine zI H ?_ ?_ <;> intro H
 refine zK ?_
 exact xJ ((decide (p0>=97)) && (decide (p0<=122))) H
 refine zQ (w3 Z ?_)
 refine vU 3 [0] [(15,.bool ((decide (p0>=65)) && (decide (p0<=90))))] ?_ ?_
 refine w1 Z (zE ?_)
 refine zI H ?_ ?_ <;> intro H
 refine zK ?_
 exact xJ ((decide (p0>=65)) && (decide (p0<=90))) H
 refine zR (w3 Z ?_)
 refine vU 3 [0] [(21,.bool ((decide (p0>=48)) && (decide (p0<=57))))] ?_ ?_
 refine w1 Z (zW ?_)
 exact xJ ((decide (p0>=48)) && (decide (p0<=57))) H
 refine vG (d:=18) (fun hb=>?_) (fun hb=>?_)
 refine w3 Z ?_
 refine vK ?_
 exact congrArg (fun b=>some (Value.bool b)) (jD hb)
 refine wS (wS (w1 Z ?_))
 refine vK ?_
 exact congrArg (fun b=>some (Value.bool b)) (jH hb)
 refine vG (d:=12) (fun hb=>?_) (fun hb=>?_)
 refine w3 Z ?_
 refine vK ?_
 exact congrArg (fun b=>some (Value.bool b)) (jD hb)
 refine wS (wS (w1 Z ?_))
 refine vK ?_
 exact congrArg (fun b=>some (Value.bool b)) (jH hb)
 refine vG (d:=6) (fun hb=>?_) (fun hb=>?_)
 refine w3 Z ?_
 refine vK ?_
 exact congrArg (fun b=>some (Value.bool b)) (jD hb)
 refine wS (wS (w1 Z ?_))
 refine vK ?_
 exact congrArg (fun b=>some (Value.bool b)) (jH hb)
theorem O99:aF prog 99:=ck func99
theorem R99 (p0 k h) (H:nY p0 k h):CallsH prog 99 #[.string p0] h (rB k):=by
 refine fE func99 fun w0=>?_
 refine zF [0] (zQ ?_)
 refine w1 Z (zE (zS (zQ ?_)))
 refine w3 Z (zE (zB ?_))
 obtain ⟨I1,μ1,H0,HI⟩:=H
 refine zO (σ:=Int) [0,5] (fun (s:Int)=>[(6,.int .i64 s)]) I1 μ1 0 H0 ?_
 rintro a_ h_1 H
 replace H:=HI a_ h_1 H
 refine zF [6,0,5] (zQ ?_)
 refine w1 Z (zE (zS ?_))
 refine zI H ?_ ?_ <;> intro H
 refine zK (zX (zS (zB (zQ (w2 Z (zE (zQ ?_)))))))
 refine w2 Z ?_
 obtain ⟨v1,lv1,hv1,H⟩:=H
 refine wY (uF Z rfl rfl rfl rfl lv1 hv1) ?_
 refine wC Ql (Qe _ _ _ H) fun r2 h3 H=>?_
 refine w1 Z (zE (zF [6,0,5,13] ?_))
 refine zI H ?_ ?_ <;> intro H
 refine zQ (w1 Z (zE (zT (yB (yT (yT (yB (yT ?_))))))))
 exact aB _ rfl _ rfl ⟨false,rfl,H⟩
 refine zK (yL (zX (zR (w2 Z (zW ?_)))))
 exact xJ (IntKind.i64.wrap (a_ + 1)) H
 refine zY (yE (yE (yH (zX (zQ (w4 Z ?_))))))
 refine vU 4 [] [(22,.bool ((decide ((p0.size:Int) > 0)) && (decide ((p0.size:Int)<=24))))] ?_ ?_
 refine w1 Z (zE (zT ?_))
 exact aB _ rfl _ rfl ⟨((decide ((p0.size:Int) > 0)) && (decide ((p0.size:Int)<=24))),rfl,H⟩
 refine vG (d:=18) (fun hb=>?_) (fun hb=>?_)
 refine w4 Z ?_
 refine vK ?_
 exact congrArg (fun b=>some (Value.bool b)) (jD hb)
 refine wS (wS (wS (w1 Z ?_)))
 refine vK ?_
 exact congrArg (fun b=>some (Value.bool b)) (jH hb)
theorem RN:aF prog 150:=ck func150
theorem RG (p0 p1 k h) (H:kI p0 p1 k h):CallsH prog 150 #[.string p0,.string p1] h (rI .i64 k):=by
 refine fE func150 fun w0=>?_
 refine zF [0,1] (zQ ?_)
 refine w1 Z (zE (zQ ?_))
 refine w2 Z ?_
 refine wQ Z H fun x1 H=>?_
 refine zE (zS (zB (zQ (w3 Z ?_))))
 refine vU 4 [0,1,5] [(23,.bool ((x1 == 0) || (p1.toList == p0.toList)))] ?_ ?_
 refine w1 Z (zE ?_)
 refine zI H ?_ ?_ <;> intro H
 refine zQ (w1 Z (zE (zT (yB (yT ?_)))))
 exact aB _ rfl _ rfl ⟨0,rfl,H⟩
 refine zQ (w3 Z (zE ?_))
 refine zI H ?_ ?_ <;> intro H
 refine zQ (w2 Z ?_)
 obtain ⟨v2,lv2,hv2,H⟩:=H
 refine wY (uF Z rfl rfl rfl rfl lv2 hv2) ?_
 refine wC PD (Oy _ _ _ _ H) fun r3 h4 H=>?_
 refine w1 Z (zE (zF [4] (zT (yB (yT ?_)))))
 exact aB _ rfl _ rfl ⟨r3,rfl,H⟩
 refine zQ (w5 Z (zE (zF [0,1,5,31] ?_)))
 refine zI H ?_ ?_ <;> intro H
 refine zQ ?_
 refine wQ Z H fun x5 H=>?_
 refine zE (zT (yB (yT ?_)))
 exact aB _ rfl _ rfl ⟨x5,rfl,H⟩
 refine zQ (w1 Z ?_)
 refine wL Z H fun v6 H=>?_
 refine w2 Z ?_
 refine vU 4 [0,1,5] [(44,.bool ((decide (x1<=v6)) && (decide ((p0.size:Int)<=64))))] ?_ ?_
 refine w1 Z (zE ?_)
 refine zI H ?_ ?_ <;> intro H
 refine zQ (w2 Z ?_)
 exact H.elim
 refine zK (yL (zX (zQ (w1 Z ?_))))
 obtain ⟨v7,lv7,hv7,H⟩:=H
 refine wY (uF Z rfl rfl rfl rfl lv7 hv7) ?_
 refine w1 Z (zE (zQ ?_))
 refine w1 Z ?_
 obtain ⟨v8,lv8,hv8,H⟩:=H
 refine wY (uF Z rfl rfl rfl rfl lv8 hv8) ?_
 refine w1 Z (zE (zQ ?_))
 refine w1 Z (zE (zQ ?_))
 refine w5 Z ?_
 refine wQ Z H fun x9 H=>?_
 refine zE (zF [0,1,5,6,7,8,9] (zQ ?_))
 refine w1 Z (zE (zS (zB ?_)))
 obtain ⟨I1,μ1,H0,HI⟩:=H
 refine zO (σ:=Int × Int) [0,1,5,6,7,9] (fun (s:Int × Int)=>[(8,.int .i64 s.1),(10,.int .i64 s.2)]) I1 μ1 (0,0) H0 ?_
 rintro ⟨a_,b_⟩ h_1 H
 replace H:=HI a_ b_ h_1 H
 refine zF [8,10,0,1,5,6,7,9] (zS (zQ ?_))
 refine w3 Z (zE ?_)
 refine zI H ?_ ?_ <;> intro H
 refine zK (zX (zB ?_))
 refine zJ (α:=Int) [0,1,5,6,7,9,10] (fun (s:Int)=>[(8,.int .i64 s)]) (fun (s:Int) h=>jg p0 p1 x1 v7 v8 x9 b_ s k (fun s h'=>I1 s h'/\μ1 s h' < μ1 (a_,b_) h_1) h) ?_ ?_
 rintro d_ h_2 H
 refine zF [8,0,1,5,6,7,9,10] (zS (zQ ?_))
 refine w3 Z ?_
 obtain ⟨v10,lv10,hv10,H⟩:=H
 refine wY (uF Z rfl rfl rfl rfl lv10 hv10) ?_
 refine w3 Z ?_
 refine vJ 9 (α:=Bool) [0,1,5,6,7,8,9,10] (fun (s:Bool)=>[(93,.bool s)]) (fun (s:Bool) h=>iZ p0 p1 x1 v7 v8 d_ x9 b_ s k (fun s h'=>I1 s h'/\μ1 s h' < μ1 (a_,b_) h_1) h) ?_ ?_
 rintro f_ h_3 H
 refine vF [93,0,1,5,6,7,8,9,10] (zE ?_)
 refine zI H ?_ ?_ <;> intro H
 refine zQ (w2 Z (zE (zF [4] (zT (yT (yB (yT (yB (yT ?_)))))))))
 exact aB _ rfl _ rfl ⟨d_,rfl,H⟩
 refine zK (zX (zQ (w2 Z ?_)))
 refine wQ Z H fun x11 H=>?_
 refine zE (zQ (w2 Z ?_))
 refine wQ Z H fun x12 H=>?_
 refine zE (zQ (w1 Z ?_))
 refine wL Z H fun v13 H=>?_
 refine w2 Z ?_
 refine vJ 5 (α:=Bool) [0,1,5,6,7,8,9,10] (fun (s:Bool)=>[(107,.bool s)]) (fun (s:Bool) h=>nL p0 p1 x1 v7 v8 x11 x9 x12 s k (fun s h'=>I1 s h'/\μ1 s h' < μ1 (a_,b_) h_1) h) ?_ ?_
 rintro g_ h_4 H
 refine vF [107,0,1,5,6,7,8,9,10] (zE ?_)
 refine zI H ?_ ?_ <;> intro H
 refine zQ (w2 Z ?_)
 obtain ⟨s14,ps14,qs14,rs14,es14,H⟩:=H
 refine wYe (xh (s:=p0) (L:=x11) (H:=(p0.size:Int)) Z rfl rfl rfl rfl rfl ps14 qs14 rs14) (congrArg Value.string es14) ?_
 refine w1 Z ?_
 exact H.elim
 refine zQ (w1 Z ?_)
 refine wL Z H fun v15 H=>?_
 refine w2 Z ?_
 refine vU 6 [0,1,5,6,7,8,9,10] [(127,.bool ((decide (x1 > v15)) && (decide (x12>=(IntKind.i64.wrap (4 + (shr .i64 x11 (4:Int).toNat)))))))] ?_ ?_
 refine w1 Z ?_
 refine vU 4 [0,1,5,6,7,8,9,10] [(132,.bool (((decide (x1 > v15)) && (decide (x12>=(IntKind.i64.wrap (4 + (shr .i64 x11 (4:Int).toNat)))))) && (decide (x11 < x9))))] ?_ ?_
 refine zE ?_
 refine zI H ?_ ?_ <;> intro H
 refine zQ (w2 Z ?_)
 obtain ⟨s16,ps16,qs16,rs16,es16,H⟩:=H
 refine wYe (xh (s:=p0) (L:=x11) (H:=(p0.size:Int)) Z rfl rfl rfl rfl rfl ps16 qs16 rs16) (congrArg Value.string es16) ?_
 refine w1 Z ?_
 exact H.elim
 refine zK (yL ?_)
 exact xJ (x11,x12) H
 refine vG (d:=128) (fun hb=>?_) (fun hb=>?_)
 refine w4 Z ?_
 refine vK ?_
 exact congrArg (fun b=>some (Value.bool b)) (jD hb)
 refine wS (wS (wS (w1 Z ?_)))
 refine vK ?_
 exact congrArg (fun b=>some (Value.bool b)) (jH hb)
 refine vG (d:=121) (fun hb=>?_) (fun hb=>?_)
 refine w6 Z ?_
 refine vK ?_
 exact congrArg (fun b=>some (Value.bool b)) (jD hb)
 refine wS (wS (wS (wS (wS (w1 Z ?_)))))
 refine vK ?_
 exact congrArg (fun b=>some (Value.bool b)) (jH hb)
 refine vI 102 H ?_ ?_ <;> intro H
 refine w2 Z ?_
 exact H.elim
 refine wS (wS (wS (wS (w1 Z ?_))))
 exact wJ false H
 refine vI 84 H ?_ ?_ <;> intro H
 refine w5 Z ?_
 obtain ⟨s17,ps17,qs17,rs17,es17,H⟩:=H
 refine wYe (xh (s:=p0) (L:=d_) (H:=(IntKind.i64.wrap (d_ + x1))) Z rfl rfl rfl rfl rfl ps17 qs17 rs17) (congrArg Value.string es17) ?_
 refine w3 Z ?_
 exact wJ (s17.toList == p1.toList) H
 refine wS (wS (wS (wS (wS (wS (wS (wS (w1 Z ?_))))))))
 exact wJ false H
 refine zQ (w2 Z ?_)
 obtain ⟨v18,lv18,hv18,H⟩:=H
 refine wY (uF Z rfl rfl rfl rfl lv18 hv18) ?_
 refine w2 Z (zE (zF [8,10,0,1,5,6,7,9,64] ?_))
 refine zI H ?_ ?_ <;> intro H
 refine zQ (w4 Z ?_)
 obtain ⟨s19,ps19,qs19,rs19,es19,H⟩:=H
 refine wYe (xh (s:=p0) (L:=(IntKind.i64.wrap (a_ + 1))) (H:=x9) Z rfl rfl rfl rfl rfl ps19 qs19 rs19) (congrArg Value.string es19) ?_
 refine w1 Z ?_
 refine wC PD (Oy _ _ _ _ H) fun r20 h21 H=>?_
 refine w1 Z (zE (zF [8,10,0,1,5,6,7,9,11] (zS (zQ ?_))))
 refine w2 Z (zE ?_)
 refine zI H ?_ ?_ <;> intro H
 refine zQ ?_
 refine wQ Z H fun x22 H=>?_
 refine zE (zF [4] (zT (yT (yT (yB (yT (yB (yT ?_))))))))
 exact aB _ rfl _ rfl ⟨x22,rfl,H⟩
 refine zK (zX (zR (w4 Z ?_)))
 refine wQ Z H fun x23 H=>?_
 refine zW ?_
 exact xJ x23 H
 refine zK ?_
 exact xJ a_ H
 refine zY (yE (yE (yH (zX (zF [] (zQ ?_))))))
 refine wQ Z H fun x24 H=>?_
 refine zE (zT ?_)
 exact aB _ rfl _ rfl ⟨x24,rfl,H⟩
 refine vG (d:=40) (fun hb=>?_) (fun hb=>?_)
 refine w4 Z ?_
 refine vK ?_
 exact congrArg (fun b=>some (Value.bool b)) (jD hb)
 refine wS (wS (wS (w1 Z ?_)))
 refine vK ?_
 exact congrArg (fun b=>some (Value.bool b)) (jH hb)
 refine vG (d:=19) (fun hb=>?_) (fun hb=>?_)
 refine wS (wS (wS (w1 Z ?_)))
 refine vK ?_
 exact congrArg (fun b=>some (Value.bool b)) (BN hb)
 refine w4 Z ?_
 refine vK ?_
 exact congrArg (fun b=>some (Value.bool b)) (BO hb)
theorem RO:aF prog 124:=ck func124
theorem Sw (p0 p1 k h) (H:mE p0 p1 k h):CallsH prog 124 #[.string p0,.string p1] h (fun v h'=>∃ r:ByteArray × ByteArray × Bool,v = .tuple #[.string r.1,.string r.2.1,.bool r.2.2]/\k r h'):=by
 refine fE func124 fun w0=>?_
 refine zF [0,1] (zQ ?_)
 refine w3 Z (zE (zS (zQ ?_)))
 refine w2 Z ?_
 refine wC RN (RG _ _ _ _ H) fun r1 h2 H=>?_
 refine w1 Z (zE (zQ ?_))
 refine w2 Z (zE (zF [0,1,7,12] ?_))
 refine zI H ?_ ?_ <;> intro H
 refine zS ?_
 refine qZ (by kernel_rfl) (by kernel_rfl) ?_
 refine qp Z ?_
 refine qp Z ?_
 obtain ⟨s3,ps3,qs3,rs3,es3,H⟩:=H
 refine Pp (xh (s:=p0) (L:=0) (H:=r1) Z rfl rfl rfl rfl rfl ps3 qs3 rs3) (congrArg Value.string es3) rfl rfl ?_
 refine qp Z ?_
 refine qp Z ?_
 refine qp Z ?_
 refine qp Z ?_
 refine qp Z ?_
 obtain ⟨s4,ps4,qs4,rs4,es4,H⟩:=H
 refine Pp (xh (s:=p0) (L:=(IntKind.i64.wrap (r1 + (p1.size:Int)))) (H:=(p0.size:Int)) Z rfl rfl rfl rfl rfl ps4 qs4 rs4) (congrArg Value.string es4) rfl rfl ?_
 refine qp Z ?_
 refine qp Z ?_
 refine qp Z ?_
 refine xK ?_
 refine zX (zF [4,5,6] (zT (yT ?_)))
 exact aB _ rfl _ rfl ⟨(s3,s4,true),rfl,H⟩
 refine zK (zX (zQ (w4 Z (zE (zT ?_)))))
 exact aB _ rfl _ rfl ⟨(p0,(⟨#[]⟩:ByteArray),false),rfl,H⟩
theorem O98:aF prog 98:=ck func98
theorem R98 (p0 p1 k h) (H:strings_Cut p0 p1 k h):CallsH prog 98 #[.string p0,.string p1] h (fun v h'=>∃ r:ByteArray × ByteArray × Bool,v = .tuple #[.string r.1,.string r.2.1,.bool r.2.2]/\k r h'):=by
 refine fE func98 fun w0=>?_
 refine zF [0,1] (zQ ?_)
 refine w3 Z (zE (zQ ?_))
 refine w2 Z ?_
 refine wC RO (Sw _ _ _ _ H) fun r1 h2 H=>?_
 refine w6 Z (zE (zF [4,5,6] (zT ?_)))
 exact aB _ rfl _ rfl ⟨(r1.1,r1.2.1,r1.2.2),rfl,H⟩
theorem Re:aF prog 152:=ck func152
theorem Sz (p0 p1 k h) (H:iI p0 p1 k h):CallsH prog 152 #[.string p0,.string p1] h (rB k):=by
 refine fE func152 fun w0=>?_
 refine zF [0,1] (zQ ?_)
 refine w1 Z (zE (zQ ?_))
 refine w6 Z ?_
 refine vJ 10 (α:=Bool) [] (fun (s:Bool)=>[(20,.bool s)]) (fun (s:Bool) h=>dY s k h) ?_ ?_
 rintro a_ h_1 H
 refine vF [20] ?_
 refine w1 Z (zE (zT ?_))
 exact aB _ rfl _ rfl ⟨a_,rfl,H⟩
 refine vI 10 H ?_ ?_ <;> intro H
 refine w6 Z ?_
 obtain ⟨s1,ps1,qs1,rs1,es1,H⟩:=H
 refine wYe (xh (s:=p0) (L:=(IntKind.i64.wrap ((p0.size:Int) - (p1.size:Int)))) (H:=(p0.size:Int)) Z rfl rfl rfl rfl rfl ps1 qs1 rs1) (congrArg Value.string es1) ?_
 refine w3 Z ?_
 exact wJ (s1.toList == p1.toList) H
 refine wS (wS (wS (wS (wS (wS (wS (wS (wS (w1 Z ?_)))))))))
 exact wJ false H
theorem RX:aF prog 126:=ck func126
theorem SA (p0 p1 k h) (H:iF p0 p1 k h):CallsH prog 126 #[.string p0,.string p1] h (fun v h'=>∃ r:ByteArray × Bool,v = .tuple #[.string r.1,.bool r.2]/\k r h'):=by
 refine fE func126 fun w0=>?_
 refine zF [0,1] (zQ ?_)
 refine w2 Z (zE (zS (zQ ?_)))
 refine w2 Z ?_
 refine wC Re (Sz _ _ _ _ H) fun r1 h2 H=>?_
 refine w1 Z (zE ?_)
 refine zI H ?_ ?_ <;> intro H
 refine zQ (w3 Z (zE (zF [4,5] (zT (yT ?_)))))
 exact aB _ rfl _ rfl ⟨(p0,false),rfl,H⟩
 refine zK (zX (zQ (w6 Z ?_)))
 obtain ⟨s3,ps3,qs3,rs3,es3,H⟩:=H
 refine wYe (xh (s:=p0) (L:=0) (H:=(IntKind.i64.wrap ((p0.size:Int) - (p1.size:Int)))) Z rfl rfl rfl rfl rfl ps3 qs3 rs3) (congrArg Value.string es3) ?_
 refine w2 Z (zE (zF [4,5] (zT ?_)))
 exact aB _ rfl _ rfl ⟨(s3,true),rfl,H⟩
theorem Su:aF prog 100:=ck func100
theorem Sd (p0 p1 k h) (H:strings_CutSuffix p0 p1 k h):CallsH prog 100 #[.string p0,.string p1] h (fun v h'=>∃ r:ByteArray × Bool,v = .tuple #[.string r.1,.bool r.2]/\k r h'):=by
 refine fE func100 fun w0=>?_
 refine zF [0,1] (zQ ?_)
 refine w2 Z (zE (zQ ?_))
 refine w2 Z ?_
 refine wC RX (SA _ _ _ _ H) fun r1 h2 H=>?_
 refine w4 Z (zE (zF [4,5] (zT ?_)))
 exact aB _ rfl _ rfl ⟨(r1.1,r1.2),rfl,H⟩
theorem QF:aF prog 156:=ck func156
theorem Qi (p0 p1 k h) (H:fe p0 p1 k h):CallsH prog 156 #[.string p0,.string p1] h (rB k):=by
 refine fE func156 fun w0=>?_
 refine zF [0,1] (zQ ?_)
 refine w1 Z (zE (zQ ?_))
 refine w6 Z ?_
 refine vJ 7 (α:=Bool) [] (fun (s:Bool)=>[(17,.bool s)]) (fun (s:Bool) h=>dW s k h) ?_ ?_
 rintro a_ h_1 H
 refine vF [17] ?_
 refine w1 Z (zE (zT ?_))
 exact aB _ rfl _ rfl ⟨a_,rfl,H⟩
 refine vI 10 H ?_ ?_ <;> intro H
 refine w3 Z ?_
 obtain ⟨s1,ps1,qs1,rs1,es1,H⟩:=H
 refine wYe (xh (s:=p0) (L:=0) (H:=(p1.size:Int)) Z rfl rfl rfl rfl rfl ps1 qs1 rs1) (congrArg Value.string es1) ?_
 refine w3 Z ?_
 exact wJ (s1.toList == p1.toList) H
 refine wS (wS (wS (wS (wS (wS (w1 Z ?_))))))
 exact wJ false H
theorem RF:aF prog 133:=ck func133
theorem Sl (p0 p1 k h) (H:strings_HasPrefix p0 p1 k h):CallsH prog 133 #[.string p0,.string p1] h (rB k):=by
 refine fE func133 fun w0=>?_
 refine zF [0,1] (zQ ?_)
 refine w1 Z (zE (zQ ?_))
 refine w2 Z ?_
 refine wC QF (Qi _ _ _ _ H) fun r1 h2 H=>?_
 refine w1 Z (zE (zT ?_))
 exact aB _ rfl _ rfl ⟨r1,rfl,H⟩
theorem Sm:aF prog 153:=ck func153
theorem Ri (p0 p1 k h) (H:iA p0 p1 k h):CallsH prog 153 #[.string p0,.string p1] h (fun v h'=>∃ r:ByteArray × Bool,v = .tuple #[.string r.1,.bool r.2]/\k r h'):=by
 refine fE func153 fun w0=>?_
 refine zF [0,1] (zQ ?_)
 refine w2 Z (zE (zS (zQ ?_)))
 refine w2 Z ?_
 refine wC QF (Qi _ _ _ _ H) fun r1 h2 H=>?_
 refine w1 Z (zE ?_)
 refine zI H ?_ ?_ <;> intro H
 refine zQ (w3 Z (zE (zF [4,5] (zT (yT ?_)))))
 exact aB _ rfl _ rfl ⟨(p0,false),rfl,H⟩
 refine zK (zX (zQ (w3 Z ?_)))
 obtain ⟨s3,ps3,qs3,rs3,es3,H⟩:=H
 refine wYe (xh (s:=p0) (L:=(p1.size:Int)) (H:=(p0.size:Int)) Z rfl rfl rfl rfl rfl ps3 qs3 rs3) (congrArg Value.string es3) ?_
 refine w2 Z (zE (zF [4,5] (zT ?_)))
 exact aB _ rfl _ rfl ⟨(s3,true),rfl,H⟩
theorem Rb:aF prog 128:=ck func128
theorem Sq (p0 p1 k h) (H:strings_CutPrefix p0 p1 k h):CallsH prog 128 #[.string p0,.string p1] h (fun v h'=>∃ r:ByteArray × Bool,v = .tuple #[.string r.1,.bool r.2]/\k r h'):=by
 refine fE func128 fun w0=>?_
 refine zF [0,1] (zQ ?_)
 refine w2 Z (zE (zQ ?_))
 refine w2 Z ?_
 refine wC Sm (Ri _ _ _ _ H) fun r1 h2 H=>?_
 refine w4 Z (zE (zF [4,5] (zT ?_)))
 exact aB _ rfl _ rfl ⟨(r1.1,r1.2),rfl,H⟩
theorem Te:aF prog 127:=ck func127
theorem SV ( k h) (H:Bc k h):CallsH prog 127 #[] h (rS k):=by
 refine fE func127 fun w0=>?_
 refine zQ (w1 Z (zE (zQ ?_)))
 obtain ⟨b1,h2,eb1,eh2,H⟩:=H
 refine wH (nJ Z rfl rfl rfl rfl rfl rfl rfl eb1 eh2) ?_
 refine w1 Z (zE (zT ?_))
 exact aB _ rfl _ rfl ⟨(⟨some ⟨b1,0,none⟩,3,3⟩:Slc),rfl,H⟩
theorem Rj:aF prog 101:=ck func101
theorem Q3 (p0 k h) (H:rW p0 k h):CallsH prog 101 #[.string p0] h (fun v h'=>∃ r:az × Bool,v = .tuple #[.agg (az.cs r.1).toArray,.bool r.2]/\k r h'):=by
 refine fE func101 fun w0=>?_
 refine zF [0] (zQ ?_)
 refine wB Z H fun b1 h2 H=>?_
 refine w1 Z (zE (zQ ?_))
 refine w1 Z (zE (zS (zB ?_)))
 obtain ⟨I1,μ1,H0,HI⟩:=H
 refine zO (σ:=Int) [0,2] (fun (s:Int)=>[(4,.int .i64 s)]) I1 μ1 0 H0 ?_
 rintro a_ h_1 H
 replace H:=HI a_ h_1 H
 refine zF [4,0,2] (zS (zQ ?_))
 refine w5 Z ?_
 refine vJ 5 (α:=Bool) [0,2,4] (fun (s:Bool)=>[(19,.bool s)]) (fun (s:Bool) h=>jF p0 (ad b1) a_ s k (fun s h'=>I1 s h'/\μ1 s h' < μ1 a_ h_1) h) ?_ ?_
 rintro f_ h_2 H
 refine vF [19,0,2,4] (zE ?_)
 refine zI H ?_ ?_ <;> intro H
 refine zK (zX (zB (zR (w2 Z ?_))))
 refine wQ Z H fun x3 H=>?_
 refine zL ?_
 exact xJ x3 H
 refine zY (yE (yE (yH (zX (zQ (w2 Z ?_))))))
 obtain ⟨s4,ps4,qs4,rs4,es4,H⟩:=H
 refine wYe (xh (s:=p0) (L:=0) (H:=a_) Z rfl rfl rfl rfl rfl ps4 qs4 rs4) (congrArg Value.string es4) ?_
 refine wY (bU Z rfl rfl rfl rfl rfl) ?_
 refine wB Z H fun b5 h6 H=>?_
 refine wTa Z H fun h7 H=>?_
 refine zE (zS (zQ ?_))
 refine wC Te (SV  _ _ H) fun r8 h9 H=>?_
 refine w2 Z (zE (zB ?_))
 obtain ⟨I3,μ3,H0,HI⟩:=H
 refine zO (σ:=Int) [0,2,4,5,26,27] (fun (s:Int)=>[(28,.int .i64 s)]) I3 μ3 0 H0 ?_
 rintro b_ h_3 H
 replace H:=HI b_ h_3 H
 refine zF [28,0,2,4,5,26,27] (zQ ?_)
 refine w1 Z (zE (zS ?_))
 refine zI H ?_ ?_ <;> intro H
 refine zK (zX (zS (zB (zQ (w1 Z ?_)))))
 refine wD Z H fun a10 _ H=>?_
 refine wL Z H fun v11 H=>?_
 refine w2 Z (zE (zQ ?_))
 refine w2 Z ?_
 obtain ⟨s12,ps12,qs12,rs12,es12,H⟩:=H
 refine wYe (xh (s:=p0) (L:=a_) (H:=(p0.size:Int)) Z rfl rfl rfl rfl rfl ps12 qs12 rs12) (congrArg Value.string es12) ?_
 refine w1 Z ?_
 refine wC Rb (Sq _ _ _ _ H) fun r13 h14 H=>?_
 refine w5 Z (zE (zF [28,0,2,4,5,26,27,6,8,9] (zQ ?_)))
 refine w1 Z (zE ?_)
 refine zI H ?_ ?_ <;> intro H
 refine zQ (w3 Z ?_)
 refine wT Z H fun h15 H=>?_
 refine w1 Z ?_
 refine wT Z H fun h16 H=>?_
 refine zE (zF [2,5] ?_)
 refine zJ (α:=Bool) [2] (fun (s:Bool)=>[(3,.bool s)]) (fun (s:Bool) h=>lF (ad b1) s k (fun s h'=>I1 s h'/\μ1 s h' < μ1 a_ h_1) (fun s h'=>I3 s h'/\μ3 s h' < μ3 b_ h_3) h) ?_ ?_
 rintro d_ h_4 H
 refine zF [3,2] (zT (yB (yT (yT (yB (yT ?_))))))
 obtain ⟨v17,hv17,H⟩:=H
 exact fu Z _ rfl [.agg (az.cs v17).toArray,.bool d_] ⟨⟨_,_,rfl,rfl,.inr ⟨rfl,_,rfl,rfl,hv17⟩⟩,rfl,trivial⟩ ⟨(v17,d_),rfl,H⟩
 refine gB [2,5] ?_
 refine gla 0 [5] Z H fun v18 H=>?_
 refine gT 1 [5] Z ?_
 refine gl 2 [47] Z H fun v19 H=>?_
 refine gCr 3 [48] O99 (R99 _ _ _ H) fun r20 h21 H=>?_
 obtain ⟨hy22,H⟩:=H
 refine gR rfl (fC Z rfl rfl rfl rfl rfl hy22) ?_
 refine gZ0 ?_
 refine gT 4 [49] Z ?_
 refine gI 50 H (fun hb H=>?_) (fun hb H=>?_)
 refine gT 5 [5,50] Z ?_
 refine gl 6 [50,51] Z H fun v23 H=>?_
 refine gCr 7 [50,52] O99 (R99 _ _ _ H) fun r24 h25 H=>?_
 obtain ⟨hy26,H⟩:=H
 refine gR rfl (fC Z rfl rfl rfl rfl rfl hy26) ?_
 refine gZ0 ?_
 refine gT 8 [50,53] Z ?_
 obtain ⟨h27,wh27,eh27,H⟩:=H
 refine gH 9 [2,46] rfl (si Z rfl rfl rfl rfl rfl (yV (by kernel_rfl)) wh27 eh27) ?_
 refine gT 10 [54] Z ?_
 refine gZ ?_
 exact xJ r24 H
 refine gS 5 [5,50] ?_
 refine gS 6 [50,51] ?_
 refine gS 7 [50,52] ?_
 refine gT 8 [50,53] Z ?_
 obtain ⟨h28,wh28,eh28,H⟩:=H
 refine gH 9 [2,46] rfl (si Z rfl rfl rfl rfl rfl (yV (by kernel_rfl)) wh28 eh28) ?_
 refine gT 10 [54] Z ?_
 refine gZ ?_
 exact xJ false H
 refine zK (yL (zX (zR (w2 Z (zW ?_)))))
 exact xJ (IntKind.i64.wrap (b_ + 1)) H
 refine zY (yE (yE (yH (zX (zQ ?_)))))
 refine wLa Z H fun v29 H=>?_
 refine wTa Z H fun h30 H=>?_
 refine w1 Z (zE (zF [2,3] (zT ?_)))
 obtain ⟨v31,hv31,H⟩:=H
 exact fu Z _ rfl [.agg (az.cs v31).toArray,.bool false] ⟨⟨_,_,rfl,rfl,.inr ⟨rfl,_,rfl,rfl,hv31⟩⟩,rfl,trivial⟩ ⟨(v31,false),rfl,H⟩
 refine vI 14 H ?_ ?_ <;> intro H
 refine w2 Z ?_
 obtain ⟨v32,lv32,hv32,H⟩:=H
 refine wY (uF Z rfl rfl rfl rfl lv32 hv32) ?_
 refine wC Ql (Qe _ _ _ H) fun r33 h34 H=>?_
 refine w1 Z ?_
 exact wJ r33 H
 refine wS (wS (wS (wS (w1 Z ?_))))
 exact wJ false H
theorem O74:aF prog 74:=ck func74
theorem R74 (p0 k h) (H:je p0 k h):CallsH prog 74 #[.string p0] h (fun v h'=>∃ r:af × Int,v = .tuple #[.agg (af.cs r.1).toArray,.int .i64 r.2]/\k r h'):=by
 refine fE func74 fun w0=>?_
 refine zF [0] (zQ ?_)
 refine wB Z H fun b1 h2 H=>?_
 refine w1 Z (zE (zC (zQ ?_)))
 refine w1 Z ?_
 refine wC O98 (R98 _ _ _ _ H) fun r3 h4 H=>?_
 refine w6 Z ?_
 refine w1 Z (zE (zF [2,4,5,6] (zQ ?_)))
 refine w1 Z ?_
 refine wY (bU Z rfl rfl rfl rfl rfl) ?_
 refine wB Z H fun b5 h6 H=>?_
 refine wTa Z H fun h7 H=>?_
 refine zE (zS (zQ (w3 Z ?_)))
 refine vJ 4 (α:=Bool) [2,5,6,7] (fun (s:Bool)=>[(27,.bool s)]) (fun (s:Bool) h=>lZ (ad b1) r3.2.1 r3.2.2 (ad b5) s k h) ?_ ?_
 rintro f_ h_1 H
 refine vF [27,2,5,6,7] (zE ?_)
 refine zI H ?_ ?_ <;> intro H
 refine zQ ?_
 refine wY (bU Z rfl rfl rfl rfl rfl) ?_
 refine wTa Z H fun h8 H=>?_
 refine w1 Z (zE (zT (yT (yR ?_))))
 obtain ⟨v9,hv9,H⟩:=H
 exact fu Z _ rfl [.agg (af.cs v9).toArray,.int .i64 4] ⟨⟨_,_,rfl,rfl,.inr ⟨rfl,_,rfl,rfl,hv9⟩⟩,rfl,trivial⟩ ⟨(v9,4),rfl,H⟩
 refine zK (zX (zS (zQ (w2 Z (zE ?_)))))
 refine zI H ?_ ?_ <;> intro H
 refine zQ ?_
 refine wLa Z H fun v10 H=>?_
 refine wTa Z H fun h11 H=>?_
 refine w1 Z (zE (zF [2,3] (zT (yT (yR ?_)))))
 obtain ⟨v12,hv12,H⟩:=H
 exact fu Z _ rfl [.agg (af.cs v12).toArray,.int .i64 0] ⟨⟨_,_,rfl,rfl,.inr ⟨rfl,_,rfl,rfl,hv12⟩⟩,rfl,trivial⟩ ⟨(v12,0),rfl,H⟩
 refine zK (zX (zQ (w1 Z ?_)))
 refine wC Su (Sd _ _ _ _ H) fun r13 h14 H=>?_
 refine w5 Z (zE (zF [2,5,7,8] (zS (zA (zX ?_)))))
 refine zJ (α:=Bool) [2,7] (fun (s:Bool)=>[(8,.bool s)]) (fun (s:Bool) h=>fB (ad b1) (ad b5) s k h) ?_ ?_
 rintro g_ h_2 H
 refine zF [8,2,7] (zS (zQ ?_))
 refine w2 Z (zE ?_)
 refine zI H ?_ ?_ <;> intro H
 refine zQ ?_
 refine wY (bU Z rfl rfl rfl rfl rfl) ?_
 refine wTa Z H fun h15 H=>?_
 refine w1 Z (zE (zT (yT (yR ?_))))
 obtain ⟨v16,hv16,H⟩:=H
 exact fu Z _ rfl [.agg (af.cs v16).toArray,.int .i64 4] ⟨⟨_,_,rfl,rfl,.inr ⟨rfl,_,rfl,rfl,hv16⟩⟩,rfl,trivial⟩ ⟨(v16,4),rfl,H⟩
 refine zK (zX (zQ ?_))
 refine wLa Z H fun v17 H=>?_
 refine wTa Z H fun h18 H=>?_
 refine w1 Z (zE (zT (yR ?_)))
 obtain ⟨v19,hv19,H⟩:=H
 exact fu Z _ rfl [.agg (af.cs v19).toArray,.int .i64 0] ⟨⟨_,_,rfl,rfl,.inr ⟨rfl,_,rfl,rfl,hv19⟩⟩,rfl,trivial⟩ ⟨(v19,0),rfl,H⟩
 refine zQ (w1 Z (zE (zB ?_)))
 obtain ⟨I3,μ3,H0,HI⟩:=H
 refine zO (σ:=ByteArray × Bool × Bool) [2,7] (fun (s:ByteArray × Bool × Bool)=>[(5,.string s.1),(8,.bool s.2.1),(9,.bool s.2.2)]) I3 μ3 (r13.1,r13.2,true) H0 ?_
 rintro ⟨d_,a_,b_⟩ h_3 H
 replace H:=HI d_ a_ b_ h_3 H
 refine zF [5,8,9,2,7] (zS (zQ ?_))
 refine w2 Z ?_
 refine vU 2 [2,5,7,8] [(40,.bool (a_ && b_))] ?_ ?_
 refine zE ?_
 refine zI H ?_ ?_ <;> intro H
 refine zK (zX (zB (zQ (w1 Z (zE (zQ ?_))))))
 refine w1 Z ?_
 refine wC O98 (R98 _ _ _ _ H) fun r20 h21 H=>?_
 refine w6 Z ?_
 refine w1 Z (zE (zF [2,5,7,8,10,9] (zQ ?_)))
 refine w1 Z ?_
 refine wC Rj (Q3 _ _ _ H) fun r22 h23 H=>?_
 refine w3 Z ?_
 refine wB Z H fun b24 h25 H=>?_
 refine wTa Z H fun h26 H=>?_
 refine w1 Z (zE (zS (zQ ?_)))
 refine w3 Z ?_
 refine vJ 5 (α:=Bool) [2,5,7,8,9,11] (fun (s:Bool)=>[(59,.bool s)]) (fun (s:Bool) h=>lK (ad b1) r20.2.1 (ad b5) a_ r20.2.2 (ad b24) s k (fun s h'=>I3 s h'/\μ3 s h' < μ3 (d_,a_,b_) h_3) h) ?_ ?_
 rintro h_ h_4 H
 refine vF [59,2,5,7,8,9,11] (zE ?_)
 refine zI H ?_ ?_ <;> intro H
 refine zQ (w1 Z (zE (zY (yE (zM (yE (yH ?_)))))))
 exact xJ false H
 refine zK (zX (zR (w1 Z ?_)))
 refine wL Z H fun v27 H=>?_
 refine wLa Z H fun v28 H=>?_
 obtain ⟨b29,h30,eb29,eh30,H⟩:=H
 refine wH (nJ Z rfl rfl rfl rfl rfl rfl rfl eb29 eh30) ?_
 refine wA (ji (s:=v27) (r:=(⟨some ⟨b29,0,none⟩,1,1⟩:Slc)) Z rfl rfl rfl rfl rfl (bT eb29 eh30) H) ?_
 rintro _ h32 ⟨s31,rfl,H⟩
 refine w1 Z ?_
 refine wT Z H fun h33 H=>?_
 refine zL ?_
 exact xJ (r20.2.1,a_,r20.2.2) H
 refine vI 54 H ?_ ?_ <;> intro H
 refine wS (wS (wS (wS (w1 Z ?_))))
 exact wJ true H
 refine w1 Z ?_
 refine wL Z H fun v34 H=>?_
 refine w3 Z ?_
 exact wJ ((v34.len:Int) == 8) H
 refine zY (yE (yE (yH ?_)))
 exact xJ a_ H
 refine vG (d:=38) (fun hb=>?_) (fun hb=>?_)
 refine w2 Z ?_
 refine vK ?_
 exact congrArg (fun b=>some (Value.bool b)) (jD hb)
 refine wS (w1 Z ?_)
 refine vK ?_
 exact congrArg (fun b=>some (Value.bool b)) (jH hb)
 refine vI 23 H ?_ ?_ <;> intro H
 refine w1 Z ?_
 refine wC O99 (R99 _ _ _ H) fun r35 h36 H=>?_
 refine w2 Z ?_
 exact wJ (!r35) H
 refine wS (wS (wS (w1 Z ?_)))
 exact wJ false H
theorem Tg:aF prog 102:=ck func102
theorem QW (p0 k h) (H:yn p0 k h):CallsH prog 102 #[.agg (ay.cs p0).toArray] h (rI .i64 k):=by
 refine fE func102 fun w0=>?_
 refine zF [0] (zQ ?_)
 refine wX H fun b1 h2 H=>?_
 refine w1 Z (zE (zS (zQ ?_)))
 refine w1 Z ?_
 refine wL Z H fun v3 H=>?_
 refine wC O99 (R99 _ _ _ H) fun r4 h5 H=>?_
 refine w2 Z ?_
 refine vJ 5 (α:=Bool) [1] (fun (s:Bool)=>[(14,.bool s)]) (fun (s:Bool) h=>oN (ad b1) s k h) ?_ ?_
 rintro b_ h_1 H
 refine vF [14,1] (zE ?_)
 refine zI H ?_ ?_ <;> intro H
 refine zQ (w1 Z (zE (zT (yT ?_))))
 exact aB _ rfl _ rfl ⟨1,rfl,H⟩
 refine zK (zX (zS (zQ (w1 Z ?_))))
 refine wL Z H fun v6 H=>?_
 refine w2 Z (zE (zB ?_))
 obtain ⟨I2,μ2,H0,HI⟩:=H
 refine zO (σ:=Int) [1,16,17] (fun (s:Int)=>[(18,.int .i64 s)]) I2 μ2 0 H0 ?_
 rintro a_ h_2 H
 replace H:=HI a_ h_2 H
 refine zF [18,1,16,17] (zQ ?_)
 refine w1 Z (zE (zS ?_))
 refine zI H ?_ ?_ <;> intro H
 refine zK (zX (zS (zB (zQ (w1 Z ?_)))))
 refine wD Z H fun a7 _ H=>?_
 refine wLa Z H fun v8 H=>?_
 refine wB Z H fun b9 h10 H=>?_
 refine w1 Z ?_
 refine wTa Z H fun h11 H=>?_
 refine zE ?_
 refine zJ (α:=Bool) [1,16,17,18] (fun (s:Bool)=>[(48,.bool s)]) (fun (s:Bool) h=>gu (ad b1) v6 (v6.len:Int) a_ s k (fun s h'=>I2 s h'/\μ2 s h' < μ2 a_ h_2) h) ?_ ?_
 rintro d_ h_3 H
 refine zF [48,1,16,17,18] ?_
 refine zI H ?_ ?_ <;> intro H
 refine zQ (w1 Z (zE (zT (yB (yT (yT (yB (yT ?_))))))))
 exact aB _ rfl _ rfl ⟨1,rfl,H⟩
 refine zK (yL (zX (zR (w2 Z (zW ?_)))))
 exact xJ (IntKind.i64.wrap (a_ + 1)) H
 refine gB [1,3,4,16,17,18] ?_
 refine gT 0 [4] Z ?_
 refine gl 1 [23] Z H fun v12 H=>?_
 refine gC 2 [24] O99 (R99 _ _ _ H) fun r13 h14 H=>?_
 refine gT 3 [25] Z ?_
 refine gT 4 [26] Z ?_
 refine gI 27 H (fun hb H=>?_) (fun hb H=>?_)
 refine gS 5 [4,27] ?_
 refine gS 6 [27,28] ?_
 refine gS 7 [27,29] ?_
 refine gS 8 [27,30] ?_
 refine gT 9 [27,31] Z ?_
 refine gT 10 [32] Z ?_
 refine gI 33 H (fun hb H=>?_) (fun hb H=>?_)
 refine gS 11 [3,33] ?_
 refine gS 12 [33,34] ?_
 refine gS 13 [33,35] ?_
 refine gS 14 [1,36] ?_
 refine gS 15 [36,37] ?_
 refine gS 16 [3,36] ?_
 refine gS 17 [36,39] ?_
 refine gS 18 [36,38,40] ?_
 refine gS 19 [36,41] ?_
 refine gS 20 [36,42] ?_
 refine gS 21 [4,36] ?_
 refine gS 22 [36,44] ?_
 refine gS 23 [36,43,45] ?_
 refine gS 24 [33,36,46] ?_
 refine gT 25 [33,47] Z ?_
 refine gZ ?_
 exact xJ true H
 refine gT 11 [3,33] Z ?_
 refine gT 12 [33,34] Z ?_
 refine gT 13 [33,35] Z ?_
 refine gI 36 H (fun hb H=>?_) (fun hb H=>?_)
 refine gT 14 [1,36] Z ?_
 refine gl 15 [36,37] Z H fun v15 H=>?_
 refine gT 16 [3,36] Z ?_
 refine gT 17 [36,39] Z ?_
 refine gd 18 [36,38,40] Z H fun a16 H=>?_
 refine gT 19 [36,41] Z ?_
 refine gl 20 [36,42] Z H fun v17 H=>?_
 refine gT 21 [4,36] Z ?_
 refine gl 22 [36,44] Z H fun v18 H=>?_
 refine gT 23 [36,43,45] Z ?_
 refine gT 24 [33,36,46] Z ?_
 refine gT 25 [33,47] Z ?_
 refine gZ ?_
 exact xJ (!(Op.bytesLess v17.toList v18.toList)) H
 refine gS 14 [1,36] ?_
 refine gS 15 [36,37] ?_
 refine gS 16 [3,36] ?_
 refine gS 17 [36,39] ?_
 refine gS 18 [36,38,40] ?_
 refine gS 19 [36,41] ?_
 refine gS 20 [36,42] ?_
 refine gS 21 [4,36] ?_
 refine gS 22 [36,44] ?_
 refine gS 23 [36,43,45] ?_
 refine gT 24 [33,36,46] Z ?_
 refine gT 25 [33,47] Z ?_
 refine gZ ?_
 exact xJ false H
 refine gT 5 [4,27] Z ?_
 refine gl 6 [27,28] Z H fun v19 H=>?_
 refine gC 7 [27,29] O99 (R99 _ _ _ H) fun r20 h21 H=>?_
 refine gT 8 [27,30] Z ?_
 refine gT 9 [27,31] Z ?_
 refine gT 10 [32] Z ?_
 refine gI 33 H (fun hb H=>?_) (fun hb H=>?_)
 refine gS 11 [3,33] ?_
 refine gS 12 [33,34] ?_
 refine gS 13 [33,35] ?_
 refine gS 14 [1,36] ?_
 refine gS 15 [36,37] ?_
 refine gS 16 [3,36] ?_
 refine gS 17 [36,39] ?_
 refine gS 18 [36,38,40] ?_
 refine gS 19 [36,41] ?_
 refine gS 20 [36,42] ?_
 refine gS 21 [4,36] ?_
 refine gS 22 [36,44] ?_
 refine gS 23 [36,43,45] ?_
 refine gS 24 [33,36,46] ?_
 refine gT 25 [33,47] Z ?_
 refine gZ ?_
 exact xJ true H
 refine gT 11 [3,33] Z ?_
 refine gT 12 [33,34] Z ?_
 refine gT 13 [33,35] Z ?_
 refine gI 36 H (fun hb H=>?_) (fun hb H=>?_)
 refine gT 14 [1,36] Z ?_
 refine gl 15 [36,37] Z H fun v22 H=>?_
 refine gT 16 [3,36] Z ?_
 refine gT 17 [36,39] Z ?_
 refine gd 18 [36,38,40] Z H fun a23 H=>?_
 refine gT 19 [36,41] Z ?_
 refine gl 20 [36,42] Z H fun v24 H=>?_
 refine gT 21 [4,36] Z ?_
 refine gl 22 [36,44] Z H fun v25 H=>?_
 refine gT 23 [36,43,45] Z ?_
 refine gT 24 [33,36,46] Z ?_
 refine gT 25 [33,47] Z ?_
 refine gZ ?_
 exact xJ (!(Op.bytesLess v24.toList v25.toList)) H
 refine gS 14 [1,36] ?_
 refine gS 15 [36,37] ?_
 refine gS 16 [3,36] ?_
 refine gS 17 [36,39] ?_
 refine gS 18 [36,38,40] ?_
 refine gS 19 [36,41] ?_
 refine gS 20 [36,42] ?_
 refine gS 21 [4,36] ?_
 refine gS 22 [36,44] ?_
 refine gS 23 [36,43,45] ?_
 refine gT 24 [33,36,46] Z ?_
 refine gT 25 [33,47] Z ?_
 refine gZ ?_
 exact xJ false H
 refine zY (yE (yE (yH (zX (zQ (w1 Z (zE (zT ?_))))))))
 exact aB _ rfl _ rfl ⟨0,rfl,H⟩
 refine vI 9 H ?_ ?_ <;> intro H
 refine wS (wS (wS (wS (w1 Z ?_))))
 exact wJ true H
 refine w1 Z ?_
 refine wL Z H fun v26 H=>?_
 refine w3 Z ?_
 exact wJ (decide ((v26.len:Int) > 8)) H
theorem O76:aF prog 76:=ck func76
theorem R76 (p0 k h) (H:tY p0 k h):CallsH prog 76 #[.string p0] h (fun v h'=>∃ r:ay × Int,v = .tuple #[.agg (ay.cs r.1).toArray,.int .i64 r.2]/\k r h'):=by
 refine fE func76 fun w0=>?_
 refine zF [0] (zQ ?_)
 refine wB Z H fun b1 h2 H=>?_
 refine w1 Z (zE (zQ ?_))
 refine w1 Z ?_
 refine wC O74 (R74 _ _ _ H) fun r3 h4 H=>?_
 refine w3 Z ?_
 refine wB Z H fun b5 h6 H=>?_
 refine wTa Z H fun h7 H=>?_
 refine w1 Z (zE (zF [2,4,5] (zQ ?_)))
 refine w1 Z ?_
 refine wL Z H fun v8 H=>?_
 refine wY (bU Z rfl rfl rfl rfl rfl) ?_
 refine wB Z H fun b9 h10 H=>?_
 refine wTa Z H fun h11 H=>?_
 refine zE (zS (zQ (w1 Z ?_)))
 refine wL Z H fun v12 H=>?_
 refine w2 Z (zE (zB ?_))
 obtain ⟨I1,μ1,H0,HI⟩:=H
 refine zO (σ:=Int × Int) [2,6,18,19] (fun (s:Int × Int)=>[(5,.int .i64 s.1),(20,.int .i64 s.2)]) I1 μ1 (r3.2,0) H0 ?_
 rintro ⟨b_,a_⟩ h_1 H
 replace H:=HI b_ a_ h_1 H
 refine zF [5,20,2,6,18,19] (zQ ?_)
 refine w1 Z (zE (zS ?_))
 refine zI H ?_ ?_ <;> intro H
 refine zK (zX (zS (zB (zQ ?_))))
 refine wD Z H fun a13 _ H=>?_
 refine wLa Z H fun v14 H=>?_
 refine wB Z H fun b15 h16 H=>?_
 refine wTa Z H fun h17 H=>?_
 refine zE ?_
 refine zJ (α:=Int) [2,6,8,18,19,20] (fun (s:Int)=>[(5,.int .i64 s)]) (fun (s:Int) h=>pF (ad b1) (ad b9) (ad b15) v12 (v12.len:Int) a_ s k (fun s h'=>I1 s h'/\μ1 s h' < μ1 (b_,a_) h_1) h) ?_ ?_
 rintro d_ h_2 H
 refine zF [5,2,6,8,18,19,20] (zR ?_)
 refine w1 Z ?_
 refine wL Z H fun v18 H=>?_
 refine w1 Z ?_
 refine wL Z H fun v19 H=>?_
 refine w1 Z ?_
 refine wL Z H fun v20 H=>?_
 refine wY (bU Z rfl rfl rfl rfl rfl) ?_
 obtain ⟨b21,h22,eb21,eh22,H⟩:=H
 refine wH (nJ Z rfl rfl rfl rfl rfl rfl rfl eb21 eh22) ?_
 refine wA (ji (s:=v18) (r:=(⟨some ⟨b21,0,none⟩,1,1⟩:Slc)) Z rfl rfl rfl rfl rfl (bT eb21 eh22) H) ?_
 rintro _ h24 ⟨s23,rfl,H⟩
 refine w1 Z ?_
 refine wT Z H fun h25 H=>?_
 refine zL (zX (zF [5,2,6,18,19,20] (zR ?_)))
 refine w2 Z (zW ?_)
 exact xJ (d_,(IntKind.i64.wrap (a_ + 1))) H
 refine zQ (w1 Z ?_)
 refine wL Z H fun v26 H=>?_
 refine w1 Z (zE ?_)
 refine zI H ?_ ?_ <;> intro H
 refine zR (w1 Z (zW ?_))
 exact xJ 4 H
 refine zK ?_
 exact xJ b_ H
 refine zY (yE (yE (yH (zX (zS (zQ (w3 Z ?_)))))))
 refine vJ 4 (α:=Bool) [2,6] (fun (s:Bool)=>[(44,.bool s)]) (fun (s:Bool) h=>oP (ad b1) (ad b9) s k (fun s h'=>I1 s h'/\μ1 s h' < μ1 (b_,a_) h_1) h) ?_ ?_
 rintro f_ h_3 H
 refine vF [44,2,6] (zE ?_)
 refine zI H ?_ ?_ <;> intro H
 refine zQ ?_
 refine wY (bU Z rfl rfl rfl rfl rfl) ?_
 refine wTa Z H fun h27 H=>?_
 refine w1 Z (zE (zT (yT ?_)))
 obtain ⟨v28,hv28,H⟩:=H
 exact fu Z _ rfl [.agg (ay.cs v28).toArray,.int .i64 4] ⟨⟨_,_,rfl,rfl,.inr ⟨rfl,_,rfl,rfl,hv28⟩⟩,rfl,trivial⟩ ⟨(v28,4),rfl,H⟩
 refine zK (zX (zQ ?_))
 refine wLa Z H fun v29 H=>?_
 refine wTa Z H fun h30 H=>?_
 refine w1 Z (zE (zT ?_))
 obtain ⟨v31,hv31,H⟩:=H
 exact fu Z _ rfl [.agg (ay.cs v31).toArray,.int .i64 0] ⟨⟨_,_,rfl,rfl,.inr ⟨rfl,_,rfl,rfl,hv31⟩⟩,rfl,trivial⟩ ⟨(v31,0),rfl,H⟩
 refine vI 40 H ?_ ?_ <;> intro H
 refine wS (wS (wS (w1 Z ?_)))
 exact wJ true H
 refine wLa Z H fun v32 H=>?_
 refine wC Tg (QW _ _ _ H) fun r33 h34 H=>?_
 refine w2 Z ?_
 exact wJ (r33 != 0) H
end Go.Q.Yq
end
