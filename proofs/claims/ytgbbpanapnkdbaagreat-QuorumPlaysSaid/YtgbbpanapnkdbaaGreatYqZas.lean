/- A part of the proof of statements of this seat: lemmas, no statement of their own. -/
import Derived.Test.YtgbbpanapnkdbaaGreatYqZad
import Derived.Test.YtgbbpanapnkdbaaGreatYqZae
import Derived.Test.YtgbbpanapnkdbaaGreatYqZan
import Derived.Test.YtgbbpanapnkdbaaGreatYqZao
import Derived.Test.YtgbbpanapnkdbaaGreatYqZar
import Derived.Test.YtgbbpanapnkdbaaGreatYqZag
set_option linter.unusedVariables false
set_option linter.unusedSimpArgs false
set_option maxRecDepth 100000
set_option maxHeartbeats 1000000
section
namespace Go.Q.Yq
open Go.Proofs.Tryz
/-- (*quaestor quorum.Desk).Due -/
def kK (d_:Option Addr) (f_:Slc) (g_:Int) (a_:Int) (b_:Slc) (k:KP Slc) (nx1:KP (Slc × Int)) (h_2:Heap):Prop :=
  nx1 (b_,(IntKind.i64.wrap (a_ + 1))) h_2
def ky (d_:Option Addr) (f_:Int) (g_:Option Addr) (h_:Slc) (j_:Int) (l_:Int) (m_:Slc) (n_:Int) (a_:Int) (b_:Slc) (k:KP Slc) (nx1:KP (Slc × Int)) (nx3:KP (Slc × Int)) (h_4:Heap):Prop :=
  nx3 (b_,(IntKind.i64.wrap (a_ + 1))) h_4
def uN (f_:Option Addr) (b_:Int) (g_:Option Addr) (h_:Slc) (j_:Int) (l_:Int) (d_:Slc) (m_:Int) (n_:Slc) (a_:Int) (k:KP Slc) (nx1:KP (Slc × Int)) (nx3:KP (Slc × Int)) (h_3:Heap):Prop :=
  if (decide (a_ < m_)) then (∃ a11,d_.a=some a11/\(0:Int)<=a_/\a_ < (d_.len:Int)/\(∃ v12,ah h_3 (a11.add (a_.toNat * 1))=some (.int .i64 v12)/\(∃ a13,g_=some a13/\(∃ v14,ah h_3 (a13.add 28)=some (Slc.v v14)/\(dJ v14 v12 (fun r15 h16=>if (!r15) then (∃ b17 h18,b17=h16.size/\h18=h16.push (.cells ((aY.cs (⟨b_,v12⟩:aY))).toArray 84)/\(App 84 2 16 [.int .u64 0,.int .i64 0] h18 n_ 1 ((aY.cs (⟨b_,v12⟩:aY))) (fun s19 h20=>ky f_ b_ g_ h_ j_ l_ d_ m_ a_ s19 k nx1 nx3 h20))) else (ky f_ b_ g_ h_ j_ l_ d_ m_ a_ n_ k nx1 nx3 h16)) h_3))))) else (kK f_ h_ j_ l_ n_ k nx1 h_3)
def vZ (d_:Option Addr) (f_:Int) (g_:Option Addr) (h_:Slc) (j_:Int) (l_:Int) (m_:Slc) (n_:Int) (i3:Slc) (i31:Int) (k:KP Slc) (nx1:KP (Slc × Int)) (h:Heap):Prop :=
  ∃ (I:KP (Slc × Int)) (μ:(Slc × Int)->Heap->Nat),I (i3,i31) h/\∀ (a_:Slc) (b_:Int) (h:Heap),I (a_,b_) h->uN d_ f_ g_ h_ j_ l_ m_ n_ a_ b_ k nx1 (fun s h'=>I s h'/\μ s h' < μ (a_,b_) h) h
def uY (d_:Option Addr) (b_:Slc) (f_:Int) (g_:Slc) (a_:Int) (k:KP Slc) (nx1:KP (Slc × Int)) (h_1:Heap):Prop :=
  if (decide (a_ < f_)) then (∃ a3,b_.a=some a3/\(0:Int)<=a_/\a_ < (b_.len:Int)/\(∃ v4,ah h_1 (a3.add (a_.toNat * 1))=some (.int .u64 v4)/\(∃ a5,d_=some a5/\(∃ v6,ah h_1 a5=some (.map v6)/\(∃ l7:List (Int × Option Addr),MapAt (K:=Int) (V:=Option Addr) (.int .u64) (Value.int .u64) (fun v:Option Addr=>(.pointer v:Value)) h_1 v6 l7/\(∃ a8,((jP l7 v4).getD none)=some a8/\(∃ v9,ah h_1 (a8.add 30)=some (.bool v9)/\(if v9 then (kK d_ b_ f_ a_ g_ k nx1 h_1) else (∃ v10,ah h_1 (a8.add 27)=some (Slc.v v10)/\(vZ d_ v4 ((jP l7 v4).getD none) b_ f_ a_ v10 (v10.len:Int) g_ 0 k nx1 h_1)))))))))) else (k g_ h_1)
def wU (d_:Option Addr) (f_:Slc) (g_:Int) (i3:Slc) (i12:Int) (k:KP Slc) (h:Heap):Prop :=
  ∃ (I:KP (Slc × Int)) (μ:(Slc × Int)->Heap->Nat),I (i3,i12) h/\∀ (a_:Slc) (b_:Int) (h:Heap),I (a_,b_) h->uY d_ f_ g_ a_ b_ k (fun s h'=>I s h'/\μ s h' < μ (a_,b_) h) h
def qA (p0:Option Addr) (k:KP Slc) (h:Heap):Prop :=
  jX p0 (fun r1 h2=>wU p0 r1 (r1.len:Int) (⟨none,0,0⟩:Slc) 0 k h2) h
/-- quaestor quaestorlaw31.QuorumPlays -/
def bz (d_:Slc) (f_:Option Addr) (g_:Addr) (h_:Int) (j_:Addr) (a_:Int) (b_:Bool) (k:KP Bool) (nx1:KP Int) (nx4:KP Int) (h_6:Heap):Prop :=
  if b_ then (k false h_6) else (∃ x32,x32=(IntKind.i64.wrap (a_ + 1))/\(nx4 x32 h_6))
def fQ (d_:Slc) (f_:Option Addr) (b_:Addr) (g_:Int) (h_:Addr) (a_:Int) (l_:Addr) (j_:Int) (m_:Bool) (k:KP Bool) (nx1:KP Int) (nx4:KP Int) (h_5:Heap):Prop :=
  if m_ then (k false h_5) else (∃ v33,ah h_5 b_=some (Slc.v v33)/\(∃ a34,v33.a=some a34/\(0:Int)<=a_/\a_ < (v33.len:Int)/\(∃ v35,ah h_5 ((a34.add (a_.toNat * 33)).add 30)=some (.bool v35)/\(if v35 then (if (j_ != 0) then (if true then (bz d_ f_ b_ g_ h_ a_ true k nx1 nx4 h_5) else (∃ v36,ah h_5 b_=some (Slc.v v36)/\(∃ a37,v36.a=some a37/\(0:Int)<=a_/\a_ < (v36.len:Int)/\(∃ v38,ah h_5 ((a37.add (a_.toNat * 33)).add 30)=some (.bool v38)/\(if (!v38) then (bz d_ f_ b_ g_ h_ a_ (j_ != 14) k nx1 nx4 h_5) else (bz d_ f_ b_ g_ h_ a_ false k nx1 nx4 h_5)))))) else (∃ v39,ai h_5 l_ (aj.cs v39)/\(∃ v40,ah h_5 b_=some (Slc.v v40)/\(∃ a41,v40.a=some a41/\(0:Int)<=a_/\a_ < (v40.len:Int)/\(∃ v42,ai h_5 (a41.add (a_.toNat * 33)) (aj.cs v42)/\(sF v39 v42 (fun r43 h44=>if (!r43) then (bz d_ f_ b_ g_ h_ a_ true k nx1 nx4 h44) else (∃ v45,ah h44 b_=some (Slc.v v45)/\(∃ a46,v45.a=some a46/\(0:Int)<=a_/\a_ < (v45.len:Int)/\(∃ v47,ah h44 ((a46.add (a_.toNat * 33)).add 30)=some (.bool v47)/\(if (!v47) then (bz d_ f_ b_ g_ h_ a_ (j_ != 14) k nx1 nx4 h44) else (bz d_ f_ b_ g_ h_ a_ false k nx1 nx4 h44)))))) h_5)))))) else (if false then (bz d_ f_ b_ g_ h_ a_ true k nx1 nx4 h_5) else (∃ v48,ah h_5 b_=some (Slc.v v48)/\(∃ a49,v48.a=some a49/\(0:Int)<=a_/\a_ < (v48.len:Int)/\(∃ v50,ah h_5 ((a49.add (a_.toNat * 33)).add 30)=some (.bool v50)/\(if (!v50) then (bz d_ f_ b_ g_ h_ a_ (j_ != 14) k nx1 nx4 h_5) else (bz d_ f_ b_ g_ h_ a_ false k nx1 nx4 h_5))))))))))
def sj (h_:Slc) (d_:Option Addr) (b_:Addr) (g_:Int) (f_:Addr) (a_:Int) (k:KP Bool) (nx1:KP Int) (nx4:KP Int) (h_4:Heap):Prop :=
  ∃ v15,ah h_4 b_=some (Slc.v v15)/\(if (decide (a_ < (v15.len:Int))) then (∃ v16,ah h_4 b_=some (Slc.v v16)/\(∃ a17,v16.a=some a17/\(0:Int)<=a_/\a_ < (v16.len:Int)/\(∃ v18,ah h_4 (a17.add (a_.toNat * 33))=some (.int .u64 v18)/\(mO d_ v18 (fun r19 h20=>∃ b21 h22,b21=h20.size/\h22=h20.push (.cells (aj.cs (⟨0,0,ByteArray.empty,(⟨none,0,0⟩:Slc),(⟨ByteArray.empty,0,0,0,0⟩:aC),(⟨0,ByteArray.empty,0,([]:List Int),(⟨none,0,0⟩:Slc),0⟩:aT),0,(⟨none,0,0⟩:Slc),(⟨none,0,0⟩:Slc),0,false,0,(⟨none,0,0⟩:Slc)⟩:aj)).toArray 39)/\(∃ h23,aN h22 (ad b21) 33/\h23=aM h22 (ad b21) 0 (aj.cs r19.1)/\(∃ v24,ah h23 b_=some (Slc.v v24)/\(∃ a25,v24.a=some a25/\(0:Int)<=a_/\a_ < (v24.len:Int)/\(∃ v26,ah h23 (a25.add (a_.toNat * 33))=some (.int .u64 v26)/\(iC d_ v26 (fun r27 h28=>∃ b29 h30,b29=h28.size/\h30=h28.push (.cells (aj.cs (⟨0,0,ByteArray.empty,(⟨none,0,0⟩:Slc),(⟨ByteArray.empty,0,0,0,0⟩:aC),(⟨0,ByteArray.empty,0,([]:List Int),(⟨none,0,0⟩:Slc),0⟩:aT),0,(⟨none,0,0⟩:Slc),(⟨none,0,0⟩:Slc),0,false,0,(⟨none,0,0⟩:Slc)⟩:aj)).toArray 39)/\(∃ h31,aN h30 (ad b29) 33/\h31=aM h30 (ad b29) 0 (aj.cs r27.1)/\(if (r19.2 != 0) then (fQ h_ d_ b_ g_ f_ a_ (ad b29) r27.2 true k nx1 nx4 h31) else (∃ v51,ai h31 (ad b21) (aj.cs v51)/\(∃ v52,ah h31 b_=some (Slc.v v52)/\(∃ a53,v52.a=some a53/\(0:Int)<=a_/\a_ < (v52.len:Int)/\(∃ v54,ai h31 (a53.add (a_.toNat * 33)) (aj.cs v54)/\(sF v51 v54 (fun r55 h56=>fQ h_ d_ b_ g_ f_ a_ (ad b29) r27.2 (!r55) k nx1 nx4 h56) h31)))))))) h23)))))) h_4)))) else (∃ v57,ah h_4 (f_.add 34)=some (.int .u64 v57)/\(mO d_ v57 (fun r58 h59=>∃ b60 h61,b60=h59.size/\h61=h59.push (.cells (aj.cs (⟨0,0,ByteArray.empty,(⟨none,0,0⟩:Slc),(⟨ByteArray.empty,0,0,0,0⟩:aC),(⟨0,ByteArray.empty,0,([]:List Int),(⟨none,0,0⟩:Slc),0⟩:aT),0,(⟨none,0,0⟩:Slc),(⟨none,0,0⟩:Slc),0,false,0,(⟨none,0,0⟩:Slc)⟩:aj)).toArray 39)/\(∃ h62,aN h61 (ad b60) 33/\h62=aM h61 (ad b60) 0 (aj.cs r58.1)/\(∃ v63,ah h62 (f_.add 34)=some (.int .u64 v63)/\(gX (some b_) v63 (fun r64 h65=>if ((!((r58.2 == 0) == (decide (r64>=0)))) || ((r58.2 != 0) && (r58.2 != 6))) then (k false h65) else (∃ x66,x66=(IntKind.i64.wrap (g_ + 1))/\(nx1 x66 h65))) h62)))) h_4)))
def uo (b_:Slc) (d_:Option Addr) (f_:Addr) (g_:Int) (h_:Addr) (i9:Int) (k:KP Bool) (nx1:KP Int) (h:Heap):Prop :=
  ∃ (I:KP Int) (μ:Int->Heap->Nat),I i9 h/\∀ (a_:Int) (h:Heap),I a_ h->sj b_ d_ f_ g_ h_ a_ k nx1 (fun s h'=>I s h'/\μ s h' < μ a_ h) h
def mf (a_:Slc) (b_:Option Addr) (d_:Addr) (f_:Int) (g_:Addr) (h_:Bool) (k:KP Bool) (nx1:KP Int) (h_3:Heap):Prop :=
  if h_ then (k false h_3) else (uo a_ b_ d_ f_ g_ 0 k nx1 h_3)
def bV (d_:Slc) (a_:Option Addr) (b_:Addr) (f_:Int) (g_:Addr) (h_:Bool) (k:KP Bool) (nx1:KP Int) (h_2:Heap):Prop :=
  if (!h_) then (mf d_ a_ b_ f_ g_ true k nx1 h_2) else (qA a_ (fun r67 h68=>qR (some b_) (fun r69 h70=>qC r67 r69 (fun r71 h72=>mf d_ a_ b_ f_ g_ (!r71) k nx1 h72) h70) h68) h_2)
def rZ (g_:Slc) (a_:Option Addr) (b_:Addr) (h_:Int) (d_:Addr) (j_:Bool) (f_:Int) (k:KP Bool) (nx1:KP Int) (nx8:KP Int) (h_8:Heap):Prop :=
  ∃ v102,ah h_8 (d_.add 34)=some (.int .u64 v102)/\(if (decide (f_ < (IntKind.i64.wrap (Int.tmod v102 70)))) then (pW a_ (fun r103 h104=>qz (some b_) (fun r105 h106=>∃ x107,x107=(IntKind.i64.wrap (f_ + 1))/\(nx8 x107 h106)) h104) h_8) else (bV g_ a_ b_ h_ d_ j_ k nx1 h_8))
def tX (b_:Slc) (d_:Option Addr) (f_:Addr) (g_:Int) (h_:Addr) (j_:Bool) (i8:Int) (k:KP Bool) (nx1:KP Int) (h:Heap):Prop :=
  ∃ (I:KP Int) (μ:Int->Heap->Nat),I i8 h/\∀ (a_:Int) (h:Heap),I a_ h->rZ b_ d_ f_ g_ h_ j_ a_ k nx1 (fun s h'=>I s h'/\μ s h' < μ a_ h) h
def fK (f_:Slc) (b_:Option Addr) (d_:Addr) (g_:Int) (a_:Addr) (j_:Bool) (h_:Int) (l_:Bool) (k:KP Bool) (nx1:KP Int) (h_7:Heap):Prop :=
  if l_ then (∃ v76,ah h_7 (a_.add 34)=some (.int .u64 v76)/\(∃ v77,ah h_7 (a_.add 35)=some (.int .i64 v77)/\(∃ v78,ah h_7 (a_.add 36)=some (Slc.v v78)/\(∃ v79,ah h_7 (a_.add 34)=some (.int .u64 v79)/\(∃ v80,ah h_7 (a_.add 35)=some (.int .i64 v80)/\(∃ v81,ah h_7 (a_.add 36)=some (Slc.v v81)/\(lq b_ v76 v77 v78 (fun r82 h83=>ah h83 (a_.add 36)=some (Slc.v v81)/\ah h83 (a_.add 35)=some (.int .i64 v80)/\ah h83 (a_.add 34)=some (.int .u64 v79)/\(rF (some d_) v79 v80 v81 (fun r87 h88=>bV f_ b_ d_ g_ a_ ((r82 == r87)) k nx1 h88) h83)) h_7))))))) else (if (h_ == 4) then (∃ v89,ah h_7 (a_.add 34)=some (.int .u64 v89)/\(∃ v90,ah h_7 (a_.add 35)=some (.int .i64 v90)/\(∃ v91,ah h_7 (a_.add 37)=some (.int .i64 v91)/\(∃ v92,ah h_7 (a_.add 34)=some (.int .u64 v92)/\(∃ v93,ah h_7 (a_.add 35)=some (.int .i64 v93)/\(∃ v94,ah h_7 (a_.add 37)=some (.int .i64 v94)/\(rH b_ v89 v90 v91 (fun r95 h96=>ah h96 (a_.add 37)=some (.int .i64 v94)/\ah h96 (a_.add 35)=some (.int .i64 v93)/\ah h96 (a_.add 34)=some (.int .u64 v92)/\(tF (some d_) v92 v93 v94 (fun r100 h101=>bV f_ b_ d_ g_ a_ ((r95 == r100)) k nx1 h101) h96)) h_7))))))) else (if (h_ == 5) then (tX f_ b_ d_ g_ a_ j_ 0 k nx1 h_7) else (∃ v108,ai h_7 (a_.add 1) (aj.cs v108)/\(∃ v109,ai h_7 (a_.add 1) (aj.cs v109)/\(lJ b_ v108 (fun r110 h111=>ai h111 (a_.add 1) (aj.cs v109)/\(pU (some d_) v109 (fun r113 h114=>if (r110 == r113) then (∃ v115,ai h114 (a_.add 1) (aj.cs v115)/\(∃ v116,ai h114 (a_.add 1) (aj.cs v116)/\(nU v115 (fun r117 h118=>ai h118 (a_.add 1) (aj.cs v116)/\(qM v116 (fun r120 h121=>bV f_ b_ d_ g_ a_ (r117 == r120) k nx1 h121) h118)) h114))) else (bV f_ b_ d_ g_ a_ false k nx1 h114)) h111)) h_7)))))
def sD (b_:Slc) (d_:Option Addr) (f_:Addr) (a_:Int) (k:KP Bool) (nx1:KP Int) (h_1:Heap):Prop :=
  if ((decide (a_ < (b_.len:Int))) && (decide (a_ < 30))) then (∃ a5,b_.a=some a5/\(0:Int)<=a_/\a_ < (b_.len:Int)/\(∃ v6,ai h_1 (a5.add (a_.toNat * 38)) (S_quaestorlaw31_Act.cs v6)/\(∃ b7 h8,b7=h_1.size/\h8=h_1.push (.cells (S_quaestorlaw31_Act.cs (⟨0,(⟨0,0,ByteArray.empty,(⟨none,0,0⟩:Slc),(⟨ByteArray.empty,0,0,0,0⟩:aC),(⟨0,ByteArray.empty,0,([]:List Int),(⟨none,0,0⟩:Slc),0⟩:aT),0,(⟨none,0,0⟩:Slc),(⟨none,0,0⟩:Slc),0,false,0,(⟨none,0,0⟩:Slc)⟩:aj),0,0,(⟨none,0,0⟩:Slc),0⟩:S_quaestorlaw31_Act)).toArray 41)/\(∃ h9,aN h8 (ad b7) 38/\h9=aM h8 (ad b7) 0 (S_quaestorlaw31_Act.cs v6)/\(∃ v10,ai h9 (ad b7) (S_quaestorlaw31_Act.cs v10)/\(xM v10 (fun r11 h12=>if r11 then (qK  (fun r13 h14=>k r13 h14) h12) else (∃ v73,ah h12 (ad b7)=some (.int .i64 v73)/\(zw v73 6 (fun r74 h75=>if (r74 == 2) then (fK b_ d_ f_ a_ (ad b7) true r74 (r74 == 2) k nx1 h75) else (fK b_ d_ f_ a_ (ad b7) true r74 (r74 == 3) k nx1 h75)) h12))) h9)))))) else (qK  (fun r122 h123=>k r122 h123) h_1)
def um (b_:Slc) (d_:Option Addr) (f_:Addr) (i5:Int) (k:KP Bool) (h:Heap):Prop :=
  ∃ (I:KP Int) (μ:Int->Heap->Nat),I i5 h/\∀ (a_:Int) (h:Heap),I a_ h->sD b_ d_ f_ a_ k (fun s h'=>I s h'/\μ s h' < μ a_ h) h
def oD (p0:Slc) (k:KP Bool) (h:Heap):Prop :=
  wV  (fun r1 h2=>∃ b3 h4,b3=h2.size/\h4=h2.push (.cells (mh.cs (⟨(⟨none,0,0⟩:Slc)⟩:mh)).toArray 55)/\(um p0 r1 (ad b3) 0 k h4)) h
theorem O22:aF prog 22:=ck func22
theorem R22 (p0 k h) (H:qA p0 k h):CallsH prog 22 #[.pointer p0] h (rS k):=by
 refine fE func22 fun w0=>?_
 refine zF [0] (zQ ?_)
 refine w1 Z (zE (zC (zQ ?_)))
 refine w1 Z (zE (zS (zA (zX (zS (zQ ?_))))))
 refine w1 Z ?_
 refine wC O32 (R32 _ _ _ H) fun r1 h2 H=>?_
 refine w2 Z (zE (zB ?_))
 obtain ⟨I1,μ1,H0,HI⟩:=H
 refine zO (σ:=Slc × Int) [0,10,11] (fun (s:Slc × Int)=>[(3,Slc.v s.1),(12,.int .i64 s.2)]) I1 μ1 ((⟨none,0,0⟩:Slc),0) H0 ?_
 rintro ⟨a_,b_⟩ h_1 H
 replace H:=HI a_ b_ h_1 H
 refine zF [3,12,0,10,11] (zQ ?_)
 refine w1 Z (zE (zS ?_))
 refine zI H ?_ ?_ <;> intro H
 refine zK (zX ?_)
 refine zJ (α:=Slc) [0,10,11,12] (fun (s:Slc)=>[(3,Slc.v s)]) (fun (s:Slc) h=>kK p0 r1 (r1.len:Int) b_ s k (fun s h'=>I1 s h'/\μ1 s h' < μ1 (a_,b_) h_1) h) ?_ ?_
 rintro g_ h_2 H
 refine zF [3,0,10,11,12] (zR ?_)
 refine w2 Z (zW ?_)
 exact xJ (g_,(IntKind.i64.wrap (b_ + 1))) H
 refine zB (zQ ?_)
 refine wD Z H fun a3 _ H=>?_
 refine wL Z H fun v4 H=>?_
 refine w1 Z (zE (zQ ?_))
 refine w1 Z ?_
 refine wN H fun a5 _ H=>?_
 refine w1 Z ?_
 refine wL Z H fun v6 H=>?_
 refine w1 Z ?_
 obtain ⟨l7,hl7,H⟩:=H
 refine wY (QL (K:=Int) (V:=(Option Addr)) (d:=(.int .u64)) (kf:=(Value.int .u64)) (vf:=(fun v:Option Addr=>(.pointer v:Value))) (kt:=25) (et:=65) (k:=v4) (z:=none) (m:=v6) (l:=l7) rfl rfl rfl (by kernel_rfl) (by kernel_rfl) (IK .u64) (DC Z (T:=tab) rfl rfl rfl) hl7) ?_
 refine w1 Z (zE (zF [3,12,0,10,11,5,6] (zS (zQ ?_))))
 refine w1 Z ?_
 refine wN H fun a8 ha8 H=>?_
 refine w1 Z ?_
 refine wL Z H fun v9 H=>?_
 refine zE ?_
 refine zI H ?_ ?_ <;> intro H
 refine zY (yE (yH ?_))
 exact xJ a_ H
 refine zK (zX (zQ (w1 Z ?_)))
 refine wY (bP rfl rfl ha8) ?_
 refine w1 Z ?_
 refine wL Z H fun v10 H=>?_
 refine w2 Z (zE (zF [3,12,0,10,11,5,6,29,30,31] (zB ?_)))
 obtain ⟨I3,μ3,H0,HI⟩:=H
 refine zO (σ:=Slc × Int) [0,5,6,10,11,12,29,30] (fun (s:Slc × Int)=>[(3,Slc.v s.1),(31,.int .i64 s.2)]) I3 μ3 (a_,0) H0 ?_
 rintro ⟨d_,f_⟩ h_3 H
 replace H:=HI d_ f_ h_3 H
 refine zF [3,31,0,5,6,10,11,12,29,30] (zQ ?_)
 refine w1 Z (zE (zS ?_))
 refine zI H ?_ ?_ <;> intro H
 refine zK (zX ?_)
 refine zJ (α:=Slc) [0,5,6,10,11,12,29,30,31] (fun (s:Slc)=>[(3,Slc.v s)]) (fun (s:Slc) h=>ky p0 v4 ((jP l7 v4).getD none) r1 (r1.len:Int) b_ v10 (v10.len:Int) f_ s k (fun s h'=>I1 s h'/\μ1 s h' < μ1 (a_,b_) h_1) (fun s h'=>I3 s h'/\μ3 s h' < μ3 (d_,f_) h_3) h) ?_ ?_
 rintro h_ h_4 H
 refine zF [3,0,5,6,10,11,12,29,30,31] (zR ?_)
 refine w2 Z (zW ?_)
 exact xJ (h_,(IntKind.i64.wrap (f_ + 1))) H
 refine zB (zQ ?_)
 refine wD Z H fun a11 _ H=>?_
 refine wL Z H fun v12 H=>?_
 refine w1 Z (zE (zQ ?_))
 refine w1 Z ?_
 refine wN H fun a13 _ H=>?_
 refine w1 Z ?_
 refine wL Z H fun v14 H=>?_
 refine w1 Z ?_
 refine wC O28 (R28 _ _ _ _ H) fun r15 h16 H=>?_
 refine w1 Z (zE (zF [3,31,0,5,6,10,11,12,29,30,8,41] ?_))
 refine zI H ?_ ?_ <;> intro H
 refine zR (w3 Z ?_)
 refine wY (bU Z rfl rfl rfl rfl rfl) ?_
 obtain ⟨b17,h18,eb17,eh18,H⟩:=H
 refine wH (nJ Z rfl rfl rfl rfl rfl rfl rfl eb17 eh18) ?_
 refine wA (ji (s:=d_) (r:=(⟨some ⟨b17,0,none⟩,1,1⟩:Slc)) Z rfl rfl rfl rfl rfl (bT eb17 eh18) H) ?_
 rintro _ h20 ⟨s19,rfl,H⟩
 refine w1 Z (zL ?_)
 exact xJ s19 H
 refine zK (yL ?_)
 exact xJ d_ H
 refine zY (yE (yE (yH (yL ?_))))
 exact xJ d_ H
 refine zY (yE (yE (yH (zX (zQ (w2 Z (zE (zF [2] (zT (yR ?_))))))))))
 exact aB _ rfl _ rfl ⟨a_,rfl,H⟩
theorem law31_QuorumPlays_ref (p0 k h) (H:oD p0 k h):CallsH prog 4 #[Slc.v p0] h (rB k):=by
 refine fE func4 fun w0=>?_
 refine zF [0] (zQ ?_)
 refine w1 Z (zE (zQ ?_))
 refine wC O5 (R5  _ _ H) fun r1 h2 H=>?_
 refine wY (bU Z rfl rfl rfl rfl rfl) ?_
 refine wX H fun b3 h4 H=>?_
 refine w2 Z (zE (zS (zQ ?_)))
 refine w1 Z (zE (zB ?_))
 obtain ⟨I1,μ1,H0,HI⟩:=H
 refine zO (σ:=Int) [0,3,4] (fun (s:Int)=>[(5,.int .i64 s)]) I1 μ1 0 H0 ?_
 rintro a_ h_1 H
 replace H:=HI a_ h_1 H
 refine zF [5,0,3,4] (zS (zQ ?_))
 refine w5 Z ?_
 refine vU 3 [0,3,4,5] [(26,.bool ((decide (a_ < (p0.len:Int))) && (decide (a_ < 30))))] ?_ ?_
 refine zE ?_
 refine zI H ?_ ?_ <;> intro H
 refine zK (zX (zS (zB (zQ (w2 Z ?_)))))
 refine wD Z H fun a5 _ H=>?_
 refine wLa Z H fun v6 H=>?_
 refine wB Z H fun b7 h8 H=>?_
 refine wTa Z H fun h9 H=>?_
 refine zE (zS (zQ ?_))
 refine wLa Z H fun v10 H=>?_
 refine wC EK (Em _ _ _ H) fun r11 h12 H=>?_
 refine zE ?_
 refine zI H ?_ ?_ <;> intro H
 refine zQ ?_
 refine wC Bb (Aj  _ _ H) fun r13 h14 H=>?_
 refine w1 Z (zE (zF [2] (zT (yT (yB (yT (yT (yB (yT ?_)))))))))
 exact aB _ rfl _ rfl ⟨r13,rfl,H⟩
 refine zK (zX (zF [0,3,4,5,6] (zQ ?_)))
 refine w1 Z (zE ?_)
 refine zJ (α:=Bool) [0,3,4,5,6] (fun (s:Bool)=>[(7,.bool s)]) (fun (s:Bool) h=>bV p0 r1 (ad b3) a_ (ad b7) s k (fun s h'=>I1 s h'/\μ1 s h' < μ1 a_ h_1) h) ?_ ?_
 rintro f_ h_2 H
 refine zF [7,0,3,4,5,6] (zS (zQ ?_))
 refine w3 Z ?_
 refine vJ 7 (α:=Bool) [0,3,4,5,6] (fun (s:Bool)=>[(119,.bool s)]) (fun (s:Bool) h=>mf p0 r1 (ad b3) a_ (ad b7) s k (fun s h'=>I1 s h'/\μ1 s h' < μ1 a_ h_1) h) ?_ ?_
 rintro g_ h_3 H
 refine vF [119,0,3,4,5,6] (zE ?_)
 refine zI H ?_ ?_ <;> intro H
 refine zQ (w1 Z (zE (zT (yT (yB (yT (yT (yB (yT ?_)))))))))
 exact aB _ rfl _ rfl ⟨false,rfl,H⟩
 refine zK (zX (zS (zQ (w1 Z (zE (zB ?_))))))
 obtain ⟨I4,μ4,H0,HI⟩:=H
 refine zO (σ:=Int) [0,3,4,5,6] (fun (s:Int)=>[(9,.int .i64 s)]) I4 μ4 0 H0 ?_
 rintro b_ h_4 H
 replace H:=HI b_ h_4 H
 refine zF [9,0,3,4,5,6] (zS (zQ ?_))
 refine w2 Z ?_
 refine wY (Cg rfl rfl) ?_
 refine w1 Z ?_
 refine wL Z H fun v15 H=>?_
 refine w2 Z (zE ?_)
 refine zI H ?_ ?_ <;> intro H
 refine zK (zX (zF [9,0,3,4,5,6] (zS (zB (zQ ?_)))))
 refine w2 Z ?_
 refine wY (Cg rfl rfl) ?_
 refine w1 Z ?_
 refine wL Z H fun v16 H=>?_
 refine w1 Z ?_
 refine wD Z H fun a17 _ H=>?_
 refine w1 Z ?_
 refine wL Z H fun v18 H=>?_
 refine wC O24 (R24 _ _ _ _ H) fun r19 h20 H=>?_
 refine w3 Z ?_
 refine wB Z H fun b21 h22 H=>?_
 refine wTa Z H fun h23 H=>?_
 refine w1 Z (zE (zF [9,0,3,4,5,6,10,11] (zQ ?_)))
 refine w2 Z ?_
 refine wY (Cg rfl rfl) ?_
 refine w1 Z ?_
 refine wL Z H fun v24 H=>?_
 refine w1 Z ?_
 refine wD Z H fun a25 _ H=>?_
 refine w1 Z ?_
 refine wL Z H fun v26 H=>?_
 refine wC O8 (R8 _ _ _ _ H) fun r27 h28 H=>?_
 refine w3 Z ?_
 refine wB Z H fun b29 h30 H=>?_
 refine wTa Z H fun h31 H=>?_
 refine w1 Z (zE (zF [9,0,3,4,5,6,10,11,12,13] (zS ?_)))
 refine zJ (α:=Bool) [0,3,4,5,6,9,12,13] (fun (s:Bool)=>[(168,.bool s)]) (fun (s:Bool) h=>fQ p0 r1 (ad b3) a_ (ad b7) b_ (ad b29) r27.2 s k (fun s h'=>I1 s h'/\μ1 s h' < μ1 a_ h_1) (fun s h'=>I4 s h'/\μ4 s h' < μ4 b_ h_4) h) ?_ ?_
 rintro h_ h_5 H
 refine zF [168,0,3,4,5,6,9,12,13] ?_
 refine zI H ?_ ?_ <;> intro H
 refine zQ (w1 Z (zE (zF [2] (zT (yT (yB (yT (yT (yB (yT (yB (yT (yT (yB (yT ?_)))))))))))))))
 exact aB _ rfl _ rfl ⟨false,rfl,H⟩
 refine zK (zX ?_)
 refine zJ (α:=Bool) [0,3,4,5,6,9] (fun (s:Bool)=>[(207,.bool s)]) (fun (s:Bool) h=>bz p0 r1 (ad b3) a_ (ad b7) b_ s k (fun s h'=>I1 s h'/\μ1 s h' < μ1 a_ h_1) (fun s h'=>I4 s h'/\μ4 s h' < μ4 b_ h_4) h) ?_ ?_
 rintro j_ h_6 H
 refine zF [207,0,3,4,5,6,9] ?_
 refine zI H ?_ ?_ <;> intro H
 refine zQ (w1 Z (zE (zF [2] (zT (yB (yT (yT (yB (yT (yB (yT (yT (yB (yT ?_))))))))))))))
 exact aB _ rfl _ rfl ⟨false,rfl,H⟩
 refine zK (yL (zX (zR (w2 Z ?_))))
 refine wQ Z H fun x32 H=>?_
 refine zW ?_
 exact xJ x32 H
 refine gB [0,3,4,5,6,9,12,13] ?_
 refine gT 0 [4] Z ?_
 refine gY 1 [169] rfl (fun _=>Cg rfl rfl) ?_
 refine gT 2 [170] Z ?_
 refine gl 3 [171] Z H fun v33 H=>?_
 refine gT 4 [9] Z ?_
 refine gd 5 [172,173] Z H fun a34 H=>?_
 refine gT 6 [174] Z ?_
 refine gl 7 [175] Z H fun v35 H=>?_
 refine gT 8 [176] Z ?_
 refine gI 177 H (fun hb H=>?_) (fun hb H=>?_)
 refine gT 9 [13,177] Z ?_
 refine gT 10 [177,178] Z ?_
 refine gT 11 [177,179] Z ?_
 refine gI 180 H (fun hb H=>?_) (fun hb H=>?_)
 refine gS 12 [12,180] ?_
 refine gS 13 [4,180] ?_
 refine gS 14 [180,182] ?_
 refine gS 15 [180,183] ?_
 refine gS 16 [180,184] ?_
 refine gS 17 [9,180] ?_
 refine gS 18 [180,185,186] ?_
 refine gS 19 [180,187] ?_
 refine gS 20 [180,181,188] ?_
 refine gS 21 [180,189] ?_
 refine gT 22 [177,180,190] Z ?_
 refine gT 23 [177,191] Z ?_
 refine gT 24 [192] Z ?_
 refine gI 193 H (fun hb H=>?_) (fun hb H=>?_)
 refine gS 25 [4,193] ?_
 refine gS 26 [193,194] ?_
 refine gS 27 [193,195] ?_
 refine gS 28 [193,196] ?_
 refine gS 29 [9,193] ?_
 refine gS 30 [193,197,198] ?_
 refine gS 31 [193,199] ?_
 refine gS 32 [193,200] ?_
 refine gS 33 [193,201] ?_
 refine gS 34 [193,202] ?_
 refine gS 35 [13,203] ?_
 refine gS 36 [203,204] ?_
 refine gS 37 [193,203,205] ?_
 refine gT 38 [193,206] Z ?_
 refine gZ ?_
 exact xJ true H
 refine gT 25 [4,193] Z ?_
 refine gY 26 [193,194] rfl (fun _=>Cg rfl rfl) ?_
 refine gT 27 [193,195] Z ?_
 refine gl 28 [193,196] Z H fun v36 H=>?_
 refine gT 29 [9,193] Z ?_
 refine gd 30 [193,197,198] Z H fun a37 H=>?_
 refine gT 31 [193,199] Z ?_
 refine gl 32 [193,200] Z H fun v38 H=>?_
 refine gT 33 [193,201] Z ?_
 refine gT 34 [193,202] Z ?_
 refine gI 203 H (fun hb H=>?_) (fun hb H=>?_)
 refine gT 35 [13,203] Z ?_
 refine gT 36 [203,204] Z ?_
 refine gT 37 [193,203,205] Z ?_
 refine gT 38 [193,206] Z ?_
 refine gZ ?_
 exact xJ (r27.2 != 14) H
 refine gS 35 [13,203] ?_
 refine gS 36 [203,204] ?_
 refine gT 37 [193,203,205] Z ?_
 refine gT 38 [193,206] Z ?_
 refine gZ ?_
 exact xJ false H
 refine gla 12 [12,180] Z H fun v39 H=>?_
 refine gT 13 [4,180] Z ?_
 refine gY 14 [180,182] rfl (fun _=>Cg rfl rfl) ?_
 refine gT 15 [180,183] Z ?_
 refine gl 16 [180,184] Z H fun v40 H=>?_
 refine gT 17 [9,180] Z ?_
 refine gd 18 [180,185,186] Z H fun a41 H=>?_
 refine gla 19 [180,187] Z H fun v42 H=>?_
 refine gC 20 [180,181,188] O14 (R14 _ _ _ _ H) fun r43 h44 H=>?_
 refine gT 21 [180,189] Z ?_
 refine gT 22 [177,180,190] Z ?_
 refine gT 23 [177,191] Z ?_
 refine gT 24 [192] Z ?_
 refine gI 193 H (fun hb H=>?_) (fun hb H=>?_)
 refine gS 25 [4,193] ?_
 refine gS 26 [193,194] ?_
 refine gS 27 [193,195] ?_
 refine gS 28 [193,196] ?_
 refine gS 29 [9,193] ?_
 refine gS 30 [193,197,198] ?_
 refine gS 31 [193,199] ?_
 refine gS 32 [193,200] ?_
 refine gS 33 [193,201] ?_
 refine gS 34 [193,202] ?_
 refine gS 35 [13,203] ?_
 refine gS 36 [203,204] ?_
 refine gS 37 [193,203,205] ?_
 refine gT 38 [193,206] Z ?_
 refine gZ ?_
 exact xJ true H
 refine gT 25 [4,193] Z ?_
 refine gY 26 [193,194] rfl (fun _=>Cg rfl rfl) ?_
 refine gT 27 [193,195] Z ?_
 refine gl 28 [193,196] Z H fun v45 H=>?_
 refine gT 29 [9,193] Z ?_
 refine gd 30 [193,197,198] Z H fun a46 H=>?_
 refine gT 31 [193,199] Z ?_
 refine gl 32 [193,200] Z H fun v47 H=>?_
 refine gT 33 [193,201] Z ?_
 refine gT 34 [193,202] Z ?_
 refine gI 203 H (fun hb H=>?_) (fun hb H=>?_)
 refine gT 35 [13,203] Z ?_
 refine gT 36 [203,204] Z ?_
 refine gT 37 [193,203,205] Z ?_
 refine gT 38 [193,206] Z ?_
 refine gZ ?_
 exact xJ (r27.2 != 14) H
 refine gS 35 [13,203] ?_
 refine gS 36 [203,204] ?_
 refine gT 37 [193,203,205] Z ?_
 refine gT 38 [193,206] Z ?_
 refine gZ ?_
 exact xJ false H
 refine gS 9 [13,177] ?_
 refine gS 10 [177,178] ?_
 refine gS 11 [177,179] ?_
 refine gS 12 [12,180] ?_
 refine gS 13 [4,180] ?_
 refine gS 14 [180,182] ?_
 refine gS 15 [180,183] ?_
 refine gS 16 [180,184] ?_
 refine gS 17 [9,180] ?_
 refine gS 18 [180,185,186] ?_
 refine gS 19 [180,187] ?_
 refine gS 20 [180,181,188] ?_
 refine gS 21 [180,189] ?_
 refine gS 22 [177,180,190] ?_
 refine gT 23 [177,191] Z ?_
 refine gT 24 [192] Z ?_
 refine gI 193 H (fun hb H=>?_) (fun hb H=>?_)
 refine gS 25 [4,193] ?_
 refine gS 26 [193,194] ?_
 refine gS 27 [193,195] ?_
 refine gS 28 [193,196] ?_
 refine gS 29 [9,193] ?_
 refine gS 30 [193,197,198] ?_
 refine gS 31 [193,199] ?_
 refine gS 32 [193,200] ?_
 refine gS 33 [193,201] ?_
 refine gS 34 [193,202] ?_
 refine gS 35 [13,203] ?_
 refine gS 36 [203,204] ?_
 refine gS 37 [193,203,205] ?_
 refine gT 38 [193,206] Z ?_
 refine gZ ?_
 exact xJ true H
 refine gT 25 [4,193] Z ?_
 refine gY 26 [193,194] rfl (fun _=>Cg rfl rfl) ?_
 refine gT 27 [193,195] Z ?_
 refine gl 28 [193,196] Z H fun v48 H=>?_
 refine gT 29 [9,193] Z ?_
 refine gd 30 [193,197,198] Z H fun a49 H=>?_
 refine gT 31 [193,199] Z ?_
 refine gl 32 [193,200] Z H fun v50 H=>?_
 refine gT 33 [193,201] Z ?_
 refine gT 34 [193,202] Z ?_
 refine gI 203 H (fun hb H=>?_) (fun hb H=>?_)
 refine gT 35 [13,203] Z ?_
 refine gT 36 [203,204] Z ?_
 refine gT 37 [193,203,205] Z ?_
 refine gT 38 [193,206] Z ?_
 refine gZ ?_
 exact xJ (r27.2 != 14) H
 refine gS 35 [13,203] ?_
 refine gS 36 [203,204] ?_
 refine gT 37 [193,203,205] Z ?_
 refine gT 38 [193,206] Z ?_
 refine gZ ?_
 exact xJ false H
 refine gB [0,3,4,5,6,9,10,11,12,13] ?_
 refine gT 0 [11] Z ?_
 refine gT 1 [155] Z ?_
 refine gT 2 [156] Z ?_
 refine gI 157 H (fun hb H=>?_) (fun hb H=>?_)
 refine gS 3 [10,157] ?_
 refine gS 4 [4,157] ?_
 refine gS 5 [157,159] ?_
 refine gS 6 [157,160] ?_
 refine gS 7 [157,161] ?_
 refine gS 8 [9,157] ?_
 refine gS 9 [157,162,163] ?_
 refine gS 10 [157,164] ?_
 refine gS 11 [157,158,165] ?_
 refine gS 12 [157,166] ?_
 refine gT 13 [157,167] Z ?_
 refine gZ ?_
 exact xJ true H
 refine gla 3 [10,157] Z H fun v51 H=>?_
 refine gT 4 [4,157] Z ?_
 refine gY 5 [157,159] rfl (fun _=>Cg rfl rfl) ?_
 refine gT 6 [157,160] Z ?_
 refine gl 7 [157,161] Z H fun v52 H=>?_
 refine gT 8 [9,157] Z ?_
 refine gd 9 [157,162,163] Z H fun a53 H=>?_
 refine gla 10 [157,164] Z H fun v54 H=>?_
 refine gC 11 [157,158,165] O14 (R14 _ _ _ _ H) fun r55 h56 H=>?_
 refine gT 12 [157,166] Z ?_
 refine gT 13 [157,167] Z ?_
 refine gZ ?_
 exact xJ (!r55) H
 refine zY (yE (yE (yH (zX (zF [0,3,4,5,6] (zQ ?_))))))
 refine w2 Z ?_
 refine wL Z H fun v57 H=>?_
 refine wC O24 (R24 _ _ _ _ H) fun r58 h59 H=>?_
 refine w3 Z ?_
 refine wB Z H fun b60 h61 H=>?_
 refine wTa Z H fun h62 H=>?_
 refine w1 Z (zE (zF [0,3,4,5,6,15] (zQ ?_)))
 refine w4 Z ?_
 refine wL Z H fun v63 H=>?_
 refine wC O25 (R25 _ _ _ _ H) fun r64 h65 H=>?_
 refine w3 Z ?_
 refine vU 7 [0,3,4,5] [(230,.bool ((!((r58.2 == 0) == (decide (r64>=0)))) || ((r58.2 != 0) && (r58.2 != 6))))] ?_ ?_
 refine zE ?_
 refine zI H ?_ ?_ <;> intro H
 refine zQ (w1 Z (zE (zT (yB (yT (yT (yB (yT ?_))))))))
 exact aB _ rfl _ rfl ⟨false,rfl,H⟩
 refine zK (yL (zX (zR (w2 Z ?_))))
 refine wQ Z H fun x66 H=>?_
 refine zW ?_
 exact xJ x66 H
 refine vG (d:=223) (fun hb=>?_) (fun hb=>?_)
 refine wS (wS (wS (wS (wS (wS (w1 Z ?_))))))
 refine vK ?_
 exact congrArg (fun b=>some (Value.bool b)) (BN hb)
 refine w3 Z ?_
 refine vU 3 [0,3,4,5,223] [(229,.bool ((r58.2 != 0) && (r58.2 != 6)))] ?_ ?_
 refine w1 Z ?_
 refine vK ?_
 exact congrArg (fun b=>some (Value.bool b)) (BO hb)
 refine vG (d:=226) (fun hb=>?_) (fun hb=>?_)
 refine w3 Z ?_
 refine vK ?_
 exact congrArg (fun b=>some (Value.bool b)) (jD hb)
 refine wS (wS (w1 Z ?_))
 refine vK ?_
 exact congrArg (fun b=>some (Value.bool b)) (jH hb)
 refine vI 112 H ?_ ?_ <;> intro H
 refine wS (wS (wS (wS (wS (wS (w1 Z ?_))))))
 exact wJ true H
 refine w1 Z ?_
 refine wC O22 (R22 _ _ _ H) fun r67 h68 H=>?_
 refine w1 Z ?_
 refine wC O23 (R23 _ _ _ H) fun r69 h70 H=>?_
 refine wC O21 (R21 _ _ _ _ H) fun r71 h72 H=>?_
 refine w2 Z ?_
 exact wJ (!r71) H
 refine zQ (w1 Z ?_)
 refine wL Z H fun v73 H=>?_
 refine wC O9 (R9 _ _ _ _ H) fun r74 h75 H=>?_
 refine zE (zB ?_)
 refine zJ (α:=Bool) [0,3,4,5,6,7,38] (fun (s:Bool)=>[(57,.bool s)]) (fun (s:Bool) h=>fK p0 r1 (ad b3) a_ (ad b7) true r74 s k (fun s h'=>I1 s h'/\μ1 s h' < μ1 a_ h_1) h) ?_ ?_
 rintro l_ h_7 H
 refine zF [57,0,3,4,5,6,7,38] ?_
 refine zI H ?_ ?_ <;> intro H
 refine gB [0,3,4,5,6] ?_
 refine gT 0 [3] Z ?_
 refine gT 1 [6] Z ?_
 refine gl 2 [61] Z H fun v76 H=>?_
 refine gT 3 [6] Z ?_
 refine gl 4 [63] Z H fun v77 H=>?_
 refine gT 5 [6] Z ?_
 refine gl 6 [65] Z H fun v78 H=>?_
 refine gT 8 [4] Z ?_
 refine gT 9 [6] Z ?_
 refine gl 10 [69] Z H fun v79 H=>?_
 refine gT 11 [6] Z ?_
 refine gl 12 [71] Z H fun v80 H=>?_
 refine gT 13 [6] Z ?_
 refine gl 14 [73] Z H fun v81 H=>?_
 refine gCr 7 [60,62,64,66] O10 (R10 _ _ _ _ _ _ H) fun r82 h83 H=>?_
 obtain ⟨hy84,hy85,hy86,H⟩:=H
 refine gR rfl (fq Z rfl rfl rfl rfl hy84) ?_
 refine gR rfl (fq Z rfl rfl rfl rfl hy85) ?_
 refine gR rfl (fq Z rfl rfl rfl rfl hy86) ?_
 refine gZ0 ?_
 refine gC 15 [68,70,72,74] O15 (R15 _ _ _ _ _ _ H) fun r87 h88 H=>?_
 refine gT 16 [67,75] Z ?_
 refine gT 17 [76] Z ?_
 refine gZ ?_
 refine yL ?_
 exact xJ ((r82 == r87)) H
 refine zQ (w2 Z (zE ?_))
 refine zI H ?_ ?_ <;> intro H
 refine gB [0,3,4,5,6] ?_
 refine gT 0 [3] Z ?_
 refine gT 1 [6] Z ?_
 refine gl 2 [80] Z H fun v89 H=>?_
 refine gT 3 [6] Z ?_
 refine gl 4 [82] Z H fun v90 H=>?_
 refine gT 5 [6] Z ?_
 refine gl 6 [84] Z H fun v91 H=>?_
 refine gT 8 [4] Z ?_
 refine gT 9 [6] Z ?_
 refine gl 10 [88] Z H fun v92 H=>?_
 refine gT 11 [6] Z ?_
 refine gl 12 [90] Z H fun v93 H=>?_
 refine gT 13 [6] Z ?_
 refine gl 14 [92] Z H fun v94 H=>?_
 refine gCr 7 [79,81,83,85] O11 (R11 _ _ _ _ _ _ H) fun r95 h96 H=>?_
 obtain ⟨hy97,hy98,hy99,H⟩:=H
 refine gR rfl (fq Z rfl rfl rfl rfl hy97) ?_
 refine gR rfl (fq Z rfl rfl rfl rfl hy98) ?_
 refine gR rfl (fq Z rfl rfl rfl rfl hy99) ?_
 refine gZ0 ?_
 refine gC 15 [87,89,91,93] O16 (R16 _ _ _ _ _ _ H) fun r100 h101 H=>?_
 refine gT 16 [86,94] Z ?_
 refine gT 17 [95] Z ?_
 refine gZ ?_
 refine yL ?_
 exact xJ ((r95 == r100)) H
 refine zQ (w2 Z (zE ?_))
 refine zI H ?_ ?_ <;> intro H
 refine zQ (w1 Z (zE (zB ?_)))
 obtain ⟨I8,μ8,H0,HI⟩:=H
 refine zO (σ:=Int) [0,3,4,5,6,7] (fun (s:Int)=>[(8,.int .i64 s)]) I8 μ8 0 H0 ?_
 rintro d_ h_8 H
 replace H:=HI d_ h_8 H
 refine zF [8,0,3,4,5,6,7] (zS (zQ ?_))
 refine w2 Z ?_
 refine wL Z H fun v102 H=>?_
 refine w3 Z (zE ?_)
 refine zI H ?_ ?_ <;> intro H
 refine zK (zX (zS (zB (zQ (w1 Z ?_)))))
 refine wC O12 (R12 _ _ _ H) fun r103 h104 H=>?_
 refine zE (zF [8,0,3,4,5,6,7] (zR ?_))
 refine w1 Z ?_
 refine wC O17 (R17 _ _ _ H) fun r105 h106 H=>?_
 refine zL (zX (zR (w2 Z ?_)))
 refine wQ Z H fun x107 H=>?_
 refine zW ?_
 exact xJ x107 H
 refine zY (yE (yE (yH (yL ?_))))
 exact xJ true H
 refine gB [0,3,4,5,6] ?_
 refine gT 0 [3] Z ?_
 refine gT 1 [6] Z ?_
 refine gla 2 [40] Z H fun v108 H=>?_
 refine gT 4 [4] Z ?_
 refine gT 5 [6] Z ?_
 refine gla 6 [44] Z H fun v109 H=>?_
 refine gCr 3 [39,41] O13 (R13 _ _ _ _ H) fun r110 h111 H=>?_
 obtain ⟨hy112,H⟩:=H
 refine gR rfl (fC Z rfl rfl rfl rfl rfl hy112) ?_
 refine gZ0 ?_
 refine gC 7 [43,45] O18 (R18 _ _ _ _ H) fun r113 h114 H=>?_
 refine gT 8 [42,46] Z ?_
 refine gT 9 [47] Z ?_
 refine gI 48 H (fun hb H=>?_) (fun hb H=>?_)
 refine gT 10 [6,48] Z ?_
 refine gla 11 [48,49] Z H fun v115 H=>?_
 refine gT 13 [6,48] Z ?_
 refine gla 14 [48,52] Z H fun v116 H=>?_
 refine gCr 12 [48,50] O19 (R19 _ _ _ H) fun r117 h118 H=>?_
 obtain ⟨hy119,H⟩:=H
 refine gR rfl (fC Z rfl rfl rfl rfl rfl hy119) ?_
 refine gZ0 ?_
 refine gC 15 [48,53] O20 (R20 _ _ _ H) fun r120 h121 H=>?_
 refine gT 16 [48,51,54] Z ?_
 refine gT 17 [48,55] Z ?_
 refine gT 18 [56] Z ?_
 refine gZ ?_
 refine yL ?_
 exact xJ (r117 == r120) H
 refine gS 10 [6,48] ?_
 refine gS 11 [48,49] ?_
 refine gS 12 [48,50] ?_
 refine gS 13 [6,48] ?_
 refine gS 14 [48,52] ?_
 refine gS 15 [48,53] ?_
 refine gS 16 [48,51,54] ?_
 refine gT 17 [48,55] Z ?_
 refine gT 18 [56] Z ?_
 refine gZ ?_
 refine yL ?_
 exact xJ false H
 refine zQ (w2 Z (zE ?_))
 refine zI H ?_ ?_ <;> intro H
 refine zK ?_
 exact xJ (r74 == 2) H
 refine zR (w2 Z (zW ?_))
 exact xJ (r74 == 3) H
 refine zY (yE (yE (yH (zX (zQ ?_)))))
 refine wC Bb (Aj  _ _ H) fun r122 h123 H=>?_
 refine w1 Z (zE (zT ?_))
 exact aB _ rfl _ rfl ⟨r122,rfl,H⟩
 refine vG (d:=23) (fun hb=>?_) (fun hb=>?_)
 refine w3 Z ?_
 refine vK ?_
 exact congrArg (fun b=>some (Value.bool b)) (jD hb)
 refine wS (wS (w1 Z ?_))
 refine vK ?_
 exact congrArg (fun b=>some (Value.bool b)) (jH hb)
end Go.Q.Yq
end
section
/- Blocks laid and filled at once; items of slices of structs. -/
namespace Go.Q
/-- a block that is laid with these cells -/
theorem bx0 {cs:List Value} {E:Nat} {h:Heap} {K:Nat->Heap->Prop} (H:∀ h',Blk h' h.size cs E->Ext h.size h h'->K h.size h') :
  ∃ (b:Nat) (h2:Heap),b=h.size/\h2=h.push (.cells cs.toArray E)/\K b h2 :=
 ⟨_,_,rfl,rfl,H _ (Blk.push h cs E) (Ext.push h _ (Nat.le_refl _))⟩
/-- a block that is laid and filled -/
theorem bx {cs z:List Value} {E n:Nat} {h:Heap} {K:Nat->Heap->Prop} (hl:cs.length=z.length) (hn:n<=z.length) (H:∀ h',Blk h' h.size cs E->Ext h.size h h'->K h.size h') :
  ∃ (b:Nat) (h2:Heap),b=h.size/\h2=h.push (.cells z.toArray E)/\(∃ h3:Heap,aN h2 (⟨b,0,none⟩:Addr) n/\h3=aM h2 (⟨b,0,none⟩:Addr) 0 cs/\K b h3) :=
 have P:=Blk.push h z E
 ⟨_,_,rfl,rfl,_,aN.aL P hn,rfl,H _ (P.jW hl) ((Ext.push h _ (Nat.le_refl _)).trans (Ext.sets _ 0 cs (by show h.size<=h.size; exact Nat.le_refl _)))⟩
/-- a block that is filled anew -/
theorem pY {cs z:List Value} {E n b:Nat} {h:Heap} {K:Heap->Prop} (P:Blk h b z E) (hl:cs.length=z.length) (hn:n<=z.length) (H:∀ h',Blk h' b cs E->Upd b h h'->K h') :
  ∃ h3:Heap,aN h (⟨b,0,none⟩:Addr) n/\h3=aM h (⟨b,0,none⟩:Addr) 0 cs/\K h3 :=
 ⟨_,aN.aL P hn,rfl,H _ (P.jW hl) ⟨by rw [sI]; exact Nat.le_refl _,fun i _ hi=>lV _ _ hi⟩⟩
/-- a cell of a block's -/
theorem Blk.cl {h:Heap} {b E i:Nat} {cs:List Value} {v:Value} (k:Blk h b cs E) (hv:cs[i]? = some v):ah h ((⟨b,0,none⟩:Addr).add i)=some v:=by rw [add_mk,Nat.zero_add,k.cell]; exact hv
theorem Blk.cl0 {h:Heap} {b E:Nat} {cs:List Value} {v:Value} (k:Blk h b cs E) (hv:cs[0]? = some v):ah h (⟨b,0,none⟩:Addr)=some v:=by rw [k.cell]; exact hv
/-- cells within a block -/
theorem Blk.cls {h:Heap} {b E i:Nat} {cs ys:List Value} (k:Blk h b cs E) (hd:(cs.drop i).take ys.length=ys):ai h ((⟨b,0,none⟩:Addr).add i) ys:=by
 rw [add_mk,Nat.zero_add]; exact k.part hd
theorem Ay {h:Heap} {a:Addr} {vs:List Value} {i:Nat} (c:ai h a vs) {v:Value} (hv:vs[i]? = some v):ah h (a.add i)=some v:=c i v hv
theorem zx {h:Heap} {a:Addr} {vs:List Value} (c:ai h a vs) {v:Value} (hv:vs[0]? = some v):ah h a=some v:=by have:=c 0 v hv; rwa [show a.add 0=a from by simp [Addr.add]] at this
section
variable {α:Type} {cs:α->List Value} {w:Nat} {h:Heap} {s:Slc} {xs:List α}
/-- an item of a slice -/
theorem LsAt.it (L:LsAt cs w h s xs) {i:Int} (h0:0<=i) (h1:i < (xs.length:Int)):∃ (a:Addr) (x:α),s.a=some a/\(0:Int)<=i/\i < (s.len:Int)/\xs[i.toNat]? = some x/\ai h (a.add (i.toNat * w)) (cs x):=by
 obtain ⟨x,hx⟩:∃ x,xs[i.toNat]? = some x:=⟨_,List.getElem?_eq_getElem (by omega)⟩
 obtain ⟨a,ha,hc⟩:=L.at' _ _ hx
 exact ⟨a,x,ha,h0,by rw [L.l]; exact h1,hx,hc⟩
end
/-- a part of a block is filled anew -/
theorem Mr {vs z:List Value} {E n o b:Nat} {h:Heap} {K:Heap->Prop} (P:Blk h b z E) (hn:n=vs.length) (ho:o + vs.length<=z.length) (H:∀ h',Blk h' b (z.take o ++ vs ++ z.drop (o + vs.length)) E->Upd b h h'->K h') :
  ∃ h3:Heap,aN h ((⟨b,0,none⟩:Addr).add o) n/\h3=aM h ((⟨b,0,none⟩:Addr).add o) 0 vs/\K h3:=by
 rw [add_mk,Nat.zero_add]
 exact ⟨_,fun j hj=>by rw [add_mk]; exact P.wr (by omega),rfl,H _ (P.sets vs o 0 (by omega)) ⟨by rw [sI]; exact Nat.le_refl _,fun i _ hi=>lV _ _ hi⟩⟩
/-- one cell of a block is written -/
theorem jI {v:Value} {z:List Value} {E i b:Nat} {h:Heap} {K:Heap->Prop} (P:Blk h b z E) (hi:i < z.length) (H:∀ h',Blk h' b (z.set i v) E->Upd b h h'->K h') :
  ∃ h3:Heap,WrH h ((⟨b,0,none⟩:Addr).add i)/\h3=setH h ((⟨b,0,none⟩:Addr).add i) v/\K h3:=by
 rw [add_mk,Nat.zero_add]
 exact ⟨_,P.wr hi,rfl,H _ P.set ⟨by rw [lv]; exact Nat.le_refl _,fun i _ hi=>jL hi⟩⟩
/-- a part of a slice of structs -/
theorem LsAt.sub {α:Type} {cs:α->List Value} {w:Nat} {h:Heap} {s:Slc} {xs:List α} (L:LsAt cs w h s xs) {a b m:Nat} (h1:a<=b) (h2:b<=s.len) (h3:b<=m):LsAt cs w h (rY s w a b m) ((xs.take b).drop a):=by
 have hl:=L.l
 refine ⟨by simp only [rY,List.length_drop,List.length_take]; omega,fun i x hx=>?_⟩
 rw [List.getElem?_drop,List.getElem?_take] at hx
 split at hx
 ·obtain ⟨a',ha,hc⟩:=L.at' _ _ hx
  refine ⟨a'.add (a * w),?_,?_⟩
  ·simp only [rY]
   rw [if_neg (by omega),ha]; rfl
  ·rw [show (a'.add (a * w)).add (i * w)=a'.add ((a + i) * w) from by rw [Rw.kG,Nat.add_mul]]; exact hc
 ·cases hx
/-- a part of a row of one's own is written -/
theorem LX {B E w o:Nat} {h:Heap} {s:Slc} {xs vs:List Value} (R:Row B h E w s xs) (ho:o + vs.length<=s.len * w) (hv:0 < vs.length) {a:Addr} (ha:s.a=some a) :
  aN h (a.add o) vs.length/\Row B (aM h (a.add o) 0 vs) E w s (xs.take o ++ vs ++ xs.drop (o + vs.length))/\B<=a.block:=by
 rcases R.2.2 with ⟨k,_⟩ | ⟨g,cur,a1,a2,a3,a4,a5,a6⟩
 ·rw [k] at ha; cases ha
 ·rw [ha] at a1; cases a1
  have hcap:s.len * w<=s.cap * w:=Nat.mul_le_mul_right _ a4
  have hx:=R.1
  rw [add_mk,Nat.zero_add]
  refine ⟨fun j hj=>by rw [add_mk]; exact a3.wr (by omega),⟨by simp only [List.length_append,List.length_take,List.length_drop]; omega,R.2.1,.inr ⟨g,_,ha,a2,a3.sets vs o 0 (by omega),a4,?_,?_⟩⟩,a2⟩
  ·simp only [List.length_append,List.length_take,List.length_drop]; omega
  ·rw [Rw.Jk cur vs (o + 0) (s.len * w) (by omega) (by omega),a6,Nat.add_zero]
/-- an append to a row of one's own: all that was, stays -/
theorem app1 {B E w bytes:Nat} {z:List Value} {h:Heap} {s:Slc} {m:Nat} {news xs:List Value} {k:Slc->Heap->Prop} (r:Row B h E w s xs) (hB:B<=h.size) (hz:z.length=w) (hl:news.length=m * w) (h1:∀ v∈news,v.oneCell'=true)
  (hb:(s.len + m) * bytes<=140737488355328) (hm:s.len + m<=maxLen)
  (H:∀ s' h',Row B h' E w s' (xs ++ news)->s'.len=s.len + m->Ext B h h'->k s' h'):App E w bytes z h s m news k :=
 App.row r hB hz hl h1 hb hm fun s' h' a b c d e=>H s' h' a b ⟨c,fun i hi=>d i (Nat.lt_of_lt_of_le hi hB) fun e=>Nat.lt_irrefl _ (Nat.lt_of_lt_of_le hi (r.bd e).1)⟩
/-- an append to one of two rows of one's own -/
theorem QO {B E w E2 w2 bytes:Nat} {z:List Value} {h:Heap} {s t:Slc} {m:Nat} {news xs ys:List Value} {k:Slc->Heap->Prop} (r:Row B h E w s xs) (r2:Row B h E2 w2 t ys) (dj:∀ g,s.blk=some g->t.blk≠some g) (hB:B<=h.size) (hz:z.length=w) (hl:news.length=m * w) (h1:∀ v∈news,v.oneCell'=true)
  (hb:(s.len + m) * bytes<=140737488355328) (hm:s.len + m<=maxLen)
  (H:∀ s' h',Row B h' E w s' (xs ++ news)->s'.len=s.len + m->Row B h' E2 w2 t ys->(∀ g,s'.blk=some g->t.blk≠some g)->Ext B h h'->k s' h'):App E w bytes z h s m news k :=
 App.row r hB hz hl h1 hb hm fun s' h' a b c d e=>H s' h' a b (r2.keep fun g hg=>d g (r2.bd hg).2 fun e2=>dj g e2 hg)
  (fun g hg ht=>by
   rcases e with e | e
   ·exact dj g (e ▸ hg) ht
   ·rw [e] at hg; cases hg; exact Nat.lt_irrefl _ (r2.bd ht).2)
  ⟨c,fun i hi=>d i (Nat.lt_of_lt_of_le hi hB) fun e=>Nat.lt_irrefl _ (Nat.lt_of_lt_of_le hi (r.bd e).1)⟩
/-- the cells of a slice of structs -/
theorem LsAt.J7 {α:Type} {cs:α->List Value} {w:Nat} (hc:∀ x,(cs x).length=w) (hw:0 < w) {h:Heap} {s:Slc} {xs:List α} (L:LsAt cs w h s xs):SlcAt h s (xs.flatMap cs):=by
 refine ⟨fun hn=>?_,fun a ha j v hj=>?_⟩
 ·cases xs with
  | nil=>rfl
  | cons x r=>obtain ⟨a,ha,_⟩:=L.at' 0 x rfl; rw [hn] at ha; cases ha
 ·have hl:j < (xs.flatMap cs).length:=(List.getElem?_eq_some_iff.1 hj).1
  rw [Rw.rR hc] at hl
  have h1:j / w < xs.length:=(Nat.div_lt_iff_lt_mul hw).2 hl
  have dm:j / w * w + j % w=j:=by rw [Nat.mul_comm]; exact Nat.div_add_mod j w
  have e:=Rw.zD hc xs (j / w) (j % w) (Nat.mod_lt _ hw)
  rw [dm,hj] at e
  obtain ⟨x,hx⟩:∃ x,xs[j / w]? = some x:=⟨_,List.getElem?_eq_getElem h1⟩
  rw [hx] at e
  obtain ⟨a',ha',hc2⟩:=L.at' _ _ hx
  rw [ha] at ha'; cases ha'
  have:=hc2 (j % w) v e.symm
  rwa [Rw.kG,dm] at this
end Go.Q
end
section
/- What slices.Clone does. -/
namespace Go.Q
theorem GK {E w bytes:Nat} {z:List Value} {p0:Slc} {vs:List Value} {k:Slc->Heap->Prop} {h:Heap} (hz:z.length=w) (w0:0 < w) (hs:SlcAt h p0 vs) (hl:vs.length=p0.len * w) (one:∀ v∈vs,v.oneCell'=true) (hb:p0.len * bytes<=140737488355328) (hm:p0.len<=maxLen)
  (H:∀ s h',Row h.size h' E w s vs->s.len=p0.len->Ext h.size h h'->k s h') :
  if p0.a.isNone then k (⟨none,0,0⟩:Slc) h else (∃ (b1:Nat) (h2:Heap),b1=h.size/\h2=h.push (.cells ([]).toArray E)/\(∃ l5:List Value,SlcAt h2 p0 l5/\App E w bytes z h2 (⟨some ⟨b1,0,none⟩,0,0⟩:Slc) p0.len l5 (fun s3 h4=>k s3 h4))):=by
 cases ha:p0.a with
 | none =>
  rw [if_pos (by simp)]
  have hn:=hs.1 ha
  subst hn
  have:p0.len=0:=by
   rcases Nat.eq_zero_or_pos p0.len with h | h
   ·exact h
   ·have:=Nat.mul_pos h w0; simp at hl; omega
  exact H _ _ (Row.nil _ _ _ _) this.symm (Ext.refl _ _)
 | some a =>
  rw [if_neg (by simp)]
  have hp:∀ o:Obj,Ext h.size h (h.push o):=fun o=>Ext.push h o (Nat.le_refl _)
  refine ⟨_,_,rfl,rfl,vs,hs.ext (hp _),?_⟩
  have R:Row h.size (h.push (.cells ([]:List Value).toArray E)) E w ⟨some ⟨h.size,0,none⟩,0,0⟩ [] :=
   ⟨by simp,by simp [maxLen],.inr ⟨h.size,[],rfl,Nat.le_refl _,Blk.push _ _ _,Nat.le_refl _,by simp,by simp⟩⟩
  refine App.row R (by simp) hz (by rw [hl]) one (by simp only [Nat.zero_add]; omega) (by simp only [Nat.zero_add]; omega) fun s' h' R' sl hsz' ho _=>?_
  refine H s' h' (by simpa using R') (by simpa using sl) ⟨by simp at hsz'; omega,fun i hi=>?_⟩
  rw [ho i (by simp; omega) (by simp [Slc.blk]; omega),(hp _).block i hi]
end Go.Q
end
