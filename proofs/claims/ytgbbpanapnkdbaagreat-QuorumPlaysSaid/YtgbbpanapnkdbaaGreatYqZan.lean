/- A part of the proof of statements of this seat: lemmas, no statement of their own. -/
import Derived.Test.YtgbbpanapnkdbaaGreatYqZad
import Derived.Test.YtgbbpanapnkdbaaGreatYqZae
import Derived.Test.YtgbbpanapnkdbaaGreatYqZam
set_option linter.unusedVariables false
set_option linter.unusedSimpArgs false
set_option maxRecDepth 100000
set_option maxHeartbeats 1000000
section
namespace Go.Q.Yq
open Go.Proofs.Tryz
open Go.RowKit in
theorem DY (a b:aY) (w:World):(Op.equal 84 (.agg (aY.cs a).toArray) (.agg (aY.cs b).toArray)).run Go.Proofs.Tryz.prog w = .ok ((a.f_N == b.f_N) && (a.aR == b.aR)) w:=by
  have hS:Go.Proofs.Tryz.prog.underlying 84=some (.struct (Go.Proofs.Tryz.prog.fieldsOf 84)):=by kernel_rfl
  have hp:Go.Proofs.Tryz.prog.stoodInHeld 84=false:=by kernel_rfl
  have u3:=Go.Proofs.Tryz.underlying3
  have a3:∀ w,(isAgg 3).run Go.Proofs.Tryz.prog w = .ok false w:=Go.Proofs.Tryz.isAgg3
  have u25:=Go.Proofs.Tryz.underlying25
  have a25:∀ w,(isAgg 25).run Go.Proofs.Tryz.prog w = .ok false w:=Go.Proofs.Tryz.isAgg25
  unfold Op.equal Op.maxDepth
  rw [show (10000:Nat)=9999 + 1 from rfl,run_equalIn_struct w 9999 84 _ _ hS hp]
  simp only [Program.fieldsOf,Go.Proofs.Tryz.underlying84,aY.cs]
  go_simp
  by_cases h0:(a.f_N=b.f_N) <;> by_cases h1:(a.aR=b.aR) <;> simp [h0,h1]
/-- quaestor quaestorref31.has -/
def BS (b_:Slc) (d_:Int) (a_:Int) (k:KP Bool) (nx1:KP Int) (h_1:Heap):Prop :=
  if (decide (a_ < (b_.len:Int))) then (∃ a1,b_.a=some a1/\(0:Int)<=a_/\a_ < (b_.len:Int)/\(∃ v2,ah h_1 (a1.add (a_.toNat * 1))=some (.int .i64 v2)/\(if (v2 == d_) then (k true h_1) else (∃ x3,x3=(IntKind.i64.wrap (a_ + 1))/\(nx1 x3 h_1))))) else (k false h_1)
def Dp (b_:Slc) (d_:Int) (i5:Int) (k:KP Bool) (h:Heap):Prop :=
  ∃ (I:KP Int) (μ:Int->Heap->Nat),I i5 h/\∀ (a_:Int) (h:Heap),I a_ h->BS b_ d_ a_ k (fun s h'=>I s h'/\μ s h' < μ a_ h) h
def qH (p0:Slc) (p1:Int) (k:KP Bool) (h:Heap):Prop :=
  Dp p0 p1 0 k h
/-- quaestor quaestorref31.Needs -/
def qM (p0:aj) (k:KP Int) (h:Heap):Prop :=
  ∃ b1 h2,b1=h.size/\h2=h.push (.cells (aj.cs p0).toArray 39)/\(∃ v3,ah h2 ((ad b1).add 27)=some (Slc.v v3)/\(∃ x4,x4=(v3.len:Int)/\(∃ v5,ah h2 ((ad b1).add 1)=some (.int .i64 v5)/\(if (v5 == 1) then (if (decide (x4 < 2)) then (k x4 h2) else (k 2 h2)) else (if (v5 == 2) then (if (decide (x4 < 2)) then (k 1 h2) else (∃ x6,x6=(IntKind.i64.wrap (x4 - 1))/\(k x6 h2))) else (if (v5 == 3) then (k 1 h2) else (k 0 h2)))))))
/-- (*quaestor quaestorref31.Desk).Find -/
def uQ (b_:Option Addr) (d_:Int) (a_:Int) (k:KP Int) (nx1:KP Int) (h_1:Heap):Prop :=
  ∃ a1,b_=some a1/\(∃ v2,ah h_1 a1=some (Slc.v v2)/\(if (decide (a_ < (v2.len:Int))) then (∃ v3,ah h_1 a1=some (Slc.v v3)/\(∃ a4,v3.a=some a4/\(0:Int)<=a_/\a_ < (v3.len:Int)/\(∃ v5,ah h_1 (a4.add (a_.toNat * 33))=some (.int .u64 v5)/\(if (v5 == d_) then (k a_ h_1) else (∃ x6,x6=(IntKind.i64.wrap (a_ + 1))/\(nx1 x6 h_1)))))) else (∃ x7,x7=(-1)/\(k x7 h_1))))
def wO (b_:Option Addr) (d_:Int) (i5:Int) (k:KP Int) (h:Heap):Prop :=
  ∃ (I:KP Int) (μ:Int->Heap->Nat),I i5 h/\∀ (a_:Int) (h:Heap),I a_ h->uQ b_ d_ a_ k (fun s h'=>I s h'/\μ s h' < μ a_ h) h
def gX (p0:Option Addr) (p1:Int) (k:KP Int) (h:Heap):Prop :=
  wO p0 p1 0 k h
/-- (*quaestor quaestorref31.Desk).Start -/
def gG (d_:Option Addr) (f_:Addr) (b_:Slc) (a_:Int) (g_:Bool) (k:KP Int) (nx3:KP Int) (nx5:KP (Slc × Int)) (h_6:Heap):Prop :=
  if g_ then (∃ a23,d_=some a23/\(∃ v24,ah h_6 a23=some (Slc.v v24)/\(∃ a25,v24.a=some a25/\(0:Int)<=a_/\a_ < (v24.len:Int)/\(∃ v26,ai h_6 (a25.add (a_.toNat * 33)) (aj.cs v26)/\(∃ b27 h28,b27=h_6.size/\h28=h_6.push (.cells ((aj.cs v26)).toArray 39)/\(App 39 33 280 [.int .u64 0,.int .i64 0,.string ByteArray.empty,.slice none 0 0,.string ByteArray.empty,.int .i64 0,.int .i64 0,.int .i64 0,.int .i64 0,.int .i64 0,.string ByteArray.empty,.int .u32 0,.int .u8 0,.int .u8 0,.int .u8 0,.int .u8 0,.int .u8 0,.int .u8 0,.int .u8 0,.int .u8 0,.int .u8 0,.int .u8 0,.int .u8 0,.int .u8 0,.slice none 0 0,.int .i64 0,.int .i64 0,.slice none 0 0,.slice none 0 0,.int .i64 0,.bool false,.int .i64 0,.slice none 0 0] h28 b_ 1 ((aj.cs v26)) (fun s29 h30=>∃ x31,x31=(IntKind.i64.wrap (a_ + 1))/\(nx5 (s29,x31) h30)))))))) else (∃ x32,x32=(b_.len:Int)/\(∃ v33,ai h_6 f_ (aj.cs v33)/\(∃ b34 h35,b34=h_6.size/\h35=h_6.push (.cells ((aj.cs v33)).toArray 39)/\(App 39 33 280 [.int .u64 0,.int .i64 0,.string ByteArray.empty,.slice none 0 0,.string ByteArray.empty,.int .i64 0,.int .i64 0,.int .i64 0,.int .i64 0,.int .i64 0,.string ByteArray.empty,.int .u32 0,.int .u8 0,.int .u8 0,.int .u8 0,.int .u8 0,.int .u8 0,.int .u8 0,.int .u8 0,.int .u8 0,.int .u8 0,.int .u8 0,.int .u8 0,.int .u8 0,.slice none 0 0,.int .i64 0,.int .i64 0,.slice none 0 0,.slice none 0 0,.int .i64 0,.bool false,.int .i64 0,.slice none 0 0] h35 b_ 1 ((aj.cs v33)) (fun s36 h37=>∃ a38,d_=some a38/\(∃ v39,ah h37 a38=some (Slc.v v39)/\(∃ s40,(0:Int)<=x32/\(x32:Int)<=(v39.len:Int)/\((v39.len:Int):Int)<=(v39.cap:Int)/\(v39.cap:Int)<=(v39.cap:Int)/\s40=rY v39 33 x32.toNat (v39.len:Int).toNat (v39.cap:Int).toNat/\(∃ l43,SlcAt h37 s40 l43/\App 39 33 280 [.int .u64 0,.int .i64 0,.string ByteArray.empty,.slice none 0 0,.string ByteArray.empty,.int .i64 0,.int .i64 0,.int .i64 0,.int .i64 0,.int .i64 0,.string ByteArray.empty,.int .u32 0,.int .u8 0,.int .u8 0,.int .u8 0,.int .u8 0,.int .u8 0,.int .u8 0,.int .u8 0,.int .u8 0,.int .u8 0,.int .u8 0,.int .u8 0,.int .u8 0,.slice none 0 0,.int .i64 0,.int .i64 0,.slice none 0 0,.slice none 0 0,.int .i64 0,.bool false,.int .i64 0,.slice none 0 0] h37 s36 s40.len l43 (fun s41 h42=>∃ h44,WrH h42 a38/\h44=setH h42 a38 (Slc.v s41)/\(k 0 h44))))))))))
def uu (b_:Option Addr) (d_:Addr) (f_:Slc) (a_:Int) (k:KP Int) (nx3:KP Int) (nx5:KP (Slc × Int)) (h_5:Heap):Prop :=
  ∃ a21,b_=some a21/\(∃ v22,ah h_5 a21=some (Slc.v v22)/\(if (decide (a_ < (v22.len:Int))) then (∃ v45,ah h_5 a21=some (Slc.v v45)/\(∃ a46,v45.a=some a46/\(0:Int)<=a_/\a_ < (v45.len:Int)/\(∃ v47,ah h_5 (a46.add (a_.toNat * 33))=some (.int .u64 v47)/\(∃ v48,ah h_5 d_=some (.int .u64 v48)/\(gG b_ d_ f_ a_ (decide (v47 < v48)) k nx3 nx5 h_5))))) else (gG b_ d_ f_ a_ false k nx3 nx5 h_5)))
def uX (d_:Option Addr) (f_:Addr) (i6:Slc) (i7:Int) (k:KP Int) (nx3:KP Int) (h:Heap):Prop :=
  ∃ (I:KP (Slc × Int)) (μ:(Slc × Int)->Heap->Nat),I (i6,i7) h/\∀ (a_:Slc) (b_:Int) (h:Heap),I (a_,b_) h->uu d_ f_ a_ b_ k nx3 (fun s h'=>I s h'/\μ s h' < μ (a_,b_) h) h
def gJ (a_:Option Addr) (b_:Addr) (k:KP Int) (nx3:KP Int) (h_4:Heap):Prop :=
  uX a_ b_ (⟨none,0,0⟩:Slc) 0 k nx3 h_4
def ug (d_:Option Addr) (a_:Addr) (b_:Int) (k:KP Int) (nx3:KP Int) (h_3:Heap):Prop :=
  ∃ v4,ah h_3 (a_.add 27)=some (Slc.v v4)/\(if (decide (b_ < (v4.len:Int))) then (∃ v5,ah h_3 (a_.add 27)=some (Slc.v v5)/\(∃ s6,(0:Int)<=0/\(0:Int)<=b_/\(b_:Int)<=(v5.cap:Int)/\(v5.cap:Int)<=(v5.cap:Int)/\s6=rY v5 1 (0:Int).toNat b_.toNat (v5.cap:Int).toNat/\(∃ v7,ah h_3 (a_.add 27)=some (Slc.v v7)/\(∃ a8,v7.a=some a8/\(0:Int)<=b_/\b_ < (v7.len:Int)/\(∃ v9,ah h_3 (a8.add (b_.toNat * 1))=some (.int .i64 v9)/\(qH s6 v9 (fun r10 h11=>if r10 then (k 1 h11) else (∃ x12,x12=(IntKind.i64.wrap (b_ + 1))/\(nx3 x12 h11))) h_3)))))) else (∃ v13,ah h_3 a_=some (.int .u64 v13)/\(gX d_ v13 (fun r14 h15=>if (decide (r14>=0)) then (k 7 h15) else (∃ h16,WrH h15 (a_.add 28)/\h16=setH h15 (a_.add 28) (Slc.v (⟨none,0,0⟩:Slc))/\(∃ h17,WrH h16 (a_.add 32)/\h17=setH h16 (a_.add 32) (Slc.v (⟨none,0,0⟩:Slc))/\(∃ h18,WrH h17 (a_.add 29)/\h18=setH h17 (a_.add 29) (.int .i64 0)/\(∃ h19,WrH h18 (a_.add 30)/\h19=setH h18 (a_.add 30) (.bool false)/\(∃ h20,WrH h19 (a_.add 31)/\h20=setH h19 (a_.add 31) (.int .i64 0)/\(∃ v49,ah h20 (a_.add 1)=some (.int .i64 v49)/\(if (v49 != 1) then (∃ h50,WrH h20 (a_.add 3)/\h50=setH h20 (a_.add 3) (Slc.v (⟨none,0,0⟩:Slc))/\(gJ d_ a_ k nx3 h50)) else (gJ d_ a_ k nx3 h20))))))))) h_3)))
def uW (b_:Option Addr) (d_:Addr) (i5:Int) (k:KP Int) (h:Heap):Prop :=
  ∃ (I:KP Int) (μ:Int->Heap->Nat),I i5 h/\∀ (a_:Int) (h:Heap),I a_ h->ug b_ d_ a_ k (fun s h'=>I s h'/\μ s h' < μ a_ h) h
def gM (a_:Option Addr) (b_:Addr) (d_:Bool) (k:KP Int) (h_2:Heap):Prop :=
  if d_ then (k 1 h_2) else (uW a_ b_ 0 k h_2)
def jU (b_:Option Addr) (a_:Addr) (d_:Bool) (k:KP Int) (h_1:Heap):Prop :=
  if d_ then (gM b_ a_ true k h_1) else (∃ v51,ah h_1 (a_.add 27)=some (Slc.v v51)/\(gM b_ a_ ((v51.len:Int) == 0) k h_1))
def pU (p0:Option Addr) (p1:aj) (k:KP Int) (h:Heap):Prop :=
  ∃ b1 h2,b1=h.size/\h2=h.push (.cells (aj.cs p1).toArray 39)/\(∃ v3,ah h2 ((ad b1).add 1)=some (.int .i64 v3)/\(if (decide (v3 < 1)) then (jU p0 (ad b1) true k h2) else (∃ v52,ah h2 ((ad b1).add 1)=some (.int .i64 v52)/\(jU p0 (ad b1) (decide (v52 > 3)) k h2))))
/-- (*quaestor quaestorref31.Desk).Yes -/
def fV (b_:Option Addr) (a_:Int) (d_:Addr) (k:KP Bool) (h_5:Heap):Prop :=
  ∃ a21,b_=some a21/\(∃ v22,ah h_5 a21=some (Slc.v v22)/\(∃ v23,ai h_5 d_ (aj.cs v23)/\(∃ a24,v22.a=some a24/\(0:Int)<=a_/\a_ < (v22.len:Int)/\(∃ h25,aN h_5 (a24.add (a_.toNat * 33)) 33/\h25=aM h_5 (a24.add (a_.toNat * 33)) 0 (aj.cs v23)/\(k true h25)))))
def jq (b_:Option Addr) (d_:Int) (a_:Addr) (k:KP Bool) (h_4:Heap):Prop :=
  ∃ v26,ah h_4 (a_.add 28)=some (Slc.v v26)/\(∃ v27,ai h_4 a_ (aj.cs v27)/\(qM v27 (fun r28 h29=>ah h29 (a_.add 28)=some (Slc.v v26)/\(if (decide ((v26.len:Int)>=r28)) then (∃ h31,WrH h29 (a_.add 30)/\h31=setH h29 (a_.add 30) (.bool true)/\(∃ v32,ah h31 (a_.add 1)=some (.int .i64 v32)/\(if (v32 == 2) then (∃ v33,ai h31 (a_.add 4) (aC.cs v33)/\(∃ v34,ah h31 (a_.add 3)=some (Slc.v v34)/\(∃ v35,ah h31 (a_.add 26)=some (.int .i64 v35)/\(BK v33 v34 v35 (fun r36 h37=>∃ h38,WrH h37 (a_.add 32)/\h38=setH h37 (a_.add 32) (Slc.v r36.1)/\(∃ h39,WrH h38 (a_.add 31)/\h39=setH h38 (a_.add 31) (.int .i64 r36.2)/\(fV b_ d_ a_ k h39))) h31)))) else (fV b_ d_ a_ k h31)))) else (fV b_ d_ a_ k h29))) h_4))
def jm (b_:Option Addr) (d_:Int) (f_:Slc) (a_:Int) (g_:Bool) (k:KP Bool) (h_3:Heap):Prop :=
  if g_ then (k false h_3) else (∃ a3,b_=some a3/\(∃ v4,ah h_3 a3=some (Slc.v v4)/\(∃ a5,v4.a=some a5/\(0:Int)<=a_/\a_ < (v4.len:Int)/\(∃ v6,ai h_3 (a5.add (a_.toNat * 33)) (aj.cs v6)/\(∃ b7 h8,b7=h_3.size/\h8=h_3.push (.cells (aj.cs (⟨0,0,ByteArray.empty,(⟨none,0,0⟩:Slc),(⟨ByteArray.empty,0,0,0,0⟩:aC),(⟨0,ByteArray.empty,0,([]:List Int),(⟨none,0,0⟩:Slc),0⟩:aT),0,(⟨none,0,0⟩:Slc),(⟨none,0,0⟩:Slc),0,false,0,(⟨none,0,0⟩:Slc)⟩:aj)).toArray 39)/\(∃ h9,aN h8 (ad b7) 33/\h9=aM h8 (ad b7) 0 (aj.cs v6)/\(∃ b10 h11,b10=h9.size/\h11=h9.push (.cells ([]).toArray 3)/\(∃ v12,ah h11 ((ad b7).add 28)=some (Slc.v v12)/\(∃ l15,SlcAt h11 v12 l15/\App 3 1 8 [.int .i64 0] h11 (⟨some ⟨b10,0,none⟩,0,0⟩:Slc) v12.len l15 (fun s13 h14=>∃ b16 h17,b16=h14.size/\h17=h14.push (.cells ([.int .i64 d_]).toArray 3)/\(App 3 1 8 [.int .i64 0] h17 s13 1 ([.int .i64 d_]) (fun s18 h19=>∃ h20,WrH h19 ((ad b7).add 28)/\h20=setH h19 ((ad b7).add 28) (Slc.v s18)/\(∃ v40,ah h20 ((ad b7).add 1)=some (.int .i64 v40)/\(if (v40 == 2) then (∃ b41 h42,b41=h20.size/\h42=h20.push (.cells ([]).toArray 89)/\(∃ v43,ah h42 ((ad b7).add 3)=some (Slc.v v43)/\(∃ l46,SlcAt h42 v43 l46/\App 89 5 48 [.string ByteArray.empty,.int .i64 0,.int .i64 0,.int .u64 0,.int .u16 0] h42 (⟨some ⟨b41,0,none⟩,0,0⟩:Slc) v43.len l46 (fun s44 h45=>∃ l49,SlcAt h45 f_ l49/\App 89 5 48 [.string ByteArray.empty,.int .i64 0,.int .i64 0,.int .u64 0,.int .u16 0] h45 s44 f_.len l49 (fun s47 h48=>tT s47 (fun r50 h51=>∃ h52,WrH h51 ((ad b7).add 3)/\h52=setH h51 ((ad b7).add 3) (Slc.v r50)/\(jq b_ a_ (ad b7) k h52)) h48))))) else (jq b_ a_ (ad b7) k h20)))))))))))))))
def jv (b_:Option Addr) (d_:Int) (f_:Slc) (a_:Int) (g_:Bool) (k:KP Bool) (h_2:Heap):Prop :=
  if g_ then (jm b_ d_ f_ a_ true k h_2) else (∃ a53,b_=some a53/\(∃ v54,ah h_2 a53=some (Slc.v v54)/\(∃ a55,v54.a=some a55/\(0:Int)<=a_/\a_ < (v54.len:Int)/\(∃ v56,ah h_2 ((a55.add (a_.toNat * 33)).add 28)=some (Slc.v v56)/\(qH v56 d_ (fun r57 h58=>jm b_ d_ f_ a_ r57 k h58) h_2)))))
def lD (b_:Option Addr) (d_:Int) (f_:Slc) (a_:Int) (g_:Bool) (k:KP Bool) (h_1:Heap):Prop :=
  if g_ then (jv b_ d_ f_ a_ true k h_1) else (∃ a59,b_=some a59/\(∃ v60,ah h_1 a59=some (Slc.v v60)/\(∃ a61,v60.a=some a61/\(0:Int)<=a_/\a_ < (v60.len:Int)/\(∃ v62,ah h_1 ((a61.add (a_.toNat * 33)).add 27)=some (Slc.v v62)/\(qH v62 d_ (fun r63 h64=>jv b_ d_ f_ a_ (!r63) k h64) h_1)))))
def rF (p0:Option Addr) (p1:Int) (p2:Int) (p3:Slc) (k:KP Bool) (h:Heap):Prop :=
  gX p0 p1 (fun r1 h2=>if (decide (r1 < 0)) then (lD p0 p2 p3 r1 true k h2) else (∃ a65,p0=some a65/\(∃ v66,ah h2 a65=some (Slc.v v66)/\(∃ a67,v66.a=some a67/\(0:Int)<=r1/\r1 < (v66.len:Int)/\(∃ v68,ah h2 ((a67.add (r1.toNat * 33)).add 30)=some (.bool v68)/\(lD p0 p2 p3 r1 v68 k h2)))))) h
/-- (*quaestor quaestorref31.Desk).No -/
def nD (a_:Bool) (k:KP Bool) (h_4:Heap):Prop :=
  k a_ h_4
def ny (d_:Option Addr) (f_:Int) (a_:Int) (b_:Bool) (k:KP Bool) (h_3:Heap):Prop :=
  if b_ then (∃ a3,d_=some a3/\(∃ v4,ah h_3 a3=some (Slc.v v4)/\(∃ a5,v4.a=some a5/\(0:Int)<=a_/\a_ < (v4.len:Int)/\(∃ h6,WrH h_3 ((a5.add (a_.toNat * 33)).add 30)/\h6=setH h_3 ((a5.add (a_.toNat * 33)).add 30) (.bool true)/\(∃ v7,ah h6 a3=some (Slc.v v7)/\(∃ a8,v7.a=some a8/\(0:Int)<=a_/\a_ < (v7.len:Int)/\(∃ h9,WrH h6 ((a8.add (a_.toNat * 33)).add 31)/\h9=setH h6 ((a8.add (a_.toNat * 33)).add 31) (.int .i64 f_)/\(nD b_ k h9)))))))) else (nD b_ k h_3)
def kr (d_:Option Addr) (a_:Int) (b_:Int) (f_:Bool) (k:KP Bool) (h_2:Heap):Prop :=
  if f_ then (k false h_2) else (∃ a10,d_=some a10/\(∃ v11,ah h_2 a10=some (Slc.v v11)/\(∃ a12,v11.a=some a12/\(0:Int)<=b_/\b_ < (v11.len:Int)/\(∃ v13,ah h_2 ((a12.add (b_.toNat * 33)).add 1)=some (.int .i64 v13)/\(if ((((((v13 == 3) && (a_ != 0)) && (a_ != 18)) && (a_ != 14)) && (a_ != 11)) && (a_ != 15)) then (ny d_ a_ b_ true k h_2) else (ny d_ a_ b_ (((a_ == 1) || (a_ == 3)) || (a_ == 17)) k h_2))))))
def mY (b_:Option Addr) (f_:Int) (d_:Int) (a_:Int) (g_:Bool) (k:KP Bool) (h_1:Heap):Prop :=
  if g_ then (kr b_ d_ a_ true k h_1) else (∃ a14,b_=some a14/\(∃ v15,ah h_1 a14=some (Slc.v v15)/\(∃ a16,v15.a=some a16/\(0:Int)<=a_/\a_ < (v15.len:Int)/\(∃ v17,ah h_1 ((a16.add (a_.toNat * 33)).add 27)=some (Slc.v v17)/\(qH v17 f_ (fun r18 h19=>kr b_ d_ a_ (!r18) k h19) h_1)))))
def tF (p0:Option Addr) (p1:Int) (p2:Int) (p3:Int) (k:KP Bool) (h:Heap):Prop :=
  gX p0 p1 (fun r1 h2=>if (decide (r1 < 0)) then (mY p0 p2 p3 r1 true k h2) else (∃ a20,p0=some a20/\(∃ v21,ah h2 a20=some (Slc.v v21)/\(∃ a22,v21.a=some a22/\(0:Int)<=r1/\r1 < (v21.len:Int)/\(∃ v23,ah h2 ((a22.add (r1.toNat * 33)).add 30)=some (.bool v23)/\(mY p0 p2 p3 r1 v23 k h2)))))) h
/-- (*quaestor quaestorref31.Desk).Tick -/
def iG (b_:Option Addr) (a_:Int) (k:KP Unit) (nx1:KP Int) (h_2:Heap):Prop :=
  ∃ x3,x3=(IntKind.i64.wrap (a_ + 1))/\(nx1 x3 h_2)
def uU (b_:Option Addr) (a_:Int) (k:KP Unit) (nx1:KP Int) (h_1:Heap):Prop :=
  ∃ a1,b_=some a1/\(∃ v2,ah h_1 a1=some (Slc.v v2)/\(if (decide (a_ < (v2.len:Int))) then (∃ v4,ah h_1 a1=some (Slc.v v4)/\(∃ a5,v4.a=some a5/\(0:Int)<=a_/\a_ < (v4.len:Int)/\(∃ v6,ah h_1 ((a5.add (a_.toNat * 33)).add 30)=some (.bool v6)/\(if (!v6) then (∃ v7,ah h_1 a1=some (Slc.v v7)/\(∃ a8,v7.a=some a8/\(0:Int)<=a_/\a_ < (v7.len:Int)/\(∃ v9,ah h_1 ((a8.add (a_.toNat * 33)).add 29)=some (.int .i64 v9)/\(∃ a10,v7.a=some a10/\(0:Int)<=a_/\a_ < (v7.len:Int)/\(∃ h11,WrH h_1 ((a10.add (a_.toNat * 33)).add 29)/\h11=setH h_1 ((a10.add (a_.toNat * 33)).add 29) (.int .i64 (IntKind.i64.wrap (v9 + 1)))/\(∃ v12,ah h11 a1=some (Slc.v v12)/\(∃ a13,v12.a=some a13/\(0:Int)<=a_/\a_ < (v12.len:Int)/\(∃ v14,ah h11 ((a13.add (a_.toNat * 33)).add 29)=some (.int .i64 v14)/\(if (decide (v14>=60)) then (∃ v15,ah h11 a1=some (Slc.v v15)/\(∃ a16,v15.a=some a16/\(0:Int)<=a_/\a_ < (v15.len:Int)/\(∃ h17,WrH h11 ((a16.add (a_.toNat * 33)).add 30)/\h17=setH h11 ((a16.add (a_.toNat * 33)).add 30) (.bool true)/\(∃ v18,ah h17 a1=some (Slc.v v18)/\(∃ a19,v18.a=some a19/\(0:Int)<=a_/\a_ < (v18.len:Int)/\(∃ h20,WrH h17 ((a19.add (a_.toNat * 33)).add 31)/\h20=setH h17 ((a19.add (a_.toNat * 33)).add 31) (.int .i64 15)/\(iG b_ a_ k nx1 h20))))))) else (iG b_ a_ k nx1 h11)))))))))) else (iG b_ a_ k nx1 h_1))))) else (k () h_1)))
def vP (b_:Option Addr) (i2:Int) (k:KP Unit) (h:Heap):Prop :=
  ∃ (I:KP Int) (μ:Int->Heap->Nat),I i2 h/\∀ (a_:Int) (h:Heap),I a_ h->uU b_ a_ k (fun s h'=>I s h'/\μ s h' < μ a_ h) h
def qz (p0:Option Addr) (k:KP Unit) (h:Heap):Prop :=
  vP p0 0 k h
/-- (*quaestor quaestorref31.Desk).Due -/
def lS (d_:Option Addr) (f_:Int) (a_:Int) (b_:Slc) (k:KP Slc) (nx1:KP (Slc × Int)) (nx2:KP (Slc × Int)) (h_4:Heap):Prop :=
  ∃ x7,x7=(IntKind.i64.wrap (a_ + 1))/\(nx2 (b_,x7) h_4)
def jG (d_:Option Addr) (f_:Slc) (a_:Int) (b_:Int) (g_:Bool) (k:KP Slc) (nx1:KP (Slc × Int)) (nx2:KP (Slc × Int)) (h_3:Heap):Prop :=
  if g_ then (∃ a8,d_=some a8/\(∃ v9,ah h_3 a8=some (Slc.v v9)/\(∃ a10,v9.a=some a10/\(0:Int)<=a_/\a_ < (v9.len:Int)/\(∃ v11,ah h_3 ((a10.add (a_.toNat * 33)).add 28)=some (Slc.v v11)/\(∃ v12,ah h_3 a8=some (Slc.v v12)/\(∃ a13,v12.a=some a13/\(0:Int)<=a_/\a_ < (v12.len:Int)/\(∃ v14,ah h_3 ((a13.add (a_.toNat * 33)).add 27)=some (Slc.v v14)/\(∃ a15,v14.a=some a15/\(0:Int)<=b_/\b_ < (v14.len:Int)/\(∃ v16,ah h_3 (a15.add (b_.toNat * 1))=some (.int .i64 v16)/\(qH v11 v16 (fun r17 h18=>if (!r17) then (∃ v19,ah h18 a8=some (Slc.v v19)/\(∃ a20,v19.a=some a20/\(0:Int)<=a_/\a_ < (v19.len:Int)/\(∃ v21,ah h18 (a20.add (a_.toNat * 33))=some (.int .u64 v21)/\(∃ v22,ah h18 a8=some (Slc.v v22)/\(∃ a23,v22.a=some a23/\(0:Int)<=a_/\a_ < (v22.len:Int)/\(∃ v24,ah h18 ((a23.add (a_.toNat * 33)).add 27)=some (Slc.v v24)/\(∃ a25,v24.a=some a25/\(0:Int)<=b_/\b_ < (v24.len:Int)/\(∃ v26,ah h18 (a25.add (b_.toNat * 1))=some (.int .i64 v26)/\(∃ b27 h28,b27=h18.size/\h28=h18.push (.cells ((aY.cs (⟨v21,v26⟩:aY))).toArray 84)/\(App 84 2 16 [.int .u64 0,.int .i64 0] h28 f_ 1 ((aY.cs (⟨v21,v26⟩:aY))) (fun s29 h30=>lS d_ a_ b_ s29 k nx1 nx2 h30))))))))))) else (lS d_ a_ b_ f_ k nx1 nx2 h18)) h_3)))))))))) else (∃ x31,x31=(IntKind.i64.wrap (a_ + 1))/\(nx1 (f_,x31) h_3))
def vS (b_:Option Addr) (a_:Int) (f_:Slc) (d_:Int) (k:KP Slc) (nx1:KP (Slc × Int)) (nx2:KP (Slc × Int)) (h_2:Heap):Prop :=
  ∃ a3,b_=some a3/\(∃ v4,ah h_2 a3=some (Slc.v v4)/\(∃ a5,v4.a=some a5/\(0:Int)<=a_/\a_ < (v4.len:Int)/\(∃ v6,ah h_2 ((a5.add (a_.toNat * 33)).add 27)=some (Slc.v v6)/\(if (decide (d_ < (v6.len:Int))) then (∃ v32,ah h_2 a3=some (Slc.v v32)/\(∃ a33,v32.a=some a33/\(0:Int)<=a_/\a_ < (v32.len:Int)/\(∃ v34,ah h_2 ((a33.add (a_.toNat * 33)).add 30)=some (.bool v34)/\(jG b_ f_ a_ d_ (!v34) k nx1 nx2 h_2)))) else (jG b_ f_ a_ d_ false k nx1 nx2 h_2)))))
def xS (d_:Option Addr) (f_:Int) (i3:Slc) (i5:Int) (k:KP Slc) (nx1:KP (Slc × Int)) (h:Heap):Prop :=
  ∃ (I:KP (Slc × Int)) (μ:(Slc × Int)->Heap->Nat),I (i3,i5) h/\∀ (a_:Slc) (b_:Int) (h:Heap),I (a_,b_) h->vS d_ f_ a_ b_ k nx1 (fun s h'=>I s h'/\μ s h' < μ (a_,b_) h) h
def wR (a_:Option Addr) (b_:Slc) (d_:Int) (k:KP Slc) (nx1:KP (Slc × Int)) (h_1:Heap):Prop :=
  ∃ a1,a_=some a1/\(∃ v2,ah h_1 a1=some (Slc.v v2)/\(if (decide (d_ < (v2.len:Int))) then (xS a_ d_ b_ 0 k nx1 h_1) else (k b_ h_1)))
def xR (d_:Option Addr) (i3:Slc) (i4:Int) (k:KP Slc) (h:Heap):Prop :=
  ∃ (I:KP (Slc × Int)) (μ:(Slc × Int)->Heap->Nat),I (i3,i4) h/\∀ (a_:Slc) (b_:Int) (h:Heap),I (a_,b_) h->wR d_ a_ b_ k (fun s h'=>I s h'/\μ s h' < μ (a_,b_) h) h
def qR (p0:Option Addr) (k:KP Slc) (h:Heap):Prop :=
  xR p0 (⟨none,0,0⟩:Slc) 0 k h
/-- quaestor quaestorref31.SameWants -/
def uV (b_:Slc) (d_:Slc) (a_:Int) (k:KP Bool) (nx1:KP Int) (h_1:Heap):Prop :=
  if (decide (a_ < (b_.len:Int))) then (∃ a1,b_.a=some a1/\(0:Int)<=a_/\a_ < (b_.len:Int)/\(∃ v2,ai h_1 (a1.add (a_.toNat * 2)) (aY.cs v2)/\(∃ a3,d_.a=some a3/\(0:Int)<=a_/\a_ < (d_.len:Int)/\(∃ v4,ai h_1 (a3.add (a_.toNat * 2)) (aY.cs v4)/\(if (if BinOp.neq = .eql then ((v2.f_N == v4.f_N) && (v2.aR == v4.aR)) else !((v2.f_N == v4.f_N) && (v2.aR == v4.aR))) then (k false h_1) else (∃ x5,x5=(IntKind.i64.wrap (a_ + 1))/\(nx1 x5 h_1))))))) else (k true h_1)
def xg (b_:Slc) (d_:Slc) (i5:Int) (k:KP Bool) (h:Heap):Prop :=
  ∃ (I:KP Int) (μ:Int->Heap->Nat),I i5 h/\∀ (a_:Int) (h:Heap),I a_ h->uV b_ d_ a_ k (fun s h'=>I s h'/\μ s h' < μ a_ h) h
def qC (p0:Slc) (p1:Slc) (k:KP Bool) (h:Heap):Prop :=
  if ((p0.len:Int) != (p1.len:Int)) then (k false h) else (xg p0 p1 0 k h)
theorem O38:aF prog 38:=ck func38
theorem R38 (p0 p1 k h) (H:qH p0 p1 k h):CallsH prog 38 #[Slc.v p0,.int .i64 p1] h (rB k):=by
 refine fE func38 fun w0=>?_
 refine zF [0,1] (zQ ?_)
 refine w1 Z (zE (zS (zQ ?_)))
 refine w1 Z (zE (zB ?_))
 obtain ⟨I1,μ1,H0,HI⟩:=H
 refine zO (σ:=Int) [0,1] (fun (s:Int)=>[(5,.int .i64 s)]) I1 μ1 0 H0 ?_
 rintro a_ h_1 H
 replace H:=HI a_ h_1 H
 refine zF [5,0,1] (zS (zQ ?_))
 refine w4 Z (zE ?_)
 refine zI H ?_ ?_ <;> intro H
 refine zK (zX (zS (zB (zQ (w2 Z ?_)))))
 refine wD Z H fun a1 _ H=>?_
 refine wL Z H fun v2 H=>?_
 refine w2 Z (zE (zF [5,0,1,17] ?_))
 refine zI H ?_ ?_ <;> intro H
 refine zQ (w1 Z (zE (zT (yB (yT (yT (yB (yT ?_))))))))
 exact aB _ rfl _ rfl ⟨true,rfl,H⟩
 refine zK (yL (zX (zR (w2 Z ?_))))
 refine wQ Z H fun x3 H=>?_
 refine zW ?_
 exact xJ x3 H
 refine zY (yE (yE (yH (zX (zF [] (zQ ?_))))))
 refine w1 Z (zE (zT ?_))
 exact aB _ rfl _ rfl ⟨false,rfl,H⟩
theorem O20:aF prog 20:=ck func20
theorem R20 (p0 k h) (H:qM p0 k h):CallsH prog 20 #[.agg (aj.cs p0).toArray] h (rI .i64 k):=by
 refine fE func20 fun w0=>?_
 refine zF [0] (zQ ?_)
 refine wX H fun b1 h2 H=>?_
 refine w1 Z (zE (zQ ?_))
 refine w1 Z ?_
 refine wL Z H fun v3 H=>?_
 refine w1 Z ?_
 refine wQ Z H fun x4 H=>?_
 refine zE (zS (zQ (w1 Z ?_)))
 refine wL Z H fun v5 H=>?_
 refine zE (zF [3,8] (zB (zQ ?_)))
 refine w2 Z (zE ?_)
 refine zI H ?_ ?_ <;> intro H
 refine zS (zQ (w2 Z (zE ?_)))
 refine zI H ?_ ?_ <;> intro H
 refine zQ (w2 Z (zE (zF [2] (zT (yT (yB (yT ?_)))))))
 exact aB _ rfl _ rfl ⟨x4,rfl,H⟩
 refine zK (zX (zQ (w1 Z (zE (zT (yB (yT ?_)))))))
 exact aB _ rfl _ rfl ⟨2,rfl,H⟩
 refine zQ (w2 Z (zE ?_))
 refine zI H ?_ ?_ <;> intro H
 refine zS (zQ (w2 Z (zE ?_)))
 refine zI H ?_ ?_ <;> intro H
 refine zQ (w1 Z (zE (zF [2] (zT (yT (yB (yT ?_)))))))
 exact aB _ rfl _ rfl ⟨1,rfl,H⟩
 refine zK (zX (zF [3] (zQ ?_)))
 refine w2 Z ?_
 refine wQ Z H fun x6 H=>?_
 refine zE (zT (yB (yT ?_)))
 exact aB _ rfl _ rfl ⟨x6,rfl,H⟩
 refine zQ (w2 Z (zE (zF [20] ?_)))
 refine zI H ?_ ?_ <;> intro H
 refine zQ (w1 Z (zE (zT (yB (yT ?_)))))
 exact aB _ rfl _ rfl ⟨1,rfl,H⟩
 refine zK (yL (zX (zQ (w1 Z (zE (zT ?_))))))
 exact aB _ rfl _ rfl ⟨0,rfl,H⟩
theorem O25:aF prog 25:=ck func25
theorem R25 (p0 p1 k h) (H:gX p0 p1 k h):CallsH prog 25 #[.pointer p0,.int .u64 p1] h (rI .i64 k):=by
 refine fE func25 fun w0=>?_
 refine zF [0,1] (zQ ?_)
 refine w1 Z (zE (zS (zQ ?_)))
 refine w1 Z (zE (zB ?_))
 obtain ⟨I1,μ1,H0,HI⟩:=H
 refine zO (σ:=Int) [0,1] (fun (s:Int)=>[(5,.int .i64 s)]) I1 μ1 0 H0 ?_
 rintro a_ h_1 H
 replace H:=HI a_ h_1 H
 refine zF [5,0,1] (zS (zQ ?_))
 refine w2 Z ?_
 refine wN H fun a1 ha1 H=>?_
 refine w1 Z ?_
 refine wL Z H fun v2 H=>?_
 refine w2 Z (zE ?_)
 refine zI H ?_ ?_ <;> intro H
 refine zK (zX (zF [5,0,1] (zS (zB (zQ ?_)))))
 refine w1 Z ?_
 refine wY (bP rfl rfl ha1) ?_
 refine w1 Z ?_
 refine wL Z H fun v3 H=>?_
 refine w1 Z ?_
 refine wD Z H fun a4 _ H=>?_
 refine w1 Z ?_
 refine wL Z H fun v5 H=>?_
 refine w2 Z (zE (zF [5,0,1,24] ?_))
 refine zI H ?_ ?_ <;> intro H
 refine zQ (w2 Z (zE (zT (yB (yT (yT (yB (yT ?_))))))))
 exact aB _ rfl _ rfl ⟨a_,rfl,H⟩
 refine zK (yL (zX (zR (w2 Z ?_))))
 refine wQ Z H fun x6 H=>?_
 refine zW ?_
 exact xJ x6 H
 refine zY (yE (yE (yH (zX (zF [] (zQ ?_))))))
 refine wQ Z H fun x7 H=>?_
 refine zE (zT ?_)
 exact aB _ rfl _ rfl ⟨x7,rfl,H⟩
theorem O18:aF prog 18:=ck func18
theorem R18 (p0 p1 k h) (H:pU p0 p1 k h):CallsH prog 18 #[.pointer p0,.agg (aj.cs p1).toArray] h (rI .i64 k):=by
 refine fE func18 fun w0=>?_
 refine zF [0,1] (zQ ?_)
 refine wX H fun b1 h2 H=>?_
 refine w1 Z (zE (zS (zQ ?_)))
 refine w1 Z ?_
 refine wL Z H fun v3 H=>?_
 refine w2 Z ?_
 refine vJ 4 (α:=Bool) [0,3] (fun (s:Bool)=>[(16,.bool s)]) (fun (s:Bool) h=>jU p0 (ad b1) s k h) ?_ ?_
 rintro g_ h_1 H
 refine vF [16,0,3] ?_
 refine w1 Z ?_
 refine vJ 5 (α:=Bool) [0,3] (fun (s:Bool)=>[(22,.bool s)]) (fun (s:Bool) h=>gM p0 (ad b1) s k h) ?_ ?_
 rintro h_ h_2 H
 refine vF [22,0,3] (zE ?_)
 refine zI H ?_ ?_ <;> intro H
 refine zQ (w1 Z (zE (zT (yT ?_))))
 exact aB _ rfl _ rfl ⟨1,rfl,H⟩
 refine zK (zX (zS (zQ (w1 Z (zE (zB ?_))))))
 obtain ⟨I3,μ3,H0,HI⟩:=H
 refine zO (σ:=Int) [0,3] (fun (s:Int)=>[(5,.int .i64 s)]) I3 μ3 0 H0 ?_
 rintro d_ h_3 H
 replace H:=HI d_ h_3 H
 refine zF [5,0,3] (zS (zQ ?_))
 refine w2 Z ?_
 refine wL Z H fun v4 H=>?_
 refine w2 Z (zE ?_)
 refine zI H ?_ ?_ <;> intro H
 refine zK (zX (zS (zB (zS ?_))))
 refine gB [0,3,5] ?_
 refine gT 0 [3] Z ?_
 refine gl 1 [30] Z H fun v5 H=>?_
 refine gT 2 [5] Z ?_
 obtain ⟨s6,ps6,qs6,rs6,ts6,es6,H⟩:=H
 refine gYe 3 [31,32] rfl (fun _=>Jg (s:=v5) (L:=0) (H:=d_) (M:=(v5.cap:Int)) Z rfl rfl rfl rfl rfl rfl rfl (by simp) ps6 qs6 rs6 ts6) (congrArg Slc.v es6) ?_
 refine gT 4 [3] Z ?_
 refine gl 5 [34] Z H fun v7 H=>?_
 refine gT 6 [5] Z ?_
 refine gd 7 [35,36] Z H fun a8 H=>?_
 refine gl 8 [37] Z H fun v9 H=>?_
 refine gC 9 [33,38] O38 (R38 _ _ _ _ H) fun r10 h11 H=>?_
 refine gZ ?_
 refine zX (zF [0,3,5,39] ?_)
 refine zI H ?_ ?_ <;> intro H
 refine zQ (w1 Z (zE (zT (yB (yT (yT (yB (yT ?_))))))))
 exact aB _ rfl _ rfl ⟨1,rfl,H⟩
 refine zK (yL (zX (zR (w2 Z ?_))))
 refine wQ Z H fun x12 H=>?_
 refine zW ?_
 exact xJ x12 H
 refine zY (yE (yE (yH (zX (zS (zQ (w2 Z ?_)))))))
 refine wL Z H fun v13 H=>?_
 refine wC O25 (R25 _ _ _ _ H) fun r14 h15 H=>?_
 refine w1 Z (zE (zF [0,3,44] ?_))
 refine zI H ?_ ?_ <;> intro H
 refine zQ (w1 Z (zE (zT (yT ?_))))
 exact aB _ rfl _ rfl ⟨7,rfl,H⟩
 refine zK (zX (zQ (w1 Z ?_)))
 refine wT Z H fun h16 H=>?_
 refine zE (zQ (w1 Z ?_))
 refine wT Z H fun h17 H=>?_
 refine zE (zQ (w1 Z ?_))
 refine wT Z H fun h18 H=>?_
 refine zE (zQ (w1 Z ?_))
 refine wT Z H fun h19 H=>?_
 refine zE (zQ (w1 Z ?_))
 refine wT Z H fun h20 H=>?_
 refine zE ?_
 refine zJ (α:=Unit) [0,3] (fun (s:Unit)=>[]) (fun (s:Unit) h=>gJ p0 (ad b1) k (fun s h'=>I3 s h'/\μ3 s h' < μ3 d_ h_3) h) ?_ ?_
 rintro _ h_4 H
 refine zF [0,3] (zQ ?_)
 refine w1 Z (zE (zS (zQ ?_)))
 refine w1 Z (zE (zB ?_))
 obtain ⟨I5,μ5,H0,HI⟩:=H
 refine zO (σ:=Slc × Int) [0,3] (fun (s:Slc × Int)=>[(6,Slc.v s.1),(7,.int .i64 s.2)]) I5 μ5 ((⟨none,0,0⟩:Slc),0) H0 ?_
 rintro ⟨a_,b_⟩ h_5 H
 replace H:=HI a_ b_ h_5 H
 refine zF [6,7,0,3] (zS (zS ?_))
 refine qZ (by kernel_rfl) (by kernel_rfl) ?_
 refine qp Z ?_
 refine qp Z ?_
 obtain ⟨a21,ha21,H⟩:=H
 refine q_y (bP rfl rfl ha21) rfl rfl ?_
 refine qp Z ?_
 obtain ⟨v22,hv22,H⟩:=H
 refine q_y (fq Z rfl rfl rfl rfl hv22) rfl rfl ?_
 refine qp Z ?_
 refine qp Z ?_
 refine qp Z ?_
 refine CG 12 (α:=Bool) (fun (s:Bool)=>[(73,.bool s),(0,.pointer p0),(3,pt b1),(6,Slc.v a_),(7,.int .i64 b_)]) (fun (s:Bool)=>gG p0 (ad b1) a_ b_ s k (fun s h'=>I3 s h'/\μ3 s h' < μ3 d_ h_3) (fun s h'=>I5 s h'/\μ5 s h' < μ5 (a_,b_) h_5) h_5) ?_ ?_
 rintro f_ H
 refine zq [(73,.bool f_),(0,.pointer p0),(3,pt b1),(6,Slc.v a_),(7,.int .i64 b_)] ⟨rfl,rfl,rfl,rfl,rfl,trivial⟩ ?_
 refine xK ?_
 refine zX ?_
 refine zI H ?_ ?_ <;> intro H
 refine zK (zX (zS (zB (zR (w2 Z ?_)))))
 refine wN H fun a23 _ H=>?_
 refine w1 Z ?_
 refine wL Z H fun v24 H=>?_
 refine w1 Z ?_
 refine wD Z H fun a25 _ H=>?_
 refine wLa Z H fun v26 H=>?_
 obtain ⟨b27,h28,eb27,eh28,H⟩:=H
 refine wH (nJ Z rfl rfl rfl rfl rfl rfl rfl eb27 eh28) ?_
 refine wA (ji (s:=a_) (r:=(⟨some ⟨b27,0,none⟩,1,1⟩:Slc)) Z rfl rfl rfl rfl rfl (bT eb27 eh28) H) ?_
 rintro _ h30 ⟨s29,rfl,H⟩
 refine w1 Z (zL (zX (zF [0,3,6,7] (zR ?_))))
 refine w2 Z ?_
 refine wQ Z H fun x31 H=>?_
 refine zW ?_
 exact xJ (s29,x31) H
 refine zY (yE (yE (yH (zX (zQ (w2 Z ?_))))))
 refine wQ Z H fun x32 H=>?_
 refine zE (zQ (w1 Z ?_))
 refine wLa Z H fun v33 H=>?_
 obtain ⟨b34,h35,eb34,eh35,H⟩:=H
 refine wH (nJ Z rfl rfl rfl rfl rfl rfl rfl eb34 eh35) ?_
 refine wA (ji (s:=a_) (r:=(⟨some ⟨b34,0,none⟩,1,1⟩:Slc)) Z rfl rfl rfl rfl rfl (bT eb34 eh35) H) ?_
 rintro _ h37 ⟨s36,rfl,H⟩
 refine w1 Z (zE (zF [0,6,8] (zQ ?_)))
 refine w3 Z ?_
 refine wN H fun a38 ha38 H=>?_
 refine w1 Z ?_
 refine wL Z H fun v39 H=>?_
 refine w1 Z ?_
 obtain ⟨s40,ps40,qs40,rs40,ts40,es40,H⟩:=H
 refine wYe (Jg (s:=v39) (L:=x32) (H:=(v39.len:Int)) (M:=(v39.cap:Int)) Z rfl rfl rfl rfl rfl rfl rfl (by simp) ps40 qs40 rs40 ts40) (congrArg Slc.v es40) ?_
 obtain ⟨l43,hl43,H⟩:=H
 refine wA (ji (s:=s36) (r:=s40) Z rfl rfl rfl rfl rfl hl43 H) ?_
 rintro _ h42 ⟨s41,rfl,H⟩
 refine wY (bP rfl rfl ha38) ?_
 refine w1 Z ?_
 refine wT Z H fun h44 H=>?_
 refine zE (zF [] (zQ ?_))
 refine w1 Z (zE (zT ?_))
 exact aB _ rfl _ rfl ⟨0,rfl,H⟩
 refine CR (d:=61) H rfl (fun H=>?_) (fun H=>?_)
 refine qp Z ?_
 refine q_y (bP rfl rfl ha21) rfl rfl ?_
 refine qp Z ?_
 obtain ⟨v45,hv45,H⟩:=H
 refine q_y (fq Z rfl rfl rfl rfl hv45) rfl rfl ?_
 refine qp Z ?_
 obtain ⟨a46,ha46,la46,ua46,H⟩:=H
 refine q_y (lh Z rfl rfl ha46 rfl rfl rfl la46 ua46) rfl rfl ?_
 refine qp Z ?_
 obtain ⟨v47,hv47,H⟩:=H
 refine q_y (fq Z rfl rfl rfl rfl hv47) rfl rfl ?_
 refine qp Z ?_
 obtain ⟨v48,hv48,H⟩:=H
 refine q_y (fq Z rfl rfl rfl rfl hv48) rfl rfl ?_
 refine qp Z ?_
 refine qp Z ?_
 exact Au (decide (v47 < v48)) H ⟨rfl,rfl,rfl,rfl,rfl,trivial⟩
 refine qs ?_
 refine qs ?_
 refine qs ?_
 refine qs ?_
 refine qs ?_
 refine qs ?_
 refine qs ?_
 refine qs ?_
 refine qs ?_
 refine qs ?_
 refine qs ?_
 refine qp Z ?_
 exact Au false H ⟨rfl,rfl,rfl,rfl,rfl,trivial⟩
 refine zQ (w1 Z ?_)
 refine wL Z H fun v49 H=>?_
 refine w1 Z (zE (zF [0,3,52] ?_))
 refine zI H ?_ ?_ <;> intro H
 refine zR (w1 Z ?_)
 refine wT Z H fun h50 H=>?_
 refine zW ?_
 exact xJ () H
 refine zK ?_
 exact xJ () H
 refine vI 17 H ?_ ?_ <;> intro H
 refine wS (wS (wS (wS (w1 Z ?_))))
 exact wJ true H
 refine w1 Z ?_
 refine wL Z H fun v51 H=>?_
 refine w3 Z ?_
 exact wJ ((v51.len:Int) == 0) H
 refine vI 12 H ?_ ?_ <;> intro H
 refine wS (wS (wS (w1 Z ?_)))
 exact wJ true H
 refine w1 Z ?_
 refine wL Z H fun v52 H=>?_
 refine w2 Z ?_
 exact wJ (decide (v52 > 3)) H
theorem O15:aF prog 15:=ck func15
theorem R15 (p0 p1 p2 p3 k h) (H:rF p0 p1 p2 p3 k h):CallsH prog 15 #[.pointer p0,.int .u64 p1,.int .i64 p2,Slc.v p3] h (rB k):=by
 refine fE func15 fun w0=>?_
 refine zF [0,1,2,3] (zQ ?_)
 refine w1 Z (zE (zQ ?_))
 refine w2 Z ?_
 refine wC O25 (R25 _ _ _ _ H) fun r1 h2 H=>?_
 refine w1 Z (zE (zS (zQ ?_)))
 refine w3 Z ?_
 refine vJ 9 (α:=Bool) [0,2,3,9] (fun (s:Bool)=>[(27,.bool s)]) (fun (s:Bool) h=>lD p0 p2 p3 r1 s k h) ?_ ?_
 rintro a_ h_1 H
 refine vF [27,0,2,3,9] ?_
 refine w1 Z ?_
 refine vJ 12 (α:=Bool) [0,2,3,9] (fun (s:Bool)=>[(40,.bool s)]) (fun (s:Bool) h=>jv p0 p2 p3 r1 s k h) ?_ ?_
 rintro b_ h_2 H
 refine vF [40,0,2,3,9] ?_
 refine w1 Z ?_
 refine vJ 11 (α:=Bool) [0,2,3,9] (fun (s:Bool)=>[(52,.bool s)]) (fun (s:Bool) h=>jm p0 p2 p3 r1 s k h) ?_ ?_
 rintro d_ h_3 H
 refine vF [52,0,2,3,9] (zE ?_)
 refine zI H ?_ ?_ <;> intro H
 refine zQ (w1 Z (zE (zT (yT ?_))))
 exact aB _ rfl _ rfl ⟨false,rfl,H⟩
 refine zK (zX (zQ (w1 Z ?_)))
 refine wN H fun a3 _ H=>?_
 refine w1 Z ?_
 refine wL Z H fun v4 H=>?_
 refine w1 Z ?_
 refine wD Z H fun a5 _ H=>?_
 refine wLa Z H fun v6 H=>?_
 refine wB Z H fun b7 h8 H=>?_
 refine wTa Z H fun h9 H=>?_
 refine zE (zF [0,2,3,9,10] (zQ ?_))
 obtain ⟨b10,h11,eb10,eh11,H⟩:=H
 refine wH (nJ Z rfl rfl rfl rfl rfl rfl rfl eb10 eh11) ?_
 refine w1 Z ?_
 refine wL Z H fun v12 H=>?_
 obtain ⟨l15,hl15,H⟩:=H
 refine wA (ji (s:=(⟨some ⟨b10,0,none⟩,0,0⟩:Slc)) (r:=v12) Z rfl rfl rfl rfl rfl hl15 H) ?_
 rintro _ h14 ⟨s13,rfl,H⟩
 refine w1 Z ?_
 obtain ⟨b16,h17,eb16,eh17,H⟩:=H
 refine wH (nJ Z rfl rfl rfl rfl rfl rfl rfl eb16 eh17) ?_
 refine wA (ji (s:=s13) (r:=(⟨some ⟨b16,0,none⟩,1,1⟩:Slc)) Z rfl rfl rfl rfl rfl (bT eb16 eh17) H) ?_
 rintro _ h19 ⟨s18,rfl,H⟩
 refine w1 Z ?_
 refine wT Z H fun h20 H=>?_
 refine zE (zF [0,3,9,10] ?_)
 refine zJ (α:=Unit) [0,9,10] (fun (s:Unit)=>[]) (fun (s:Unit) h=>jq p0 r1 (ad b7) k h) ?_ ?_
 rintro _ h_4 H
 refine zF [0,9,10] ?_
 refine zJ (α:=Unit) [0,9,10] (fun (s:Unit)=>[]) (fun (s:Unit) h=>fV p0 r1 (ad b7) k h) ?_ ?_
 rintro _ h_5 H
 refine zF [0,9,10] (zS ?_)
 refine gB [0,9,10] ?_
 refine gT 0 [0] Z ?_
 obtain ⟨a21,ha21,H⟩:=H
 refine gY 1 [103] rfl (fun _=>bP rfl rfl ha21) ?_
 refine gT 2 [104] Z ?_
 refine gl 3 [105] Z H fun v22 H=>?_
 refine gT 4 [9] Z ?_
 refine gla 5 [10] Z H fun v23 H=>?_
 refine gd 6 [106,107] Z H fun a24 H=>?_
 obtain ⟨h25,wh25,eh25,H⟩:=H
 refine gH 7 [108,109] rfl (si Z rfl rfl rfl rfl rfl (yV (by kernel_rfl)) wh25 eh25) ?_
 refine gZ ?_
 refine zX (zF [] (zQ ?_))
 refine w1 Z (zE (zT ?_))
 exact aB _ rfl _ rfl ⟨true,rfl,H⟩
 refine zS ?_
 refine gB [0,9,10] ?_
 refine gT 0 [10] Z ?_
 refine gl 1 [79] Z H fun v26 H=>?_
 refine gT 2 [80] Z ?_
 refine gla 3 [10] Z H fun v27 H=>?_
 refine gCr 4 [82] O20 (R20 _ _ _ H) fun r28 h29 H=>?_
 obtain ⟨hy30,H⟩:=H
 refine gR rfl (fq Z rfl rfl rfl rfl hy30) ?_
 refine gZ0 ?_
 refine gT 5 [81,83] Z ?_
 refine gZ ?_
 refine zX ?_
 refine zI H ?_ ?_ <;> intro H
 refine zQ (w1 Z ?_)
 refine wT Z H fun h31 H=>?_
 refine zE (zF [0,9,10] (zQ ?_))
 refine w1 Z ?_
 refine wL Z H fun v32 H=>?_
 refine w1 Z (zE ?_)
 refine zI H ?_ ?_ <;> intro H
 refine zQ (w1 Z ?_)
 refine wLa Z H fun v33 H=>?_
 refine w1 Z ?_
 refine wL Z H fun v34 H=>?_
 refine w1 Z ?_
 refine wL Z H fun v35 H=>?_
 refine wC O40 (R40 _ _ _ _ _ H) fun r36 h37 H=>?_
 refine w5 Z (zE (zF [0,9,10,11,12] (zQ ?_)))
 refine w2 Z ?_
 refine wT Z H fun h38 H=>?_
 refine zE (zR (w2 Z ?_))
 refine wT Z H fun h39 H=>?_
 refine zW ?_
 exact xJ () H
 refine zK ?_
 exact xJ () H
 refine zK ?_
 exact xJ () H
 refine zQ (w1 Z ?_)
 refine wL Z H fun v40 H=>?_
 refine w1 Z (zE ?_)
 refine zI H ?_ ?_ <;> intro H
 refine zR ?_
 obtain ⟨b41,h42,eb41,eh42,H⟩:=H
 refine wH (nJ Z rfl rfl rfl rfl rfl rfl rfl eb41 eh42) ?_
 refine w1 Z ?_
 refine wL Z H fun v43 H=>?_
 obtain ⟨l46,hl46,H⟩:=H
 refine wA (ji (s:=(⟨some ⟨b41,0,none⟩,0,0⟩:Slc)) (r:=v43) Z rfl rfl rfl rfl rfl hl46 H) ?_
 rintro _ h45 ⟨s44,rfl,H⟩
 refine w1 Z ?_
 obtain ⟨l49,hl49,H⟩:=H
 refine wA (ji (s:=s44) (r:=p3) Z rfl rfl rfl rfl rfl hl49 H) ?_
 rintro _ h48 ⟨s47,rfl,H⟩
 refine wC O39 (R39 _ _ _ H) fun r50 h51 H=>?_
 refine w1 Z ?_
 refine wT Z H fun h52 H=>?_
 refine zW ?_
 exact xJ () H
 refine zK ?_
 exact xJ () H
 refine vI 41 H ?_ ?_ <;> intro H
 refine wS (wS (wS (wS (wS (wS (wS (wS (wS (wS (w1 Z ?_))))))))))
 exact wJ true H
 refine w1 Z ?_
 refine wN H fun a53 _ H=>?_
 refine w1 Z ?_
 refine wL Z H fun v54 H=>?_
 refine w1 Z ?_
 refine wD Z H fun a55 _ H=>?_
 refine w1 Z ?_
 refine wL Z H fun v56 H=>?_
 refine w1 Z ?_
 refine wC O38 (R38 _ _ _ _ H) fun r57 h58 H=>?_
 refine w1 Z ?_
 exact wJ r57 H
 refine vI 28 H ?_ ?_ <;> intro H
 refine wS (wS (wS (wS (wS (wS (wS (wS (wS (wS (wS (w1 Z ?_)))))))))))
 exact wJ true H
 refine w1 Z ?_
 refine wN H fun a59 _ H=>?_
 refine w1 Z ?_
 refine wL Z H fun v60 H=>?_
 refine w1 Z ?_
 refine wD Z H fun a61 _ H=>?_
 refine w1 Z ?_
 refine wL Z H fun v62 H=>?_
 refine w1 Z ?_
 refine wC O38 (R38 _ _ _ _ H) fun r63 h64 H=>?_
 refine w2 Z ?_
 exact wJ (!r63) H
 refine vI 18 H ?_ ?_ <;> intro H
 refine wS (wS (wS (wS (wS (wS (wS (wS (w1 Z ?_))))))))
 exact wJ true H
 refine w1 Z ?_
 refine wN H fun a65 _ H=>?_
 refine w1 Z ?_
 refine wL Z H fun v66 H=>?_
 refine w1 Z ?_
 refine wD Z H fun a67 _ H=>?_
 refine w1 Z ?_
 refine wL Z H fun v68 H=>?_
 refine w1 Z ?_
 exact wJ v68 H
theorem O16:aF prog 16:=ck func16
theorem R16 (p0 p1 p2 p3 k h) (H:tF p0 p1 p2 p3 k h):CallsH prog 16 #[.pointer p0,.int .u64 p1,.int .i64 p2,.int .i64 p3] h (rB k):=by
 refine fE func16 fun w0=>?_
 refine zF [0,1,2,3] (zQ ?_)
 refine w1 Z (zE (zQ ?_))
 refine w2 Z ?_
 refine wC O25 (R25 _ _ _ _ H) fun r1 h2 H=>?_
 refine w1 Z (zE (zS (zQ ?_)))
 refine w3 Z ?_
 refine vJ 9 (α:=Bool) [0,2,3,9] (fun (s:Bool)=>[(25,.bool s)]) (fun (s:Bool) h=>mY p0 p2 p3 r1 s k h) ?_ ?_
 rintro b_ h_1 H
 refine vF [25,0,2,3,9] ?_
 refine w1 Z ?_
 refine vJ 12 (α:=Bool) [0,3,9] (fun (s:Bool)=>[(38,.bool s)]) (fun (s:Bool) h=>kr p0 p3 r1 s k h) ?_ ?_
 rintro d_ h_2 H
 refine vF [38,0,3,9] (zE ?_)
 refine zI H ?_ ?_ <;> intro H
 refine zQ (w1 Z (zE (zT (yT ?_))))
 exact aB _ rfl _ rfl ⟨false,rfl,H⟩
 refine zK (zX (zQ (w3 Z ?_)))
 refine vU 3 [0,3,9] [(44,.bool ((p3 == 1) || (p3 == 3)))] ?_ ?_
 refine w1 Z ?_
 refine vU 3 [0,3,9] [(48,.bool (((p3 == 1) || (p3 == 3)) || (p3 == 17)))] ?_ ?_
 refine w1 Z (zE ?_)
 refine zJ (α:=Bool) [0,3,9] (fun (s:Bool)=>[(10,.bool s)]) (fun (s:Bool) h=>ny p0 p3 r1 s k h) ?_ ?_
 rintro a_ h_3 H
 refine zF [10,0,3,9] ?_
 refine zJ (α:=Unit) [10] (fun (s:Unit)=>[]) (fun (s:Unit) h=>nD a_ k h) ?_ ?_
 rintro _ h_4 H
 refine zF [10] (zQ ?_)
 refine w2 Z (zE (zT ?_))
 exact aB _ rfl _ rfl ⟨a_,rfl,H⟩
 refine zQ (w1 Z (zE ?_))
 refine zI H ?_ ?_ <;> intro H
 refine zQ (w1 Z ?_)
 refine wN H fun a3 ha3 H=>?_
 refine w1 Z ?_
 refine wL Z H fun v4 H=>?_
 refine w1 Z ?_
 refine wD Z H fun a5 _ H=>?_
 refine w1 Z ?_
 refine wT Z H fun h6 H=>?_
 refine zE (zF [10,0,3,9] (zR ?_))
 refine w1 Z ?_
 refine wY (bP rfl rfl ha3) ?_
 refine w1 Z ?_
 refine wL Z H fun v7 H=>?_
 refine w2 Z ?_
 refine wD Z H fun a8 _ H=>?_
 refine w1 Z ?_
 refine wT Z H fun h9 H=>?_
 refine zW ?_
 exact xJ () H
 refine zK ?_
 exact xJ () H
 refine zQ (w1 Z ?_)
 refine wN H fun a10 _ H=>?_
 refine w1 Z ?_
 refine wL Z H fun v11 H=>?_
 refine w1 Z ?_
 refine wD Z H fun a12 _ H=>?_
 refine w1 Z ?_
 refine wL Z H fun v13 H=>?_
 refine w2 Z ?_
 refine vU 3 [0,3,9,10] [(61,.bool ((v13 == 3) && (p3 != 0)))] ?_ ?_
 refine w1 Z ?_
 refine vU 3 [0,3,9,10] [(65,.bool (((v13 == 3) && (p3 != 0)) && (p3 != 18)))] ?_ ?_
 refine w1 Z ?_
 refine vU 3 [0,3,9,10] [(69,.bool ((((v13 == 3) && (p3 != 0)) && (p3 != 18)) && (p3 != 14)))] ?_ ?_
 refine w1 Z ?_
 refine vU 3 [0,3,9,10] [(73,.bool (((((v13 == 3) && (p3 != 0)) && (p3 != 18)) && (p3 != 14)) && (p3 != 11)))] ?_ ?_
 refine w1 Z ?_
 refine vU 3 [0,3,9,10] [(77,.bool ((((((v13 == 3) && (p3 != 0)) && (p3 != 18)) && (p3 != 14)) && (p3 != 11)) && (p3 != 15)))] ?_ ?_
 refine zE ?_
 refine zI H ?_ ?_ <;> intro H
 refine zR (w1 Z (zW ?_))
 exact xJ true H
 refine zK ?_
 exact xJ (((p3 == 1) || (p3 == 3)) || (p3 == 17)) H
 refine vG (d:=74) (fun hb=>?_) (fun hb=>?_)
 refine w3 Z ?_
 refine vK ?_
 exact congrArg (fun b=>some (Value.bool b)) (jD hb)
 refine wS (wS (w1 Z ?_))
 refine vK ?_
 exact congrArg (fun b=>some (Value.bool b)) (jH hb)
 refine vG (d:=70) (fun hb=>?_) (fun hb=>?_)
 refine w3 Z ?_
 refine vK ?_
 exact congrArg (fun b=>some (Value.bool b)) (jD hb)
 refine wS (wS (w1 Z ?_))
 refine vK ?_
 exact congrArg (fun b=>some (Value.bool b)) (jH hb)
 refine vG (d:=66) (fun hb=>?_) (fun hb=>?_)
 refine w3 Z ?_
 refine vK ?_
 exact congrArg (fun b=>some (Value.bool b)) (jD hb)
 refine wS (wS (w1 Z ?_))
 refine vK ?_
 exact congrArg (fun b=>some (Value.bool b)) (jH hb)
 refine vG (d:=62) (fun hb=>?_) (fun hb=>?_)
 refine w3 Z ?_
 refine vK ?_
 exact congrArg (fun b=>some (Value.bool b)) (jD hb)
 refine wS (wS (w1 Z ?_))
 refine vK ?_
 exact congrArg (fun b=>some (Value.bool b)) (jH hb)
 refine vG (d:=58) (fun hb=>?_) (fun hb=>?_)
 refine w3 Z ?_
 refine vK ?_
 exact congrArg (fun b=>some (Value.bool b)) (jD hb)
 refine wS (wS (w1 Z ?_))
 refine vK ?_
 exact congrArg (fun b=>some (Value.bool b)) (jH hb)
 refine vG (d:=45) (fun hb=>?_) (fun hb=>?_)
 refine wS (wS (w1 Z ?_))
 refine vK ?_
 exact congrArg (fun b=>some (Value.bool b)) (BN hb)
 refine w3 Z ?_
 refine vK ?_
 exact congrArg (fun b=>some (Value.bool b)) (BO hb)
 refine vG (d:=41) (fun hb=>?_) (fun hb=>?_)
 refine wS (wS (w1 Z ?_))
 refine vK ?_
 exact congrArg (fun b=>some (Value.bool b)) (BN hb)
 refine w3 Z ?_
 refine vK ?_
 exact congrArg (fun b=>some (Value.bool b)) (BO hb)
 refine vI 26 H ?_ ?_ <;> intro H
 refine wS (wS (wS (wS (wS (wS (wS (wS (wS (wS (wS (w1 Z ?_)))))))))))
 exact wJ true H
 refine w1 Z ?_
 refine wN H fun a14 _ H=>?_
 refine w1 Z ?_
 refine wL Z H fun v15 H=>?_
 refine w1 Z ?_
 refine wD Z H fun a16 _ H=>?_
 refine w1 Z ?_
 refine wL Z H fun v17 H=>?_
 refine w1 Z ?_
 refine wC O38 (R38 _ _ _ _ H) fun r18 h19 H=>?_
 refine w2 Z ?_
 exact wJ (!r18) H
 refine vI 16 H ?_ ?_ <;> intro H
 refine wS (wS (wS (wS (wS (wS (wS (wS (w1 Z ?_))))))))
 exact wJ true H
 refine w1 Z ?_
 refine wN H fun a20 _ H=>?_
 refine w1 Z ?_
 refine wL Z H fun v21 H=>?_
 refine w1 Z ?_
 refine wD Z H fun a22 _ H=>?_
 refine w1 Z ?_
 refine wL Z H fun v23 H=>?_
 refine w1 Z ?_
 exact wJ v23 H
theorem O17:aF prog 17:=ck func17
theorem R17 (p0 k h) (H:qz p0 k h):CallsH prog 17 #[.pointer p0] h (rU k):=by
 refine fE func17 fun w0=>?_
 refine zF [0] (zQ ?_)
 refine w1 Z (zE (zB ?_))
 obtain ⟨I1,μ1,H0,HI⟩:=H
 refine zO (σ:=Int) [0] (fun (s:Int)=>[(2,.int .i64 s)]) I1 μ1 0 H0 ?_
 rintro a_ h_1 H
 replace H:=HI a_ h_1 H
 refine zF [2,0] (zS (zQ ?_))
 refine w2 Z ?_
 refine wN H fun a1 ha1 H=>?_
 refine w1 Z ?_
 refine wL Z H fun v2 H=>?_
 refine w2 Z (zE ?_)
 refine zI H ?_ ?_ <;> intro H
 refine zK (zX (zF [2,0] ?_))
 refine zJ (α:=Unit) [0,2] (fun (s:Unit)=>[]) (fun (s:Unit) h=>iG p0 a_ k (fun s h'=>I1 s h'/\μ1 s h' < μ1 a_ h_1) h) ?_ ?_
 rintro _ h_2 H
 refine zF [0,2] (zR ?_)
 refine w2 Z ?_
 refine wQ Z H fun x3 H=>?_
 refine zW ?_
 exact xJ x3 H
 refine zB (zQ (w1 Z ?_))
 refine wY (bP rfl rfl ha1) ?_
 refine w1 Z ?_
 refine wL Z H fun v4 H=>?_
 refine w1 Z ?_
 refine wD Z H fun a5 _ H=>?_
 refine w1 Z ?_
 refine wL Z H fun v6 H=>?_
 refine w1 Z (zE (zF [2,0,20] ?_))
 refine zI H ?_ ?_ <;> intro H
 refine zQ (w1 Z ?_)
 refine wY (bP rfl rfl ha1) ?_
 refine w1 Z ?_
 refine wL Z H fun v7 H=>?_
 refine w1 Z ?_
 refine wD Z H fun a8 _ H=>?_
 refine w1 Z ?_
 refine wL Z H fun v9 H=>?_
 refine w1 Z ?_
 refine wD Z H fun a10 _ H=>?_
 refine w1 Z ?_
 refine wT Z H fun h11 H=>?_
 refine zE (zF [2,0] (zQ ?_))
 refine w1 Z ?_
 refine wY (bP rfl rfl ha1) ?_
 refine w1 Z ?_
 refine wL Z H fun v12 H=>?_
 refine w1 Z ?_
 refine wD Z H fun a13 _ H=>?_
 refine w1 Z ?_
 refine wL Z H fun v14 H=>?_
 refine w1 Z (zE (zF [2,0,40] ?_))
 refine zI H ?_ ?_ <;> intro H
 refine zQ (w1 Z ?_)
 refine wY (bP rfl rfl ha1) ?_
 refine w1 Z ?_
 refine wL Z H fun v15 H=>?_
 refine w1 Z ?_
 refine wD Z H fun a16 _ H=>?_
 refine w1 Z ?_
 refine wT Z H fun h17 H=>?_
 refine zE (zF [2,0] (zR ?_))
 refine w1 Z ?_
 refine wY (bP rfl rfl ha1) ?_
 refine w1 Z ?_
 refine wL Z H fun v18 H=>?_
 refine w1 Z ?_
 refine wD Z H fun a19 _ H=>?_
 refine w1 Z ?_
 refine wT Z H fun h20 H=>?_
 refine zL ?_
 exact xJ () H
 refine zK (yL ?_)
 exact xJ () H
 refine zK (yL ?_)
 exact xJ () H
 refine zY (yE (yE (yH ?_)))
 exact CQ _ rfl _ rfl ⟨(),rfl,H⟩
theorem O23:aF prog 23:=ck func23
theorem R23 (p0 k h) (H:qR p0 k h):CallsH prog 23 #[.pointer p0] h (rS k):=by
 refine fE func23 fun w0=>?_
 refine zF [0] (zQ ?_)
 refine w1 Z (zE (zQ ?_))
 refine w1 Z (zE (zS (zQ ?_)))
 refine w1 Z (zE (zB ?_))
 obtain ⟨I1,μ1,H0,HI⟩:=H
 refine zO (σ:=Slc × Int) [0] (fun (s:Slc × Int)=>[(3,Slc.v s.1),(4,.int .i64 s.2)]) I1 μ1 ((⟨none,0,0⟩:Slc),0) H0 ?_
 rintro ⟨b_,d_⟩ h_1 H
 replace H:=HI b_ d_ h_1 H
 refine zF [3,4,0] (zS (zQ ?_))
 refine w2 Z ?_
 refine wN H fun a1 _ H=>?_
 refine w1 Z ?_
 refine wL Z H fun v2 H=>?_
 refine w2 Z (zE ?_)
 refine zI H ?_ ?_ <;> intro H
 refine zK (zX (zF [3,4,0] (zS (zB (zQ ?_)))))
 refine w1 Z (zE (zB ?_))
 obtain ⟨I2,μ2,H0,HI⟩:=H
 refine zO (σ:=Slc × Int) [0,4] (fun (s:Slc × Int)=>[(3,Slc.v s.1),(5,.int .i64 s.2)]) I2 μ2 (b_,0) H0 ?_
 rintro ⟨a_,f_⟩ h_2 H
 replace H:=HI a_ f_ h_2 H
 refine zF [3,5,0,4] (zS (zQ ?_))
 refine w2 Z ?_
 refine wN H fun a3 ha3 H=>?_
 refine w1 Z ?_
 refine wL Z H fun v4 H=>?_
 refine w1 Z ?_
 refine wD Z H fun a5 _ H=>?_
 refine w1 Z ?_
 refine wL Z H fun v6 H=>?_
 refine w3 Z ?_
 refine vJ 10 (α:=Bool) [0,3,4,5] (fun (s:Bool)=>[(36,.bool s)]) (fun (s:Bool) h=>jG p0 a_ d_ f_ s k (fun s h'=>I1 s h'/\μ1 s h' < μ1 (b_,d_) h_1) (fun s h'=>I2 s h'/\μ2 s h' < μ2 (a_,f_) h_2) h) ?_ ?_
 rintro h_ h_3 H
 refine vF [36,0,3,4,5] (zE ?_)
 refine zI H ?_ ?_ <;> intro H
 refine zK (zX ?_)
 refine zJ (α:=Slc) [0,4,5] (fun (s:Slc)=>[(3,Slc.v s)]) (fun (s:Slc) h=>lS p0 d_ f_ s k (fun s h'=>I1 s h'/\μ1 s h' < μ1 (b_,d_) h_1) (fun s h'=>I2 s h'/\μ2 s h' < μ2 (a_,f_) h_2) h) ?_ ?_
 rintro g_ h_4 H
 refine zF [3,0,4,5] (zR ?_)
 refine w2 Z ?_
 refine wQ Z H fun x7 H=>?_
 refine zW ?_
 exact xJ (g_,x7) H
 refine zB (zS ?_)
 refine gB [0,3,4,5] ?_
 refine gT 0 [0] Z ?_
 obtain ⟨a8,ha8,H⟩:=H
 refine gY 1 [39] rfl (fun _=>bP rfl rfl ha8) ?_
 refine gT 2 [40] Z ?_
 refine gl 3 [41] Z H fun v9 H=>?_
 refine gT 4 [4] Z ?_
 refine gd 5 [42,43] Z H fun a10 H=>?_
 refine gT 6 [44] Z ?_
 refine gl 7 [45] Z H fun v11 H=>?_
 refine gT 8 [0] Z ?_
 refine gY 9 [47] rfl (fun _=>bP rfl rfl ha8) ?_
 refine gT 10 [48] Z ?_
 refine gl 11 [49] Z H fun v12 H=>?_
 refine gT 12 [4] Z ?_
 refine gd 13 [50,51] Z H fun a13 H=>?_
 refine gT 14 [52] Z ?_
 refine gl 15 [53] Z H fun v14 H=>?_
 refine gT 16 [5] Z ?_
 refine gd 17 [54,55] Z H fun a15 H=>?_
 refine gl 18 [56] Z H fun v16 H=>?_
 refine gC 19 [46,57] O38 (R38 _ _ _ _ H) fun r17 h18 H=>?_
 refine gT 20 [58] Z ?_
 refine gZ ?_
 refine zX (zF [0,3,4,5,59] ?_)
 refine zI H ?_ ?_ <;> intro H
 refine gB [0,3,4,5] ?_
 refine gT 0 [3] Z ?_
 refine gT 1 [0] Z ?_
 refine gY 2 [61] rfl (fun _=>bP rfl rfl ha8) ?_
 refine gT 3 [62] Z ?_
 refine gl 4 [63] Z H fun v19 H=>?_
 refine gT 5 [4] Z ?_
 refine gd 6 [64,65] Z H fun a20 H=>?_
 refine gT 7 [66] Z ?_
 refine gl 8 [67] Z H fun v21 H=>?_
 refine gT 9 [0] Z ?_
 refine gY 10 [69] rfl (fun _=>bP rfl rfl ha8) ?_
 refine gT 11 [70] Z ?_
 refine gl 12 [71] Z H fun v22 H=>?_
 refine gT 13 [4] Z ?_
 refine gd 14 [72,73] Z H fun a23 H=>?_
 refine gT 15 [74] Z ?_
 refine gl 16 [75] Z H fun v24 H=>?_
 refine gT 17 [5] Z ?_
 refine gd 18 [76,77] Z H fun a25 H=>?_
 refine gl 19 [78] Z H fun v26 H=>?_
 refine gY 20 [68,79] rfl (fun _=>bU Z rfl rfl rfl rfl rfl) ?_
 obtain ⟨b27,h28,eb27,eh28,H⟩:=H
 refine gH 21 [80] rfl (nJ Z rfl rfl rfl rfl rfl rfl rfl eb27 eh28) ?_
 refine gA 22 [60,81] rfl (ji (s:=a_) (r:=(⟨some ⟨b27,0,none⟩,1,1⟩:Slc)) Z rfl rfl rfl rfl rfl (bT eb27 eh28) H) ?_
 rintro _ h30 ⟨s29,rfl,H⟩
 refine gT 23 [82] Z ?_
 refine gZ ?_
 refine yL ?_
 exact xJ s29 H
 refine zK (yL ?_)
 exact xJ a_ H
 refine zY (yE (yE (yH (yL (zX (zR (w2 Z ?_)))))))
 refine wQ Z H fun x31 H=>?_
 refine zW ?_
 exact xJ (a_,x31) H
 refine vI 26 H ?_ ?_ <;> intro H
 refine w1 Z ?_
 refine wY (bP rfl rfl ha3) ?_
 refine w1 Z ?_
 refine wL Z H fun v32 H=>?_
 refine w1 Z ?_
 refine wD Z H fun a33 _ H=>?_
 refine w1 Z ?_
 refine wL Z H fun v34 H=>?_
 refine w2 Z ?_
 exact wJ (!v34) H
 refine wS (wS (wS (wS (wS (wS (wS (wS (wS (w1 Z ?_)))))))))
 exact wJ false H
 refine zY (yE (yE (yH (zX (zF [3] (zQ ?_))))))
 refine w2 Z (zE (zT ?_))
 exact aB _ rfl _ rfl ⟨b_,rfl,H⟩
theorem O21:aF prog 21:=ck func21
theorem R21 (p0 p1 k h) (H:qC p0 p1 k h):CallsH prog 21 #[Slc.v p0,Slc.v p1] h (rB k):=by
 refine fE func21 fun w0=>?_
 refine zF [0,1] (zQ ?_)
 refine w1 Z (zE (zS (zQ ?_)))
 refine w5 Z (zE ?_)
 refine zI H ?_ ?_ <;> intro H
 refine zQ (w1 Z (zE (zF [4] (zT (yT ?_)))))
 exact aB _ rfl _ rfl ⟨false,rfl,H⟩
 refine zK (zX (zS (zQ (w1 Z (zE (zB ?_))))))
 obtain ⟨I1,μ1,H0,HI⟩:=H
 refine zO (σ:=Int) [0,1] (fun (s:Int)=>[(5,.int .i64 s)]) I1 μ1 0 H0 ?_
 rintro a_ h_1 H
 replace H:=HI a_ h_1 H
 refine zF [5,0,1] (zS (zQ ?_))
 refine w4 Z (zE ?_)
 refine zI H ?_ ?_ <;> intro H
 refine zK (zX (zS (zB (zS ?_))))
 refine qZ (by kernel_rfl) (by kernel_rfl) ?_
 refine qp Z ?_
 refine qp Z ?_
 obtain ⟨a1,ha1,la1,ua1,H⟩:=H
 refine q_y (lh Z rfl rfl ha1 rfl rfl rfl la1 ua1) rfl rfl ?_
 obtain ⟨v2,hv2,H⟩:=H
 refine q_y (fC Z rfl rfl rfl rfl rfl hv2) rfl rfl ?_
 refine qp Z ?_
 refine qp Z ?_
 obtain ⟨a3,ha3,la3,ua3,H⟩:=H
 refine q_y (lh Z rfl rfl ha3 rfl rfl rfl la3 ua3) rfl rfl ?_
 obtain ⟨v4,hv4,H⟩:=H
 refine q_y (fC Z rfl rfl rfl rfl rfl hv4) rfl rfl ?_
 refine q_y (GR (op:=.neq) (xs:=aY.cs v2) (ys:=aY.cs v4) (.inr rfl) rfl rfl rfl (DY v2 v4) (by kernel_rfl)) rfl rfl ?_
 refine xK ?_
 refine zX (zF [5,0,1,25] ?_)
 refine zI H ?_ ?_ <;> intro H
 refine zQ (w1 Z (zE (zT (yB (yT (yT (yB (yT ?_))))))))
 exact aB _ rfl _ rfl ⟨false,rfl,H⟩
 refine zK (yL (zX (zR (w2 Z ?_))))
 refine wQ Z H fun x5 H=>?_
 refine zW ?_
 exact xJ x5 H
 refine zY (yE (yE (yH (zX (zF [] (zQ ?_))))))
 refine w1 Z (zE (zT ?_))
 exact aB _ rfl _ rfl ⟨true,rfl,H⟩
end Go.Q.Yq
end
