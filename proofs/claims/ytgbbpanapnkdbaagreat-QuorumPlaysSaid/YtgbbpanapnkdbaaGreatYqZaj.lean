/- A part of the proof of statements of this seat: lemmas, no statement of their own. -/
import Derived.Test.YtgbbpanapnkdbaaGreatYqZad
import Derived.Test.YtgbbpanapnkdbaaGreatYqZae
import Derived.Test.YtgbbpanapnkdbaaGreatYqZag
import Derived.Test.YtgbbpanapnkdbaaGreatYqZah
import Derived.Test.YtgbbpanapnkdbaaGreatYqZai
set_option linter.unusedVariables false
set_option linter.unusedSimpArgs false
set_option maxRecDepth 100000
set_option maxHeartbeats 1000000
section
namespace Go.Q.Yq
open Go.Proofs.Tryz
/-- maps.Values map quaestor piece.place quaestor api.Piece quaestor piece.place quaestor api.Piece  -/
def aU (p0:Option Nat) (k:KP Value) (h:Heap):Prop :=
  ∃ b1 h2,b1=h.size/\h2=h.push (.cells ([.map p0]).toArray 92)/\(k (Value.func (.func 71) #[] #[.pointer (some (ad b1))]) h2)
/-- quaestor piece.Between -/
def mQ (d_:Int) (f_:Int) (g_:Slc) (h_:Int) (a_:Int) (b_:Slc) (k:KP Slc) (nx1:KP (Slc × Int)) (h_2:Heap):Prop :=
  nx1 (b_,(IntKind.i64.wrap (a_ + 1))) h_2
def mV (a_:Int) (b_:Int) (d_:Slc) (j_:Addr) (f_:Slc) (g_:Int) (h_:Int) (l_:Bool) (k:KP Slc) (nx1:KP (Slc × Int)) (h_3:Heap):Prop :=
  if l_ then (∃ v7,ai h_3 j_ (ae.cs v7)/\(∃ b8 h9,b8=h_3.size/\h9=h_3.push (.cells ((ae.cs v7)).toArray 89)/\(App 89 5 48 [.string ByteArray.empty,.int .i64 0,.int .i64 0,.int .u64 0,.int .u16 0] h9 d_ 1 ((ae.cs v7)) (fun s10 h11=>mQ a_ b_ f_ g_ h_ s10 k nx1 h11)))) else (mQ a_ b_ f_ g_ h_ d_ k nx1 h_3)
def yf (d_:Int) (f_:Int) (b_:Slc) (g_:Int) (h_:Slc) (a_:Int) (k:KP Slc) (nx1:KP (Slc × Int)) (h_1:Heap):Prop :=
  if (decide (a_ < g_)) then (∃ a1,b_.a=some a1/\(0:Int)<=a_/\a_ < (b_.len:Int)/\(∃ v2,ai h_1 (a1.add (a_.toNat * 5)) (ae.cs v2)/\(∃ b3 h4,b3=h_1.size/\h4=h_1.push (.cells (ae.cs (⟨ByteArray.empty,0,0,(⟨0,0⟩:aG)⟩:ae)).toArray 89)/\(∃ h5,aN h4 (ad b3) 5/\h5=aM h4 (ad b3) 0 (ae.cs v2)/\(∃ v6,ah h5 ((ad b3).add 1)=some (.int .i64 v6)/\(if (decide (v6>=d_)) then (∃ v12,ah h5 ((ad b3).add 1)=some (.int .i64 v12)/\(mV d_ f_ h_ (ad b3) b_ g_ a_ (decide (v12<=f_)) k nx1 h5)) else (mV d_ f_ h_ (ad b3) b_ g_ a_ false k nx1 h5))))))) else (k h_ h_1)
def yP (d_:Int) (f_:Int) (g_:Slc) (h_:Int) (i7:Slc) (i12:Int) (k:KP Slc) (h:Heap):Prop :=
  ∃ (I:KP (Slc × Int)) (μ:(Slc × Int)->Heap->Nat),I (i7,i12) h/\∀ (a_:Slc) (b_:Int) (h:Heap),I (a_,b_) h->yf d_ f_ g_ h_ a_ b_ k (fun s h'=>I s h'/\μ s h' < μ (a_,b_) h) h
def tu (p0:Slc) (p1:Int) (p2:Int) (k:KP Slc) (h:Heap):Prop :=
  yP p1 p2 p0 (p0.len:Int) (⟨none,0,0⟩:Slc) 0 k h
/-- quaestor num.Wide -/
def pE (p0:Int) (k:KP au) (h:Heap):Prop :=
  ∃ b1 h2,b1=h.size/\h2=h.push (.cells (au.cs (⟨0,0⟩:au)).toArray 116)/\(∃ h3,aN h2 (ad b1) 2/\h3=aM h2 (ad b1) 0 (au.cs (⟨(shr .i64 p0 (63:Int).toNat),(IntKind.u64.wrap p0)⟩:au))/\(∃ v4,ai h3 (ad b1) (au.cs v4)/\k v4 h3))
/-- quaestor num.Add -/
def wP (a_:Addr) (b_:Addr) (d_:Bool) (k:KP (au × Int)) (h_1:Heap):Prop :=
  if d_ then (∃ h22,aN h_1 a_ 2/\h22=aM h_1 a_ 0 (au.cs (⟨0,0⟩:au))/\(∃ v23,ai h22 a_ (au.cs v23)/\k (v23,19) h22)) else (∃ v24,ai h_1 b_ (au.cs v24)/\(∃ h25,aN h_1 a_ 2/\h25=aM h_1 a_ 0 (au.cs v24)/\(∃ v26,ai h25 a_ (au.cs v26)/\k (v26,0) h25)))
def Dm (p0:au) (p1:au) (k:KP (au × Int)) (h:Heap):Prop :=
  ∃ b1 h2,b1=h.size/\h2=h.push (.cells (au.cs p0).toArray 116)/\(∃ b3 h4,b3=h2.size/\h4=h2.push (.cells (au.cs p1).toArray 116)/\(∃ b5 h6,b5=h4.size/\h6=h4.push (.cells (au.cs (⟨0,0⟩:au)).toArray 116)/\(∃ v7,ah h6 ((ad b1).add 1)=some (.int .u64 v7)/\(∃ v8,ah h6 ((ad b3).add 1)=some (.int .u64 v8)/\(((0:Int)<=v7/\(0:Int)<=v8/\(0:Int)<=0/\0<=(1:Int))/\(∃ x10,x10=((v7 + v8 + 0) % 18446744073709551616)/\(∃ x11,x11=((v7 + v8 + 0) / 18446744073709551616)/\(∃ v12,ah h6 (ad b1)=some (.int .i64 v12)/\(∃ v13,ah h6 (ad b3)=some (.int .i64 v13)/\(((0:Int)<=(IntKind.u64.wrap v12)/\(0:Int)<=(IntKind.u64.wrap v13)/\(0:Int)<=x11/\x11<=(1:Int))/\(∃ x15,x15=(((IntKind.u64.wrap v12) + (IntKind.u64.wrap v13) + x11) % 18446744073709551616)/\(∃ x16,x16=(((IntKind.u64.wrap v12) + (IntKind.u64.wrap v13) + x11) / 18446744073709551616)/\(∃ b17 h18,b17=h6.size/\h18=h6.push (.cells (au.cs (⟨0,0⟩:au)).toArray 116)/\(∃ h19,aN h18 (ad b17) 2/\h19=aM h18 (ad b17) 0 (au.cs (⟨(IntKind.i64.wrap x15),x10⟩:au))/\(∃ v20,ah h19 (ad b1)=some (.int .i64 v20)/\(∃ v21,ah h19 (ad b3)=some (.int .i64 v21)/\(if ((shr .i64 v20 (63:Int).toNat) == (shr .i64 v21 (63:Int).toNat)) then (∃ v27,ah h19 (ad b17)=some (.int .i64 v27)/\(∃ v28,ah h19 (ad b1)=some (.int .i64 v28)/\(wP (ad b5) (ad b17) ((shr .i64 v27 (63:Int).toNat) != (shr .i64 v28 (63:Int).toNat)) k h19))) else (wP (ad b5) (ad b17) false k h19))))))))))))))))))
/-- quaestor num.Floor -/
def vD (a_:Int) (k:KP (Int × Int)) (h_1:Heap):Prop :=
  k (a_,0) h_1
def yY (p0:Int) (p1:Int) (k:KP (Int × Int)) (h:Heap):Prop :=
  if (p1 == 0) then (k (0,1) h) else (if ((p0 == (-9223372036854775808)) && (p1 == (-1))) then (k (0,19) h) else (p1≠0/\(∃ x2,x2=(IntKind.i64.wrap (Int.tdiv p0 p1))/\(p1≠0/\(if (((Int.tmod p0 p1) != 0) && ((shr .i64 p0 (63:Int).toNat) != (shr .i64 p1 (63:Int).toNat))) then (∃ x4,x4=(IntKind.i64.wrap (x2 - 1))/\(vD x4 k h)) else (vD x2 k h))))))
/-- quaestor query.Check -/
def rO (a_:Bool) (k:KP Int) (h_2:Heap):Prop :=
  if a_ then (k 1 h_2) else (k 0 h_2)
def rM (b_:Bool) (a_:Bool) (k:KP Int) (h_3:Heap):Prop :=
  rO a_ k h_3
def rD (a_:Addr) (b_:Bool) (k:KP Int) (h_1:Heap):Prop :=
  if b_ then (rO true k h_1) else (∃ v10,ah h_1 (a_.add 3)=some (.int .i64 v10)/\(if (v10 == 6) then (∃ v11,ah h_1 (a_.add 4)=some (.int .i64 v11)/\(rM false (decide (v11 < 1)) k h_1)) else (rM false false k h_1)))
def xE (p0:aC) (k:KP Int) (h:Heap):Prop :=
  ∃ b1 h2,b1=h.size/\h2=h.push (.cells (aC.cs p0).toArray 28)/\(∃ v3,ah h2 (ad b1)=some (.string v3)/\(je v3 (fun r4 h5=>∃ b6 h7,b6=h5.size/\h7=h5.push (.cells (af.cs (⟨ByteArray.empty,(⟨none,0,0⟩:Slc)⟩:af)).toArray 139)/\(∃ h8,aN h7 (ad b6) 2/\h8=aM h7 (ad b6) 0 (af.cs r4.1)/\(if (r4.2 != 0) then (k r4.2 h8) else (∃ v9,ah h8 ((ad b1).add 3)=some (.int .i64 v9)/\(if (decide (v9 < 0)) then (rD (ad b1) true k h8) else (∃ v12,ah h8 ((ad b1).add 3)=some (.int .i64 v12)/\(rD (ad b1) (decide (v12 > 6)) k h8))))))) h2))
/-- slices.SortedFunc quaestor api.Piece  -/
def bR (p0:Value) (k:KP Slc) (h:Heap):Prop :=
  iP p0 (fun r1 h2=>eG r1 (fun r3 h4=>k r1 h4) h2) h
/-- quaestor piece.Merge -/
def jk (b_:Option Nat) (d_:Slc) (f_:Int) (g_:Int) (h_:Slc) (j_:Int) (a_:Int) (k:KP Slc) (nx1:KP Int) (nx2:KP Int) (h_3:Heap):Prop :=
  nx2 (IntKind.i64.wrap (a_ + 1)) h_3
def eT (a_:Option Nat) (l_:Addr) (m_:Addr) (b_:Slc) (d_:Int) (f_:Int) (g_:Slc) (h_:Int) (j_:Int) (n_:Bool) (k:KP Slc) (nx1:KP Int) (nx2:KP Int) (h_4:Heap):Prop :=
  if n_ then (jk a_ b_ d_ f_ g_ h_ j_ k nx1 nx2 h_4) else (∃ v23,ai h_4 m_ (aK.cs v23)/\(∃ v24,ai h_4 l_ (ae.cs v24)/\(∃ (r25:Nat) (l26:List (aK × ae)) (h27:Heap),a_=some r25/\K4 (K:=aK) (V:=ae) (fun v:aK=>Value.agg (aK.cs v).toArray) (fun v:ae=>Value.agg (ae.cs v).toArray) h_4 (some r25) l26/\h27=ry h_4 r25 ((fun v:aK=>Value.agg (aK.cs v).toArray) v23) (.agg (ae.cs v24).toArray)/\(jk a_ b_ d_ f_ g_ h_ j_ k nx1 nx2 h27))))
def uC (d_:Option Nat) (h_:Slc) (j_:Int) (f_:Int) (b_:Slc) (g_:Int) (a_:Int) (k:KP Slc) (nx1:KP Int) (nx2:KP Int) (h_2:Heap):Prop :=
  if (decide (a_ < g_)) then (∃ a5,b_.a=some a5/\(0:Int)<=a_/\a_ < (b_.len:Int)/\(∃ v6,ai h_2 (a5.add (a_.toNat * 5)) (ae.cs v6)/\(∃ b7 h8,b7=h_2.size/\h8=h_2.push (.cells (ae.cs (⟨ByteArray.empty,0,0,(⟨0,0⟩:aG)⟩:ae)).toArray 89)/\(∃ h9,aN h8 (ad b7) 5/\h9=aM h8 (ad b7) 0 (ae.cs v6)/\(∃ v10,ai h9 (ad b7) (ae.cs v10)/\(xQ v10 (fun r11 h12=>if (r11 != 0) then (jk d_ h_ j_ f_ b_ g_ a_ k nx1 nx2 h12) else (∃ v13,ah h12 (ad b7)=some (.string v13)/\(∃ v14,ah h12 ((ad b7).add 1)=some (.int .i64 v14)/\(∃ b15 h16,b15=h12.size/\h16=h12.push (.cells (aK.cs (⟨ByteArray.empty,0⟩:aK)).toArray 95)/\(∃ h17,aN h16 (ad b15) 2/\h17=aM h16 (ad b15) 0 (aK.cs (⟨v13,v14⟩:aK))/\(∃ v18,ai h17 (ad b15) (aK.cs v18)/\(∃ l19:List (aK × ae),K4 (K:=aK) (V:=ae) (fun v:aK=>Value.agg (aK.cs v).toArray) (fun v:ae=>Value.agg (ae.cs v).toArray) h17 d_ l19/\(∃ b20 h21,b20=h17.size/\h21=h17.push (.cells (ae.cs (⟨ByteArray.empty,0,0,(⟨0,0⟩:aG)⟩:ae)).toArray 89)/\(∃ h22,aN h21 (ad b20) 5/\h22=aM h21 (ad b20) 0 (ae.cs ((jP l19 v18).getD (⟨ByteArray.empty,0,0,(⟨0,0⟩:aG)⟩:ae)))/\(if (jP l19 v18).isSome then (∃ v28,ai h22 ((ad b20).add 3) (aG.cs v28)/\(∃ v29,ai h22 ((ad b7).add 3) (aG.cs v29)/\(∃ v30,ah h22 ((ad b20).add 2)=some (.int .i64 v30)/\(∃ v31,ah h22 ((ad b7).add 2)=some (.int .i64 v31)/\(yO v28 v29 (fun r32 h33=>ah h33 ((ad b7).add 2)=some (.int .i64 v31)/\ah h33 ((ad b20).add 2)=some (.int .i64 v30)/\(lY v30 v31 (fun r36 h37=>∃ b38 h39,b38=h37.size/\h39=h37.push (.cells ([.int .i64 r32,.int .i64 r36]).toArray 3)/\(sM (⟨some ⟨b38,0,none⟩,2,2⟩:Slc) (fun r40 h41=>eT d_ (ad b7) (ad b15) h_ j_ f_ b_ g_ a_ (decide (r40>=0)) k nx1 nx2 h41) h39)) h33)) h22))))) else (eT d_ (ad b7) (ad b15) h_ j_ f_ b_ g_ a_ false k nx1 nx2 h22))))))))))) h9)))))) else (nx1 (IntKind.i64.wrap (f_ + 1)) h_2)
def wM (b_:Option Nat) (d_:Slc) (f_:Int) (g_:Int) (h_:Slc) (j_:Int) (i20:Int) (k:KP Slc) (nx1:KP Int) (h:Heap):Prop :=
  ∃ (I:KP Int) (μ:Int->Heap->Nat),I i20 h/\∀ (a_:Int) (h:Heap),I a_ h->uC b_ d_ f_ g_ h_ j_ a_ k nx1 (fun s h'=>I s h'/\μ s h' < μ a_ h) h
def uK (d_:Option Nat) (b_:Slc) (f_:Int) (a_:Int) (k:KP Slc) (nx1:KP Int) (h_1:Heap):Prop :=
  if (decide (a_ < f_)) then (∃ a3,b_.a=some a3/\(0:Int)<=a_/\a_ < (b_.len:Int)/\(∃ v4,ah h_1 (a3.add (a_.toNat * 1))=some (Slc.v v4)/\(wM d_ b_ f_ a_ v4 (v4.len:Int) 0 k nx1 h_1))) else (aU d_ (fun r42 h43=>bR r42 (fun r44 h45=>k r44 h45) h43) h_1)
def vR (b_:Option Nat) (d_:Slc) (f_:Int) (i14:Int) (k:KP Slc) (h:Heap):Prop :=
  ∃ (I:KP Int) (μ:Int->Heap->Nat),I i14 h/\∀ (a_:Int) (h:Heap),I a_ h->uK b_ d_ f_ a_ k (fun s h'=>I s h'/\μ s h' < μ a_ h) h
def oU (p0:Slc) (k:KP Slc) (h:Heap):Prop :=
  ∃ b1 h2,b1=h.size/\h2=h.push (.map #[] 0)/\(vR (some b1) p0 (p0.len:Int) 0 k h2)
/-- quaestor query.Ask -/
def vw (d_:Addr) (f_:Option Nat) (g_:Slc) (h_:Int) (a_:Int) (b_:Slc) (k:KP (Slc × Int)) (nx1:KP (Slc × Int)) (h_2:Heap):Prop :=
  nx1 (b_,(IntKind.i64.wrap (a_ + 1))) h_2
def rf (a_:Addr) (b_:Option Nat) (d_:Slc) (j_:Addr) (f_:Slc) (g_:Int) (h_:Int) (l_:Bool) (k:KP (Slc × Int)) (nx1:KP (Slc × Int)) (h_3:Heap):Prop :=
  if l_ then (∃ v33,ai h_3 j_ (ae.cs v33)/\(∃ b34 h35,b34=h_3.size/\h35=h_3.push (.cells ((ae.cs v33)).toArray 89)/\(App 89 5 48 [.string ByteArray.empty,.int .i64 0,.int .i64 0,.int .u64 0,.int .u16 0] h35 d_ 1 ((ae.cs v33)) (fun s36 h37=>vw a_ b_ f_ g_ h_ s36 k nx1 h37)))) else (vw a_ b_ f_ g_ h_ d_ k nx1 h_3)
def rA (f_:Addr) (a_:Option Nat) (g_:Slc) (b_:Addr) (h_:Slc) (j_:Int) (l_:Int) (d_:Bool) (k:KP (Slc × Int)) (nx1:KP (Slc × Int)) (h_4:Heap):Prop :=
  ∃ v44,ah h_4 b_=some (.string v44)/\(∃ (r45:Nat) (l46:List (ByteArray × Bool)) (h47:Heap),a_=some r45/\MapAt (K:=ByteArray) (V:=Bool) .string Value.string Value.bool h_4 (some r45) l46/\h47=ry h_4 r45 (Value.string v44) (.bool d_)/\(rf f_ a_ g_ b_ h_ j_ l_ d_ k nx1 h47))
def Ch (d_:Addr) (f_:Option Nat) (b_:Slc) (g_:Int) (h_:Slc) (a_:Int) (k:KP (Slc × Int)) (nx1:KP (Slc × Int)) (h_1:Heap):Prop :=
  if (decide (a_ < g_)) then (∃ a26,b_.a=some a26/\(0:Int)<=a_/\a_ < (b_.len:Int)/\(∃ v27,ai h_1 (a26.add (a_.toNat * 5)) (ae.cs v27)/\(∃ b28 h29,b28=h_1.size/\h29=h_1.push (.cells (ae.cs (⟨ByteArray.empty,0,0,(⟨0,0⟩:aG)⟩:ae)).toArray 89)/\(∃ h30,aN h29 (ad b28) 5/\h30=aM h29 (ad b28) 0 (ae.cs v27)/\(∃ v31,ah h30 (ad b28)=some (.string v31)/\(∃ l32:List (ByteArray × Bool),MapAt (K:=ByteArray) (V:=Bool) .string Value.string Value.bool h30 f_ l32/\(if (!(jP l32 v31).isSome) then (∃ v38,ah h30 (ad b28)=some (.string v38)/\(tY v38 (fun r39 h40=>∃ b41 h42,b41=h40.size/\h42=h40.push (.cells (ay.cs (⟨ByteArray.empty,(⟨none,0,0⟩:Slc)⟩:ay)).toArray 147)/\(∃ h43,aN h42 (ad b41) 2/\h43=aM h42 (ad b41) 0 (ay.cs r39.1)/\(if (r39.2 == 0) then (∃ v48,ai h43 d_ (af.cs v48)/\(∃ v49,ai h43 (ad b41) (ay.cs v49)/\(sU v48 v49 (fun r50 h51=>rA d_ f_ h_ (ad b28) b_ g_ a_ r50 k nx1 h51) h43))) else (rA d_ f_ h_ (ad b28) b_ g_ a_ false k nx1 h43)))) h30)) else (rf d_ f_ h_ (ad b28) b_ g_ a_ ((jP l32 v31).getD false) k nx1 h30)))))))) else (k (h_,0) h_1)
def Dx (d_:Addr) (f_:Option Nat) (g_:Slc) (h_:Int) (i12:Slc) (i42:Int) (k:KP (Slc × Int)) (h:Heap):Prop :=
  ∃ (I:KP (Slc × Int)) (μ:(Slc × Int)->Heap->Nat),I (i12,i42) h/\∀ (a_:Slc) (b_:Int) (h:Heap),I (a_,b_) h->Ch d_ f_ g_ h_ a_ b_ k (fun s h'=>I s h'/\μ s h' < μ (a_,b_) h) h
def Bw (p0:aC) (p1:Slc) (p2:Int) (k:KP (Slc × Int)) (h:Heap):Prop :=
  ∃ b1 h2,b1=h.size/\h2=h.push (.cells (aC.cs p0).toArray 28)/\(∃ v3,ai h2 (ad b1) (aC.cs v3)/\(xE v3 (fun r4 h5=>if (r4 != 0) then (k ((⟨none,0,0⟩:Slc),r4) h5) else (∃ v6,ah h5 (ad b1)=some (.string v6)/\(je v6 (fun r7 h8=>∃ b9 h10,b9=h8.size/\h10=h8.push (.cells (af.cs (⟨ByteArray.empty,(⟨none,0,0⟩:Slc)⟩:af)).toArray 139)/\(∃ h11,aN h10 (ad b9) 2/\h11=aM h10 (ad b9) 0 (af.cs r7.1)/\(∃ b12 h13,b12=h11.size/\h13=h11.push (.map #[] 0)/\(∃ v14,ah h13 ((ad b1).add 1)=some (.int .i64 v14)/\(∃ v15,ah h13 ((ad b1).add 2)=some (.int .i64 v15)/\(∃ b16 h17,b16=h13.size/\h17=h13.push (.cells ([Slc.v p1]).toArray 26)/\(ah h17 ((ad b1).add 2)=some (.int .i64 v15)/\ah h17 ((ad b1).add 1)=some (.int .i64 v14)/\(oU (⟨some ⟨b16,0,none⟩,1,1⟩:Slc) (fun r20 h21=>ah h21 ((ad b1).add 2)=some (.int .i64 v15)/\ah h21 ((ad b1).add 1)=some (.int .i64 v14)/\(tu r20 (if p2 > v14 then p2 else v14) v15 (fun r24 h25=>Dx (ad b9) (some b12) r24 (r24.len:Int) (⟨none,0,0⟩:Slc) 0 k h25) h21)) h17)))))))) h5))) h2))
/-- quaestor query.groups -/
def ze (f_:Slc) (g_:Int) (a_:Slc) (d_:Slc) (b_:Int) (k:KP Slc) (nx1:KP (Slc × Slc)) (nx2:KP (Slc × Slc × Int)) (h_2:Heap):Prop :=
  if (decide (b_ < g_)) then (∃ a1,f_.a=some a1/\(0:Int)<=b_/\b_ < (f_.len:Int)/\(∃ v2,ai h_2 (a1.add (b_.toNat * 5)) (ae.cs v2)/\(∃ b3 h4,b3=h_2.size/\h4=h_2.push (.cells (ae.cs (⟨ByteArray.empty,0,0,(⟨0,0⟩:aG)⟩:ae)).toArray 89)/\(∃ h5,aN h4 (ad b3) 5/\h5=aM h4 (ad b3) 0 (ae.cs v2)/\(∃ v6,ah h5 (ad b3)=some (.string v6)/\(∃ a7,a_.a=some a7/\(0:Int)<=0/\0 < (a_.len:Int)/\(∃ v8,ah h5 (a7.add ((0:Int).toNat * 5))=some (.string v8)/\(if (!(v6.toList == v8.toList)) then (∃ s9,(0:Int)<=0/\(0:Int)<=b_/\(b_:Int)<=(a_.cap:Int)/\(a_.cap:Int)<=(a_.cap:Int)/\s9=rY a_ 5 (0:Int).toNat b_.toNat (a_.cap:Int).toNat/\(∃ b10 h11,b10=h5.size/\h11=h5.push (.cells ([Slc.v s9]).toArray 26)/\(App 26 1 24 [.slice none 0 0] h11 d_ 1 ([Slc.v s9]) (fun s12 h13=>∃ s14,(0:Int)<=b_/\(b_:Int)<=(a_.len:Int)/\((a_.len:Int):Int)<=(a_.cap:Int)/\(a_.cap:Int)<=(a_.cap:Int)/\s14=rY a_ 5 b_.toNat (a_.len:Int).toNat (a_.cap:Int).toNat/\(nx1 (s14,s12) h13))))) else (nx2 (a_,d_,(IntKind.i64.wrap (b_ + 1))) h5))))))))) else (∃ b15 h16,b15=h_2.size/\h16=h_2.push (.cells ([Slc.v a_]).toArray 26)/\(App 26 1 24 [.slice none 0 0] h16 d_ 1 ([Slc.v a_]) (fun s17 h18=>k s17 h18)))
def zZ (f_:Slc) (g_:Int) (i0:Slc) (i3:Slc) (i11:Int) (k:KP Slc) (nx1:KP (Slc × Slc)) (h:Heap):Prop :=
  ∃ (I:KP (Slc × Slc × Int)) (μ:(Slc × Slc × Int)->Heap->Nat),I (i0,i3,i11) h/\∀ (a_:Slc) (b_:Slc) (d_:Int) (h:Heap),I (a_,b_,d_) h->ze f_ g_ a_ b_ d_ k nx1 (fun s h'=>I s h'/\μ s h' < μ (a_,b_,d_) h) h
def yX (a_:Slc) (b_:Slc) (k:KP Slc) (nx1:KP (Slc × Slc)) (h_1:Heap):Prop :=
  if (decide ((a_.len:Int) > 0)) then (zZ a_ (a_.len:Int) a_ b_ 0 k nx1 h_1) else (k b_ h_1)
def Al (i0:Slc) (i3:Slc) (k:KP Slc) (h:Heap):Prop :=
  ∃ (I:KP (Slc × Slc)) (μ:(Slc × Slc)->Heap->Nat),I (i0,i3) h/\∀ (a_:Slc) (b_:Slc) (h:Heap),I (a_,b_) h->yX a_ b_ k (fun s h'=>I s h'/\μ s h' < μ (a_,b_) h) h
def vz (p0:Slc) (k:KP Slc) (h:Heap):Prop :=
  Al p0 (⟨none,0,0⟩:Slc) k h
/-- quaestor query.sum -/
def BQ (d_:Addr) (a_:Addr) (f_:Slc) (g_:Int) (b_:Int) (k:KP au) (nx1:KP Int) (h_1:Heap):Prop :=
  if (decide (b_ < g_)) then (∃ a5,f_.a=some a5/\(0:Int)<=b_/\b_ < (f_.len:Int)/\(∃ v6,ai h_1 (a5.add (b_.toNat * 5)) (ae.cs v6)/\(∃ b7 h8,b7=h_1.size/\h8=h_1.push (.cells (ae.cs (⟨ByteArray.empty,0,0,(⟨0,0⟩:aG)⟩:ae)).toArray 89)/\(∃ h9,aN h8 (ad b7) 5/\h9=aM h8 (ad b7) 0 (ae.cs v6)/\(∃ v10,ai h9 a_ (au.cs v10)/\(∃ v11,ah h9 ((ad b7).add 2)=some (.int .i64 v11)/\(pE v11 (fun r12 h13=>ai h13 a_ (au.cs v10)/\(Dm v10 r12 (fun r15 h16=>∃ h17,aN h16 a_ 2/\h17=aM h16 a_ 0 (au.cs r15.1)/\(nx1 (IntKind.i64.wrap (b_ + 1)) h17)) h13)) h9))))))) else (∃ v18,ai h_1 a_ (au.cs v18)/\(∃ h19,aN h_1 d_ 2/\h19=aM h_1 d_ 0 (au.cs v18)/\(∃ v20,ai h19 d_ (au.cs v20)/\k v20 h19)))
def Cw (b_:Addr) (d_:Addr) (f_:Slc) (g_:Int) (i8:Int) (k:KP au) (h:Heap):Prop :=
  ∃ (I:KP Int) (μ:Int->Heap->Nat),I i8 h/\∀ (a_:Int) (h:Heap),I a_ h->BQ b_ d_ f_ g_ a_ k (fun s h'=>I s h'/\μ s h' < μ a_ h) h
def Bz (p0:Slc) (k:KP au) (h:Heap):Prop :=
  ∃ b1 h2,b1=h.size/\h2=h.push (.cells (au.cs (⟨0,0⟩:au)).toArray 116)/\(∃ b3 h4,b3=h2.size/\h4=h2.push (.cells (au.cs (⟨0,0⟩:au)).toArray 116)/\(Cw (ad b1) (ad b3) p0 (p0.len:Int) 0 k h4))
/-- quaestor query.minus -/
def uy (p0:Int) (p1:Int) (k:KP (Int × Bool)) (h:Heap):Prop :=
  ∃ x1,x1=(IntKind.i64.wrap (p0 - p1))/\(k (x1,(((decide (x1 < p0)) == (decide (p1 > 0))))) h)
/-- quaestor query.rate -/
def p9 (a_:Addr) (b_:Addr) (k:KP (Int × Int)) (h_1:Heap):Prop :=
  ∃ v1,ah h_1 (b_.add 2)=some (.int .i64 v1)/\(∃ v2,ah h_1 (a_.add 2)=some (.int .i64 v2)/\(uy v1 v2 (fun r3 h4=>∃ v5,ah h4 (b_.add 1)=some (.int .i64 v5)/\(∃ v6,ah h4 (a_.add 1)=some (.int .i64 v6)/\(uy v5 v6 (fun r7 h8=>if ((!r3.2) || (!r7.2)) then (k (0,19) h8) else (yY r3.1 r7.1 (fun r9 h10=>k (r9.1,r9.2) h10) h8)) h4))) h_1))
def zV (p0:Slc) (k:KP (Int × Int)) (h:Heap):Prop :=
  ∃ a11,p0.a=some a11/\(0:Int)<=0/\0 < (p0.len:Int)/\(∃ v12,ai h (a11.add ((0:Int).toNat * 5)) (ae.cs v12)/\(∃ a13,p0.a=some a13/\(0:Int)<=(IntKind.i64.wrap ((p0.len:Int) - 1))/\(IntKind.i64.wrap ((p0.len:Int) - 1)) < (p0.len:Int)/\(∃ v14,ai h (a13.add ((IntKind.i64.wrap ((p0.len:Int) - 1)).toNat * 5)) (ae.cs v14)/\((∃ b15 h16,b15=h.size/\h16=h.push (.cells (ae.cs (⟨ByteArray.empty,0,0,(⟨0,0⟩:aG)⟩:ae)).toArray 89)/\(ai h16 (a13.add ((IntKind.i64.wrap ((p0.len:Int) - 1)).toNat * 5)) (ae.cs v14)/\ai h16 (a11.add ((0:Int).toNat * 5)) (ae.cs v12)/\(∃ b19 h20,b19=h16.size/\h20=h16.push (.cells (ae.cs (⟨ByteArray.empty,0,0,(⟨0,0⟩:aG)⟩:ae)).toArray 89)/\(ai h20 (a13.add ((IntKind.i64.wrap ((p0.len:Int) - 1)).toNat * 5)) (ae.cs v14)/\ai h20 (a11.add ((0:Int).toNat * 5)) (ae.cs v12)/\(∃ h23,aN h20 (ad b15) 5/\h23=aM h20 (ad b15) 0 (ae.cs v12)/\(ai h23 (a13.add ((IntKind.i64.wrap ((p0.len:Int) - 1)).toNat * 5)) (ae.cs v14)/\(∃ h25,aN h23 (ad b19) 5/\h25=aM h23 (ad b19) 0 (ae.cs v14)/\(p9 (ad b15) (ad b19) k h25))))))))/\(∃ b26 h27,b26=h.size/\h27=h.push (.cells (ae.cs (⟨ByteArray.empty,0,0,(⟨0,0⟩:aG)⟩:ae)).toArray 89)/\(ai h27 (a13.add ((IntKind.i64.wrap ((p0.len:Int) - 1)).toNat * 5)) (ae.cs v14)/\ai h27 (a11.add ((0:Int).toNat * 5)) (ae.cs v12)/\(∃ b30 h31,b30=h27.size/\h31=h27.push (.cells (ae.cs (⟨ByteArray.empty,0,0,(⟨0,0⟩:aG)⟩:ae)).toArray 89)/\(ai h31 (a13.add ((IntKind.i64.wrap ((p0.len:Int) - 1)).toNat * 5)) (ae.cs v14)/\ai h31 (a11.add ((0:Int).toNat * 5)) (ae.cs v12)/\(∃ h34,aN h31 (ad b30) 5/\h34=aM h31 (ad b30) 0 (ae.cs v12)/\(ai h34 (a13.add ((IntKind.i64.wrap ((p0.len:Int) - 1)).toNat * 5)) (ae.cs v14)/\(∃ h36,aN h34 (ad b26) 5/\h36=aM h34 (ad b26) 0 (ae.cs v14)/\(p9 (ad b30) (ad b26) k h36))))))))))))
/-- quaestor query.each -/
def qj (d_:Int) (f_:Slc) (g_:Int) (a_:Int) (b_:Slc) (k:KP Slc) (nx1:KP (Slc × Int)) (h_2:Heap):Prop :=
  nx1 (b_,(IntKind.i64.wrap (a_ + 1))) h_2
def ow (d_:Int) (a_:Slc) (b_:Addr) (f_:Int) (g_:Slc) (h_:Int) (j_:Int) (l_:Bool) (k:KP Slc) (nx1:KP (Slc × Int)) (h_3:Heap):Prop :=
  if l_ then (∃ a10,a_.a=some a10/\(0:Int)<=(IntKind.i64.wrap ((a_.len:Int) - 1))/\(IntKind.i64.wrap ((a_.len:Int) - 1)) < (a_.len:Int)/\(∃ v11,ai h_3 ((a10.add ((IntKind.i64.wrap ((a_.len:Int) - 1)).toNat * 4)).add 2) (au.cs v11)/\(∃ v12,ah h_3 (b_.add 2)=some (.int .i64 v12)/\(pE v12 (fun r13 h14=>ai h14 ((a10.add ((IntKind.i64.wrap ((a_.len:Int) - 1)).toNat * 4)).add 2) (au.cs v11)/\(Dm v11 r13 (fun r16 h17=>∃ a18,a_.a=some a18/\(0:Int)<=(IntKind.i64.wrap ((a_.len:Int) - 1))/\(IntKind.i64.wrap ((a_.len:Int) - 1)) < (a_.len:Int)/\(∃ h19,aN h17 ((a18.add ((IntKind.i64.wrap ((a_.len:Int) - 1)).toNat * 4)).add 2) 2/\h19=aM h17 ((a18.add ((IntKind.i64.wrap ((a_.len:Int) - 1)).toNat * 4)).add 2) 0 (au.cs r16.1)/\(qj d_ g_ h_ j_ a_ k nx1 h19))) h14)) h_3)))) else (∃ v20,ah h_3 b_=some (.string v20)/\(∃ v21,ah h_3 (b_.add 2)=some (.int .i64 v21)/\(pE v21 (fun r22 h23=>ah h23 b_=some (.string v20)/\(∃ b25 h26,b25=h23.size/\h26=h23.push (.cells ((aH.cs (⟨v20,f_,r22⟩:aH))).toArray 118)/\(App 118 4 40 [.string ByteArray.empty,.int .i64 0,.int .i64 0,.int .u64 0] h26 a_ 1 ((aH.cs (⟨v20,f_,r22⟩:aH))) (fun s27 h28=>qj d_ g_ h_ j_ s27 k nx1 h28)))) h_3)))
def AY (d_:Int) (f_:Slc) (g_:Int) (a_:Slc) (b_:Int) (k:KP Slc) (nx1:KP (Slc × Int)) (h_1:Heap):Prop :=
  if (decide (b_ < g_)) then (∃ a1,f_.a=some a1/\(0:Int)<=b_/\b_ < (f_.len:Int)/\(∃ v2,ai h_1 (a1.add (b_.toNat * 5)) (ae.cs v2)/\(∃ b3 h4,b3=h_1.size/\h4=h_1.push (.cells (ae.cs (⟨ByteArray.empty,0,0,(⟨0,0⟩:aG)⟩:ae)).toArray 89)/\(∃ h5,aN h4 (ad b3) 5/\h5=aM h4 (ad b3) 0 (ae.cs v2)/\(∃ v6,ah h5 ((ad b3).add 1)=some (.int .i64 v6)/\(yY v6 d_ (fun r7 h8=>∃ x9,x9=(IntKind.i64.wrap (r7.1 * d_))/\(if (decide ((a_.len:Int) > 0)) then (∃ a29,a_.a=some a29/\(0:Int)<=(IntKind.i64.wrap ((a_.len:Int) - 1))/\(IntKind.i64.wrap ((a_.len:Int) - 1)) < (a_.len:Int)/\(∃ v30,ah h8 ((a29.add ((IntKind.i64.wrap ((a_.len:Int) - 1)).toNat * 4)).add 1)=some (.int .i64 v30)/\(ow d_ a_ (ad b3) x9 f_ g_ b_ (v30 == x9) k nx1 h8))) else (ow d_ a_ (ad b3) x9 f_ g_ b_ false k nx1 h8))) h5)))))) else (k a_ h_1)
def Cj (d_:Int) (f_:Slc) (g_:Int) (i5:Slc) (i13:Int) (k:KP Slc) (h:Heap):Prop :=
  ∃ (I:KP (Slc × Int)) (μ:(Slc × Int)->Heap->Nat),I (i5,i13) h/\∀ (a_:Slc) (b_:Int) (h:Heap),I (a_,b_) h->AY d_ f_ g_ a_ b_ k (fun s h'=>I s h'/\μ s h' < μ (a_,b_) h) h
def zk (p0:Slc) (p1:Int) (k:KP Slc) (h:Heap):Prop :=
  Cj p1 p0 (p0.len:Int) (⟨none,0,0⟩:Slc) 0 k h
/-- slices.MinFunc   quaestor api.Piece quaestor api.Piece  -/
def cz (b_:Slc) (d_:Addr) (f_:Addr) (a_:Int) (k:KP ae) (nx2:KP Int) (h_3:Heap):Prop :=
  ∃ x8,x8=(IntKind.i64.wrap (a_ + 1))/\(nx2 x8 h_3)
def eQ (b_:Slc) (f_:Addr) (d_:Addr) (a_:Int) (k:KP ae) (nx2:KP Int) (h_2:Heap):Prop :=
  if (decide (a_ < (b_.len:Int))) then (∃ a9,b_.a=some a9/\(0:Int)<=a_/\a_ < (b_.len:Int)/\(∃ v10,ai h_2 (a9.add (a_.toNat * 5)) (ae.cs v10)/\(∃ v11,ai h_2 d_ (ae.cs v11)/\(vW v10 v11 (fun r12 h13=>if (decide (r12 < 0)) then (∃ a14,b_.a=some a14/\(0:Int)<=a_/\a_ < (b_.len:Int)/\(∃ v15,ai h13 (a14.add (a_.toNat * 5)) (ae.cs v15)/\(∃ h16,aN h13 d_ 5/\h16=aM h13 d_ 0 (ae.cs v15)/\(cz b_ f_ d_ a_ k nx2 h16)))) else (cz b_ f_ d_ a_ k nx2 h13)) h_2)))) else (∃ v17,ai h_2 d_ (ae.cs v17)/\(∃ h18,aN h_2 f_ 5/\h18=aM h_2 f_ 0 (ae.cs v17)/\(∃ v19,ai h18 f_ (ae.cs v19)/\k v19 h18)))
def eY (b_:Slc) (d_:Addr) (f_:Addr) (i6:Int) (k:KP ae) (h:Heap):Prop :=
  ∃ (I:KP Int) (μ:Int->Heap->Nat),I i6 h/\∀ (a_:Int) (h:Heap),I a_ h->eQ b_ d_ f_ a_ k (fun s h'=>I s h'/\μ s h' < μ a_ h) h
def cB (a_:Slc) (b_:Addr) (k:KP ae) (h_1:Heap):Prop :=
  ∃ a3,a_.a=some a3/\(0:Int)<=0/\0 < (a_.len:Int)/\(∃ v4,ai h_1 (a3.add ((0:Int).toNat * 5)) (ae.cs v4)/\(∃ b5 h6,b5=h_1.size/\h6=h_1.push (.cells (ae.cs (⟨ByteArray.empty,0,0,(⟨0,0⟩:aG)⟩:ae)).toArray 89)/\(∃ h7,aN h6 (ad b5) 5/\h7=aM h6 (ad b5) 0 (ae.cs v4)/\(eY a_ b_ (ad b5) 1 k h7))))
def bD (p0:Slc) (k:KP ae) (h:Heap):Prop :=
  ∃ b1 h2,b1=h.size/\h2=h.push (.cells (ae.cs (⟨ByteArray.empty,0,0,(⟨0,0⟩:aG)⟩:ae)).toArray 89)/\(if (decide ((p0.len:Int) < 1)) then (False) else (cB p0 (ad b1) k h2))
/-- slices.MaxFunc   quaestor api.Piece quaestor api.Piece  -/
def cK (b_:Slc) (d_:Addr) (f_:Addr) (a_:Int) (k:KP ae) (nx2:KP Int) (h_3:Heap):Prop :=
  ∃ x8,x8=(IntKind.i64.wrap (a_ + 1))/\(nx2 x8 h_3)
def eO (b_:Slc) (f_:Addr) (d_:Addr) (a_:Int) (k:KP ae) (nx2:KP Int) (h_2:Heap):Prop :=
  if (decide (a_ < (b_.len:Int))) then (∃ a9,b_.a=some a9/\(0:Int)<=a_/\a_ < (b_.len:Int)/\(∃ v10,ai h_2 (a9.add (a_.toNat * 5)) (ae.cs v10)/\(∃ v11,ai h_2 d_ (ae.cs v11)/\(vW v10 v11 (fun r12 h13=>if (decide (r12 > 0)) then (∃ a14,b_.a=some a14/\(0:Int)<=a_/\a_ < (b_.len:Int)/\(∃ v15,ai h13 (a14.add (a_.toNat * 5)) (ae.cs v15)/\(∃ h16,aN h13 d_ 5/\h16=aM h13 d_ 0 (ae.cs v15)/\(cK b_ f_ d_ a_ k nx2 h16)))) else (cK b_ f_ d_ a_ k nx2 h13)) h_2)))) else (∃ v17,ai h_2 d_ (ae.cs v17)/\(∃ h18,aN h_2 f_ 5/\h18=aM h_2 f_ 0 (ae.cs v17)/\(∃ v19,ai h18 f_ (ae.cs v19)/\k v19 h18)))
def eX (b_:Slc) (d_:Addr) (f_:Addr) (i6:Int) (k:KP ae) (h:Heap):Prop :=
  ∃ (I:KP Int) (μ:Int->Heap->Nat),I i6 h/\∀ (a_:Int) (h:Heap),I a_ h->eO b_ d_ f_ a_ k (fun s h'=>I s h'/\μ s h' < μ a_ h) h
def cO (a_:Slc) (b_:Addr) (k:KP ae) (h_1:Heap):Prop :=
  ∃ a3,a_.a=some a3/\(0:Int)<=0/\0 < (a_.len:Int)/\(∃ v4,ai h_1 (a3.add ((0:Int).toNat * 5)) (ae.cs v4)/\(∃ b5 h6,b5=h_1.size/\h6=h_1.push (.cells (ae.cs (⟨ByteArray.empty,0,0,(⟨0,0⟩:aG)⟩:ae)).toArray 89)/\(∃ h7,aN h6 (ad b5) 5/\h7=aM h6 (ad b5) 0 (ae.cs v4)/\(eX a_ b_ (ad b5) 1 k h7))))
def bE (p0:Slc) (k:KP ae) (h:Heap):Prop :=
  ∃ b1 h2,b1=h.size/\h2=h.push (.cells (ae.cs (⟨ByteArray.empty,0,0,(⟨0,0⟩:aG)⟩:ae)).toArray 89)/\(if (decide ((p0.len:Int) < 1)) then (False) else (cO p0 (ad b1) k h2))
/-- quaestor query.rows -/
def iQ (a_:Addr) (k:KP (Slc × Int)) (h_1:Heap):Prop :=
  ∃ v8,ai h_1 a_ (aH.cs v8)/\(∃ b9 h10,b9=h_1.size/\h10=h_1.push (.cells ((aH.cs v8)).toArray 118)/\(k ((⟨some ⟨b9,0,none⟩,1,1⟩:Slc),0) h10))
def AO (b_:Slc) (f_:Int) (d_:Slc) (a_:Int) (k:KP (Slc × Int)) (nx2:KP (Slc × Int)) (h_2:Heap):Prop :=
  if (decide (a_ < f_)) then (∃ a12,b_.a=some a12/\(0:Int)<=a_/\a_ < (b_.len:Int)/\(∃ v13,ai h_2 (a12.add (a_.toNat * 5)) (ae.cs v13)/\(∃ b14 h15,b14=h_2.size/\h15=h_2.push (.cells (ae.cs (⟨ByteArray.empty,0,0,(⟨0,0⟩:aG)⟩:ae)).toArray 89)/\(∃ h16,aN h15 (ad b14) 5/\h16=aM h15 (ad b14) 0 (ae.cs v13)/\(∃ v17,ah h16 (ad b14)=some (.string v17)/\(∃ v18,ah h16 ((ad b14).add 1)=some (.int .i64 v18)/\(∃ v19,ah h16 ((ad b14).add 2)=some (.int .i64 v19)/\(pE v19 (fun r20 h21=>ah h21 ((ad b14).add 1)=some (.int .i64 v18)/\ah h21 (ad b14)=some (.string v17)/\(∃ b24 h25,b24=h21.size/\h25=h21.push (.cells ((aH.cs (⟨v17,v18,r20⟩:aH))).toArray 118)/\(App 118 4 40 [.string ByteArray.empty,.int .i64 0,.int .i64 0,.int .u64 0] h25 d_ 1 ((aH.cs (⟨v17,v18,r20⟩:aH))) (fun s26 h27=>nx2 (s26,(IntKind.i64.wrap (a_ + 1))) h27)))) h16)))))))) else (k (d_,0) h_2)
def Ci (d_:Slc) (f_:Int) (i7:Slc) (i27:Int) (k:KP (Slc × Int)) (h:Heap):Prop :=
  ∃ (I:KP (Slc × Int)) (μ:(Slc × Int)->Heap->Nat),I (i7,i27) h/\∀ (a_:Slc) (b_:Int) (h:Heap),I (a_,b_) h->AO d_ f_ a_ b_ k (fun s h'=>I s h'/\μ s h' < μ (a_,b_) h) h
def zG (p0:aC) (p1:Slc) (k:KP (Slc × Int)) (h:Heap):Prop :=
  ∃ b1 h2,b1=h.size/\h2=h.push (.cells (aC.cs p0).toArray 28)/\(∃ a3,p1.a=some a3/\(0:Int)<=0/\0 < (p1.len:Int)/\(∃ v4,ah h2 (a3.add ((0:Int).toNat * 5))=some (.string v4)/\(∃ b5 h6,b5=h2.size/\h6=h2.push (.cells (aH.cs (⟨ByteArray.empty,0,(⟨0,0⟩:au)⟩:aH)).toArray 118)/\(∃ h7,aN h6 (ad b5) 4/\h7=aM h6 (ad b5) 0 (aH.cs (⟨v4,0,(⟨0,0⟩:au)⟩:aH))/\(∃ v11,ah h7 ((ad b1).add 3)=some (.int .i64 v11)/\(if (v11 == 0) then (Ci p1 (p1.len:Int) (⟨none,0,0⟩:Slc) 0 k h7) else (if (v11 == 1) then (pE (p1.len:Int) (fun r28 h29=>∃ h30,aN h29 ((ad b5).add 2) 2/\h30=aM h29 ((ad b5).add 2) 0 (au.cs r28)/\(iQ (ad b5) k h30)) h7) else (if (v11 == 2) then (Bz p1 (fun r31 h32=>∃ h33,aN h32 ((ad b5).add 2) 2/\h33=aM h32 ((ad b5).add 2) 0 (au.cs r31)/\(iQ (ad b5) k h33)) h7) else (if (v11 == 3) then (bD p1 (fun r34 h35=>pE r34.f_V (fun r36 h37=>∃ h38,aN h37 ((ad b5).add 2) 2/\h38=aM h37 ((ad b5).add 2) 0 (au.cs r36)/\(iQ (ad b5) k h38)) h35) h7) else (if (v11 == 4) then (bE p1 (fun r39 h40=>pE r39.f_V (fun r41 h42=>∃ h43,aN h42 ((ad b5).add 2) 2/\h43=aM h42 ((ad b5).add 2) 0 (au.cs r41)/\(iQ (ad b5) k h43)) h40) h7) else (if (v11 == 5) then (if (decide ((p1.len:Int) < 2)) then (k ((⟨none,0,0⟩:Slc),0) h7) else (zV p1 (fun r44 h45=>if (r44.2 != 0) then (k ((⟨none,0,0⟩:Slc),r44.2) h45) else (pE r44.1 (fun r46 h47=>∃ h48,aN h47 ((ad b5).add 2) 2/\h48=aM h47 ((ad b5).add 2) 0 (au.cs r46)/\(iQ (ad b5) k h48)) h45)) h7)) else (∃ v49,ah h7 ((ad b1).add 4)=some (.int .i64 v49)/\(zk p1 v49 (fun r50 h51=>k (r50,0) h51) h7)))))))))))))
/-- quaestor query.Run -/
def Cc (f_:Addr) (b_:Slc) (g_:Int) (d_:Slc) (a_:Int) (k:KP (Slc × Int)) (nx1:KP (Slc × Int)) (h_1:Heap):Prop :=
  if (decide (a_ < g_)) then (∃ a8,b_.a=some a8/\(0:Int)<=a_/\a_ < (b_.len:Int)/\(∃ v9,ah h_1 (a8.add (a_.toNat * 1))=some (Slc.v v9)/\(∃ v10,ai h_1 f_ (aC.cs v10)/\(zG v10 v9 (fun r11 h12=>if (r11.2 != 0) then (k ((⟨none,0,0⟩:Slc),r11.2) h12) else (∃ l15,SlcAt h12 r11.1 l15/\App 118 4 40 [.string ByteArray.empty,.int .i64 0,.int .i64 0,.int .u64 0] h12 d_ r11.1.len l15 (fun s13 h14=>nx1 (s13,(IntKind.i64.wrap (a_ + 1))) h14))) h_1)))) else (k (d_,0) h_1)
def CL (d_:Addr) (f_:Slc) (g_:Int) (i10:Slc) (i28:Int) (k:KP (Slc × Int)) (h:Heap):Prop :=
  ∃ (I:KP (Slc × Int)) (μ:(Slc × Int)->Heap->Nat),I (i10,i28) h/\∀ (a_:Slc) (b_:Int) (h:Heap),I (a_,b_) h->Cc d_ f_ g_ a_ b_ k (fun s h'=>I s h'/\μ s h' < μ (a_,b_) h) h
def BD (p0:aC) (p1:Slc) (p2:Int) (k:KP (Slc × Int)) (h:Heap):Prop :=
  ∃ b1 h2,b1=h.size/\h2=h.push (.cells (aC.cs p0).toArray 28)/\(∃ v3,ai h2 (ad b1) (aC.cs v3)/\(Bw v3 p1 p2 (fun r4 h5=>if (r4.2 != 0) then (k ((⟨none,0,0⟩:Slc),r4.2) h5) else (vz r4.1 (fun r6 h7=>CL (ad b1) r6 (r6.len:Int) (⟨none,0,0⟩:Slc) 0 k h7) h5)) h2))
theorem O47:aF prog 47:=ck func47
theorem R47 (p0 k h) (H:aU p0 k h):CallsH prog 47 #[.map p0] h (fun v h'=>∃ r:Value,v=r/\k r h'):=by
 refine fE func47 fun w0=>?_
 refine zF [0] (zQ ?_)
 refine wX H fun b1 h2 H=>?_
 refine w1 Z (zE (zQ ?_))
 refine wY (JK rfl rfl) ?_
 refine w1 Z (zE (zT ?_))
 exact aB _ rfl _ rfl ⟨(Value.func (.func 71) #[] #[pt b1]),rfl,H⟩
theorem O75:aF prog 75:=ck func75
theorem R75 (p0 p1 p2 k h) (H:tu p0 p1 p2 k h):CallsH prog 75 #[Slc.v p0,.int .i64 p1,.int .i64 p2] h (rS k):=by
 refine fE func75 fun w0=>?_
 refine zF [0,1,2] (zQ ?_)
 refine w1 Z (zE (zQ ?_))
 refine w1 Z (zE (zS (zQ ?_)))
 refine w3 Z (zE (zB ?_))
 obtain ⟨I1,μ1,H0,HI⟩:=H
 refine zO (σ:=Slc × Int) [1,2,10,11] (fun (s:Slc × Int)=>[(7,Slc.v s.1),(12,.int .i64 s.2)]) I1 μ1 ((⟨none,0,0⟩:Slc),0) H0 ?_
 rintro ⟨a_,b_⟩ h_1 H
 replace H:=HI a_ b_ h_1 H
 refine zF [7,12,1,2,10,11] (zQ ?_)
 refine w1 Z (zE (zS ?_))
 refine zI H ?_ ?_ <;> intro H
 refine zK (zX ?_)
 refine zJ (α:=Slc) [1,2,10,11,12] (fun (s:Slc)=>[(7,Slc.v s)]) (fun (s:Slc) h=>mQ p1 p2 p0 (p0.len:Int) b_ s k (fun s h'=>I1 s h'/\μ1 s h' < μ1 (a_,b_) h_1) h) ?_ ?_
 rintro d_ h_2 H
 refine zF [7,1,2,10,11,12] (zR ?_)
 refine w2 Z (zW ?_)
 exact xJ (d_,(IntKind.i64.wrap (b_ + 1))) H
 refine zB (zQ ?_)
 refine wD Z H fun a1 _ H=>?_
 refine wLa Z H fun v2 H=>?_
 refine wB Z H fun b3 h4 H=>?_
 refine wTa Z H fun h5 H=>?_
 refine zE (zQ (w1 Z ?_))
 refine wL Z H fun v6 H=>?_
 refine w3 Z ?_
 refine vJ 5 (α:=Bool) [1,2,7,9,10,11,12] (fun (s:Bool)=>[(25,.bool s)]) (fun (s:Bool) h=>mV p1 p2 a_ (ad b3) p0 (p0.len:Int) b_ s k (fun s h'=>I1 s h'/\μ1 s h' < μ1 (a_,b_) h_1) h) ?_ ?_
 rintro f_ h_3 H
 refine vF [25,1,2,7,9,10,11,12] (zE ?_)
 refine zI H ?_ ?_ <;> intro H
 refine zR (w1 Z ?_)
 refine wLa Z H fun v7 H=>?_
 obtain ⟨b8,h9,eb8,eh9,H⟩:=H
 refine wH (nJ Z rfl rfl rfl rfl rfl rfl rfl eb8 eh9) ?_
 refine wA (ji (s:=a_) (r:=(⟨some ⟨b8,0,none⟩,1,1⟩:Slc)) Z rfl rfl rfl rfl rfl (bT eb8 eh9) H) ?_
 rintro _ h11 ⟨s10,rfl,H⟩
 refine w1 Z (zL ?_)
 exact xJ s10 H
 refine zK (yL ?_)
 exact xJ a_ H
 refine vI 20 H ?_ ?_ <;> intro H
 refine w1 Z ?_
 refine wL Z H fun v12 H=>?_
 refine w3 Z ?_
 exact wJ (decide (v12<=p2)) H
 refine wS (wS (wS (wS (w1 Z ?_))))
 exact wJ false H
 refine zY (yE (yE (yH (zX (zQ (w2 Z (zE (zF [6] (zT ?_)))))))))
 exact aB _ rfl _ rfl ⟨a_,rfl,H⟩
theorem O78:aF prog 78:=ck func78
theorem R78 (p0 k h) (H:pE p0 k h):CallsH prog 78 #[.int .i64 p0] h (fun v h'=>∃ r:au,v = .agg (au.cs r).toArray/\k r h'):=by
 refine fE func78 fun w0=>?_
 refine zF [0] (zQ ?_)
 refine wB Z H fun b1 h2 H=>?_
 refine zE (zQ (w4 Z ?_))
 refine wY (bU Z rfl rfl rfl rfl rfl) ?_
 refine wTa Z H fun h3 H=>?_
 refine zE (zT ?_)
 obtain ⟨v4,hv4,H⟩:=H
 exact fu Z _ rfl [.agg (au.cs v4).toArray] ⟨⟨_,_,rfl,rfl,.inr ⟨rfl,_,rfl,rfl,hv4⟩⟩,trivial⟩ ⟨v4,rfl,H⟩
theorem QN:aF prog 106:=ck func106
theorem QI (p0 p1 k h) (H:Dm p0 p1 k h):CallsH prog 106 #[.agg (au.cs p0).toArray,.agg (au.cs p1).toArray] h (fun v h'=>∃ r:au × Int,v = .tuple #[.agg (au.cs r.1).toArray,.int .i64 r.2]/\k r h'):=by
 refine fE func106 fun w0=>?_
 refine zF [0,1] (zQ ?_)
 refine wX H fun b1 h2 H=>?_
 refine wX H fun b3 h4 H=>?_
 refine wB Z H fun b5 h6 H=>?_
 refine w1 Z (zE (zQ ?_))
 refine w1 Z ?_
 refine wL Z H fun v7 H=>?_
 refine w1 Z ?_
 refine wL Z H fun v8 H=>?_
 obtain ⟨hc9,H⟩:=H
 refine wY (Ma (Jo v7 v8 0 func134 (by kernel_rfl) (by kernel_rfl) (by kernel_rfl) (by kernel_rfl) hc9) rfl rfl) ?_
 refine w3 Z ?_
 refine wQ Z H fun x10 H=>?_
 refine wQ Z H fun x11 H=>?_
 refine zE (zF [2,3,4,6,7] (zQ ?_))
 refine w1 Z ?_
 refine wL Z H fun v12 H=>?_
 refine w2 Z ?_
 refine wL Z H fun v13 H=>?_
 refine w2 Z ?_
 obtain ⟨hc14,H⟩:=H
 refine wY (Ma (Jo (IntKind.u64.wrap v12) (IntKind.u64.wrap v13) x11 func134 (by kernel_rfl) (by kernel_rfl) (by kernel_rfl) (by kernel_rfl) hc14) rfl rfl) ?_
 refine w3 Z ?_
 refine wQ Z H fun x15 H=>?_
 refine wQ Z H fun x16 H=>?_
 refine zE (zF [2,3,4,6,8] (zQ ?_))
 refine w3 Z ?_
 refine wY (bU Z rfl rfl rfl rfl rfl) ?_
 refine wB Z H fun b17 h18 H=>?_
 refine wTa Z H fun h19 H=>?_
 refine zE (zS (zQ (w1 Z ?_)))
 refine wL Z H fun v20 H=>?_
 refine w2 Z ?_
 refine wL Z H fun v21 H=>?_
 refine w3 Z ?_
 refine vJ 8 (α:=Bool) [4,10] (fun (s:Bool)=>[(49,.bool s)]) (fun (s:Bool) h=>wP (ad b5) (ad b17) s k h) ?_ ?_
 rintro a_ h_1 H
 refine vF [49,4,10] (zE ?_)
 refine zI H ?_ ?_ <;> intro H
 refine zQ ?_
 refine wY (bU Z rfl rfl rfl rfl rfl) ?_
 refine wTa Z H fun h22 H=>?_
 refine w1 Z (zE (zT (yT ?_)))
 obtain ⟨v23,hv23,H⟩:=H
 exact fu Z _ rfl [.agg (au.cs v23).toArray,.int .i64 19] ⟨⟨_,_,rfl,rfl,.inr ⟨rfl,_,rfl,rfl,hv23⟩⟩,rfl,trivial⟩ ⟨(v23,19),rfl,H⟩
 refine zK (zX (zQ ?_))
 refine wLa Z H fun v24 H=>?_
 refine wTa Z H fun h25 H=>?_
 refine w1 Z (zE (zT ?_))
 obtain ⟨v26,hv26,H⟩:=H
 exact fu Z _ rfl [.agg (au.cs v26).toArray,.int .i64 0] ⟨⟨_,_,rfl,rfl,.inr ⟨rfl,_,rfl,rfl,hv26⟩⟩,rfl,trivial⟩ ⟨(v26,0),rfl,H⟩
 refine vI 41 H ?_ ?_ <;> intro H
 refine w1 Z ?_
 refine wL Z H fun v27 H=>?_
 refine w2 Z ?_
 refine wL Z H fun v28 H=>?_
 refine w3 Z ?_
 exact wJ ((shr .i64 v27 (63:Int).toNat) != (shr .i64 v28 (63:Int).toNat)) H
 refine wS (wS (wS (wS (wS (wS (wS (w1 Z ?_)))))))
 exact wJ false H
theorem Qh:aF prog 108:=ck func108
theorem QJ (p0 p1 k h) (H:yY p0 p1 k h):CallsH prog 108 #[.int .i64 p0,.int .i64 p1] h (fun v h'=>∃ r:Int × Int,v = .tuple #[.int .i64 r.1,.int .i64 r.2]/\k r h'):=by
 refine fE func108 fun w0=>?_
 refine zF [0,1] (zQ ?_)
 refine w2 Z (zE (zS (zB (zQ ?_))))
 refine w3 Z (zE ?_)
 refine zI H ?_ ?_ <;> intro H
 refine zQ (w2 Z (zE (zT (yB (yT ?_)))))
 exact aB _ rfl _ rfl ⟨(0,1),rfl,H⟩
 refine zQ (w3 Z ?_)
 refine vU 3 [0,1] [(16,.bool ((p0 == (-9223372036854775808)) && (p1 == (-1))))] ?_ ?_
 refine w1 Z (zE ?_)
 refine zI H ?_ ?_ <;> intro H
 refine zQ (w2 Z (zE (zT (yB (yT ?_)))))
 exact aB _ rfl _ rfl ⟨(0,19),rfl,H⟩
 refine zK (yL (zX (zQ (w2 Z ?_))))
 obtain ⟨z1,H⟩:=H
 refine wY (Og rfl rfl rfl z1) ?_
 refine wQ Z H fun x2 H=>?_
 refine zE ?_
 refine zJ (α:=Int) [] (fun (s:Int)=>[(6,.int .i64 s)]) (fun (s:Int) h=>vD s k h) ?_ ?_
 rintro a_ h_1 H
 refine zF [6] (zQ ?_)
 refine w3 Z (zE (zT ?_))
 exact aB _ rfl _ rfl ⟨(a_,0),rfl,H⟩
 refine zQ (w2 Z ?_)
 obtain ⟨z3,H⟩:=H
 refine wY (Oj rfl rfl rfl z3) ?_
 refine w2 Z ?_
 refine vU 6 [6] [(30,.bool (((Int.tmod p0 p1) != 0) && ((shr .i64 p0 (63:Int).toNat) != (shr .i64 p1 (63:Int).toNat))))] ?_ ?_
 refine zE ?_
 refine zI H ?_ ?_ <;> intro H
 refine zR (w2 Z ?_)
 refine wQ Z H fun x4 H=>?_
 refine zW ?_
 exact xJ x4 H
 refine zK ?_
 exact xJ x2 H
 refine vG (d:=24) (fun hb=>?_) (fun hb=>?_)
 refine w6 Z ?_
 refine vK ?_
 exact congrArg (fun b=>some (Value.bool b)) (jD hb)
 refine wS (wS (wS (wS (wS (w1 Z ?_)))))
 refine vK ?_
 exact congrArg (fun b=>some (Value.bool b)) (jH hb)
 refine vG (d:=13) (fun hb=>?_) (fun hb=>?_)
 refine w3 Z ?_
 refine vK ?_
 exact congrArg (fun b=>some (Value.bool b)) (jD hb)
 refine wS (wS (w1 Z ?_))
 refine vK ?_
 exact congrArg (fun b=>some (Value.bool b)) (jH hb)
theorem O73:aF prog 73:=ck func73
theorem R73 (p0 k h) (H:xE p0 k h):CallsH prog 73 #[.agg (aC.cs p0).toArray] h (rI .i64 k):=by
 refine fE func73 fun w0=>?_
 refine zF [0] (zQ ?_)
 refine wX H fun b1 h2 H=>?_
 refine w1 Z (zE (zS (zQ ?_)))
 refine w1 Z ?_
 refine wL Z H fun v3 H=>?_
 refine wC O74 (R74 _ _ _ H) fun r4 h5 H=>?_
 refine w3 Z ?_
 refine wB Z H fun b6 h7 H=>?_
 refine wTa Z H fun h8 H=>?_
 refine w1 Z (zE (zF [1,4] (zQ ?_)))
 refine w2 Z (zE ?_)
 refine zI H ?_ ?_ <;> intro H
 refine zQ (w2 Z (zE (zT (yT ?_))))
 exact aB _ rfl _ rfl ⟨r4.2,rfl,H⟩
 refine zK (zX (zS (zQ (w1 Z ?_))))
 refine wL Z H fun v9 H=>?_
 refine w2 Z ?_
 refine vJ 4 (α:=Bool) [1] (fun (s:Bool)=>[(21,.bool s)]) (fun (s:Bool) h=>rD (ad b1) s k h) ?_ ?_
 rintro b_ h_1 H
 refine vF [21,1] ?_
 refine w1 Z ?_
 refine vJ 9 (α:=Bool) [] (fun (s:Bool)=>[(31,.bool s)]) (fun (s:Bool) h=>rO s k h) ?_ ?_
 rintro d_ h_2 H
 refine vF [31] (zE ?_)
 refine zI H ?_ ?_ <;> intro H
 refine zQ (w1 Z (zE (zT (yT ?_))))
 exact aB _ rfl _ rfl ⟨1,rfl,H⟩
 refine zK (zX (zQ (w1 Z (zE (zT ?_)))))
 exact aB _ rfl _ rfl ⟨0,rfl,H⟩
 refine vI 22 H ?_ ?_ <;> intro H
 refine wS (wS (wS (wS (wS (wS (wS (wS (w1 Z ?_))))))))
 exact wJ true H
 refine w1 Z ?_
 refine wL Z H fun v10 H=>?_
 refine w2 Z ?_
 refine vJ 4 (α:=Bool) [22] (fun (s:Bool)=>[(30,.bool s)]) (fun (s:Bool) h=>rM false s k h) ?_ ?_
 rintro a_ h_3 H
 refine vF [30,22] ?_
 refine w1 Z ?_
 exact wJ a_ H
 refine vI 26 H ?_ ?_ <;> intro H
 refine w1 Z ?_
 refine wL Z H fun v11 H=>?_
 refine w2 Z ?_
 exact wJ (decide (v11 < 1)) H
 refine wS (wS (wS (w1 Z ?_)))
 exact wJ false H
 refine vI 17 H ?_ ?_ <;> intro H
 refine wS (wS (wS (w1 Z ?_)))
 exact wJ true H
 refine w1 Z ?_
 refine wL Z H fun v12 H=>?_
 refine w2 Z ?_
 exact wJ (decide (v12 > 6)) H
theorem KN:aF prog 46:=ck func46
theorem Mq (p0 k h) (H:bR p0 k h):CallsH prog 46 #[p0,(Value.func (.func 48) #[] #[])] h (rS k):=by
 refine fE func46 fun w0=>?_
 refine zF [0,1] (zQ ?_)
 refine w1 Z (zE (zQ ?_))
 refine w1 Z ?_
 refine wC vC (uL _ _ _ H) fun r1 h2 H=>?_
 refine w1 Z (zE (zQ ?_))
 refine w2 Z ?_
 refine wC jS (jN _ _ _ H) fun r3 h4 H=>?_
 refine zE (zF [5] (zQ ?_))
 refine w2 Z (zE (zT ?_))
 exact aB _ rfl _ rfl ⟨r1,rfl,H⟩
theorem O29:aF prog 29:=ck func29
theorem R29 (p0 k h) (H:oU p0 k h):CallsH prog 29 #[Slc.v p0] h (rS k):=by
 refine fE func29 fun w0=>?_
 refine zF [0] (zQ ?_)
 refine w1 Z (zE (zQ ?_))
 obtain ⟨b1,h2,eb1,eh2,H⟩:=H
 refine wH (Lx rfl eb1 eh2) ?_
 refine w1 Z (zE (zS (zQ ?_)))
 refine w3 Z (zE (zB ?_))
 obtain ⟨I1,μ1,H0,HI⟩:=H
 refine zO (σ:=Int) [3,12,13] (fun (s:Int)=>[(14,.int .i64 s)]) I1 μ1 0 H0 ?_
 rintro a_ h_1 H
 replace H:=HI a_ h_1 H
 refine zF [14,3,12,13] (zQ ?_)
 refine w1 Z (zE (zS ?_))
 refine zI H ?_ ?_ <;> intro H
 refine zK (zX (zS (zB (zQ ?_))))
 refine wD Z H fun a3 _ H=>?_
 refine wL Z H fun v4 H=>?_
 refine w1 Z (zE (zC (zS (zA (zX (zQ ?_))))))
 refine w3 Z (zE (zB ?_))
 obtain ⟨I2,μ2,H0,HI⟩:=H
 refine zO (σ:=Int) [3,12,13,14,18,19] (fun (s:Int)=>[(20,.int .i64 s)]) I2 μ2 0 H0 ?_
 rintro b_ h_2 H
 replace H:=HI b_ h_2 H
 refine zF [20,3,12,13,14,18,19] (zQ ?_)
 refine w1 Z (zE (zS ?_))
 refine zI H ?_ ?_ <;> intro H
 refine zK (zX ?_)
 refine zJ (α:=Unit) [3,12,13,14,18,19,20] (fun (s:Unit)=>[]) (fun (s:Unit) h=>jk (some b1) p0 (p0.len:Int) a_ v4 (v4.len:Int) b_ k (fun s h'=>I1 s h'/\μ1 s h' < μ1 a_ h_1) (fun s h'=>I2 s h'/\μ2 s h' < μ2 b_ h_2) h) ?_ ?_
 rintro _ h_3 H
 refine zF [3,12,13,14,18,19,20] (zR ?_)
 refine w2 Z (zW ?_)
 exact xJ (IntKind.i64.wrap (b_ + 1)) H
 refine zB (zQ ?_)
 refine wD Z H fun a5 _ H=>?_
 refine wLa Z H fun v6 H=>?_
 refine wB Z H fun b7 h8 H=>?_
 refine wTa Z H fun h9 H=>?_
 refine zE (zS (zQ ?_))
 refine wLa Z H fun v10 H=>?_
 refine wC O42 (R42 _ _ _ H) fun r11 h12 H=>?_
 refine w1 Z (zE ?_)
 refine zI H ?_ ?_ <;> intro H
 refine zY (yE (yH ?_))
 exact xJ () H
 refine zK (zX (zQ (w1 Z ?_)))
 refine wL Z H fun v13 H=>?_
 refine w1 Z ?_
 refine wL Z H fun v14 H=>?_
 refine wY (bU Z rfl rfl rfl rfl rfl) ?_
 refine wB Z H fun b15 h16 H=>?_
 refine wTa Z H fun h17 H=>?_
 refine zE (zF [20,3,12,13,14,18,19,7,8] (zS (zQ ?_)))
 refine w1 Z ?_
 refine wLa Z H fun v18 H=>?_
 obtain ⟨l19,hl19,H⟩:=H
 refine wY (OL (K:=aK) (V:=ae) (kf:=(fun v:aK=>Value.agg (aK.cs v).toArray)) (vf:=(fun v:ae=>Value.agg (ae.cs v).toArray)) (kt:=95) (et:=89) (k:=v18) (z:=(⟨ByteArray.empty,0,0,(⟨0,0⟩:aG)⟩:ae)) (m:=(some b1)) (l:=l19) rfl rfl rfl (by kernel_rfl) nO (OU Z (T:=tab) rfl rfl rfl) hl19) ?_
 refine w3 Z ?_
 refine wB Z H fun b20 h21 H=>?_
 refine wTa Z H fun h22 H=>?_
 refine w1 Z (zE ?_)
 refine zJ (α:=Bool) [3,7,8,12,13,14,18,19,20] (fun (s:Bool)=>[(53,.bool s)]) (fun (s:Bool) h=>eT (some b1) (ad b7) (ad b15) p0 (p0.len:Int) a_ v4 (v4.len:Int) b_ s k (fun s h'=>I1 s h'/\μ1 s h' < μ1 a_ h_1) (fun s h'=>I2 s h'/\μ2 s h' < μ2 b_ h_2) h) ?_ ?_
 rintro d_ h_4 H
 refine zF [53,3,7,8,12,13,14,18,19,20] ?_
 refine zI H ?_ ?_ <;> intro H
 refine zY (yE (yH ?_))
 exact xJ () H
 refine zK (zX (zR (w1 Z ?_)))
 refine wLa Z H fun v23 H=>?_
 refine wLa Z H fun v24 H=>?_
 obtain ⟨r25,l26,h27,er25,hl26,eh27,H⟩:=H
 refine wH (QK (K:=aK) (V:=ae) (kf:=(fun v:aK=>Value.agg (aK.cs v).toArray)) (vf:=(fun v:ae=>Value.agg (ae.cs v).toArray)) (kt:=95) (et:=89) (k:=v23) (v:=v24) (m:=(some b1)) (l:=l26) rfl rfl rfl rfl (by kernel_rfl) nO er25 hl26 eh27) ?_
 refine zL ?_
 exact xJ () H
 refine gB [3,7,8,9,10,12,13,14,18,19,20] ?_
 refine gT 0 [10] Z ?_
 refine gT 1 [38] Z ?_
 refine gI 39 H (fun hb H=>?_) (fun hb H=>?_)
 refine gT 2 [9,39] Z ?_
 refine gla 3 [39,40] Z H fun v28 H=>?_
 refine gT 4 [7,39] Z ?_
 refine gla 5 [39,42] Z H fun v29 H=>?_
 refine gT 7 [9,39] Z ?_
 refine gl 8 [39,45] Z H fun v30 H=>?_
 refine gT 9 [7,39] Z ?_
 refine gl 10 [39,47] Z H fun v31 H=>?_
 refine gCr 6 [39,41,43] O44 (R44 _ _ _ _ H) fun r32 h33 H=>?_
 obtain ⟨hy34,hy35,H⟩:=H
 refine gR rfl (fq Z rfl rfl rfl rfl hy34) ?_
 refine gR rfl (fq Z rfl rfl rfl rfl hy35) ?_
 refine gZ0 ?_
 refine gC 11 [39,46,48] O45 (R45 _ _ _ _ H) fun r36 h37 H=>?_
 obtain ⟨b38,h39,eb38,eh39,H⟩:=H
 refine gH 12 [39,44,49] rfl (nJ Z rfl rfl rfl rfl rfl rfl rfl eb38 eh39) ?_
 refine gC 13 [39,50] O43 (R43 _ _ _ H) fun r40 h41 H=>?_
 refine gT 14 [39,51] Z ?_
 refine gT 15 [39,52] Z ?_
 refine gZ ?_
 exact xJ (decide (r40>=0)) H
 refine gS 2 [9,39] ?_
 refine gS 3 [39,40] ?_
 refine gS 4 [7,39] ?_
 refine gS 5 [39,42] ?_
 refine gS 6 [39,41,43] ?_
 refine gS 7 [9,39] ?_
 refine gS 8 [39,45] ?_
 refine gS 9 [7,39] ?_
 refine gS 10 [39,47] ?_
 refine gS 11 [39,46,48] ?_
 refine gS 12 [39,44,49] ?_
 refine gS 13 [39,50] ?_
 refine gS 14 [39,51] ?_
 refine gT 15 [39,52] Z ?_
 refine gZ ?_
 exact xJ false H
 refine zY (yE (yE (yH (yN (yL (zX (zR (w2 Z (zW ?_)))))))))
 exact xJ (IntKind.i64.wrap (a_ + 1)) H
 refine zY (yE (yE (yH (zX (zQ (w1 Z ?_))))))
 refine wC O47 (R47 _ _ _ H) fun r42 h43 H=>?_
 refine wC KN (Mq _ _ _ H) fun r44 h45 H=>?_
 refine w1 Z (zE (zF [2] (zT ?_)))
 exact aB _ rfl _ rfl ⟨r44,rfl,H⟩
theorem O49:aF prog 49:=ck func49
theorem R49 (p0 p1 p2 k h) (H:Bw p0 p1 p2 k h):CallsH prog 49 #[.agg (aC.cs p0).toArray,Slc.v p1,.int .i64 p2] h (fun v h'=>∃ r:Slc × Int,v = .tuple #[Slc.v r.1,.int .i64 r.2]/\k r h'):=by
 refine fE func49 fun w0=>?_
 refine zF [0,1,2] (zQ ?_)
 refine wX H fun b1 h2 H=>?_
 refine w2 Z (zE (zS (zQ ?_)))
 refine wLa Z H fun v3 H=>?_
 refine wC O73 (R73 _ _ _ H) fun r4 h5 H=>?_
 refine w1 Z (zE (zQ ?_))
 refine w2 Z (zE ?_)
 refine zI H ?_ ?_ <;> intro H
 refine zQ (w3 Z (zE (zF [6,7] (zT (yT ?_)))))
 exact aB _ rfl _ rfl ⟨((⟨none,0,0⟩:Slc),r4),rfl,H⟩
 refine zK (zX (zF [1,2,3] (zQ ?_)))
 refine w1 Z ?_
 refine wL Z H fun v6 H=>?_
 refine wC O74 (R74 _ _ _ H) fun r7 h8 H=>?_
 refine w3 Z ?_
 refine wB Z H fun b9 h10 H=>?_
 refine wTa Z H fun h11 H=>?_
 refine w1 Z (zE (zF [1,2,3,9] (zQ ?_)))
 obtain ⟨b12,h13,eb12,eh13,H⟩:=H
 refine wH (Lx rfl eb12 eh13) ?_
 refine w1 Z (zE (zQ ?_))
 refine w1 Z (zE (zS (zS ?_)))
 refine gB [1,2,3,9,11,12] ?_
 refine gT 0 [1] Z ?_
 refine gT 3 [3] Z ?_
 refine gl 4 [34] Z H fun v14 H=>?_
 refine gT 5 [2] Z ?_
 refine gT 6 [35,36] Z ?_
 refine gT 7 [3] Z ?_
 refine gl 8 [38] Z H fun v15 H=>?_
 refine gT 11 [] Z ?_
 obtain ⟨b16,h17,eb16,eh17,H⟩:=H
 refine gHr 1 [31] rfl (nJ Z rfl rfl rfl rfl rfl rfl rfl eb16 eh17) ?_
 obtain ⟨hy18,hy19,H⟩:=H
 refine gR rfl (fq Z rfl rfl rfl rfl hy18) ?_
 refine gR rfl (fq Z rfl rfl rfl rfl hy19) ?_
 refine gZ0 ?_
 refine gCr 2 [32] O29 (R29 _ _ _ H) fun r20 h21 H=>?_
 obtain ⟨hy22,hy23,H⟩:=H
 refine gR rfl (fq Z rfl rfl rfl rfl hy22) ?_
 refine gR rfl (fq Z rfl rfl rfl rfl hy23) ?_
 refine gZ0 ?_
 refine gC 9 [33,37,39] O75 (R75 _ _ _ _ _ H) fun r24 h25 H=>?_
 refine gT 10 [40] Z ?_
 refine gZ ?_
 refine zX (zF [9,11,12,42,40,41] (zB ?_))
 obtain ⟨I1,μ1,H0,HI⟩:=H
 refine zO (σ:=Slc × Int) [9,11,40,41] (fun (s:Slc × Int)=>[(12,Slc.v s.1),(42,.int .i64 s.2)]) I1 μ1 ((⟨none,0,0⟩:Slc),0) H0 ?_
 rintro ⟨a_,b_⟩ h_1 H
 replace H:=HI a_ b_ h_1 H
 refine zF [12,42,9,11,40,41] (zQ ?_)
 refine w1 Z (zE (zS ?_))
 refine zI H ?_ ?_ <;> intro H
 refine zK (zX ?_)
 refine zJ (α:=Slc) [9,11,40,41,42] (fun (s:Slc)=>[(12,Slc.v s)]) (fun (s:Slc) h=>vw (ad b9) (some b12) r24 (r24.len:Int) b_ s k (fun s h'=>I1 s h'/\μ1 s h' < μ1 (a_,b_) h_1) h) ?_ ?_
 rintro f_ h_2 H
 refine zF [12,9,11,40,41,42] (zR ?_)
 refine w2 Z (zW ?_)
 exact xJ (f_,(IntKind.i64.wrap (b_ + 1))) H
 refine zB (zQ ?_)
 refine wD Z H fun a26 _ H=>?_
 refine wLa Z H fun v27 H=>?_
 refine wB Z H fun b28 h29 H=>?_
 refine wTa Z H fun h30 H=>?_
 refine zE (zQ (w2 Z ?_))
 refine wL Z H fun v31 H=>?_
 obtain ⟨l32,hl32,H⟩:=H
 refine wY (Jj (K:=ByteArray) (V:=Bool) (d:=.string) (kf:=Value.string) (vf:=Value.bool) (kt:=9) (et:=4) (k:=v31) (z:=false) (m:=(some b12)) (l:=l32) rfl rfl rfl (by kernel_rfl) (by kernel_rfl) OD (DC Z (T:=tab) rfl rfl rfl) hl32) ?_
 refine w5 Z (zE (zF [12,42,9,11,40,41,14,15,16] ?_))
 refine zJ (α:=Bool) [9,11,12,14,40,41,42] (fun (s:Bool)=>[(15,.bool s)]) (fun (s:Bool) h=>rf (ad b9) (some b12) a_ (ad b28) r24 (r24.len:Int) b_ s k (fun s h'=>I1 s h'/\μ1 s h' < μ1 (a_,b_) h_1) h) ?_ ?_
 rintro g_ h_3 H
 refine zF [15,9,11,12,14,40,41,42] (zQ ?_)
 refine w1 Z (zE ?_)
 refine zI H ?_ ?_ <;> intro H
 refine zR (w1 Z ?_)
 refine wLa Z H fun v33 H=>?_
 obtain ⟨b34,h35,eb34,eh35,H⟩:=H
 refine wH (nJ Z rfl rfl rfl rfl rfl rfl rfl eb34 eh35) ?_
 refine wA (ji (s:=a_) (r:=(⟨some ⟨b34,0,none⟩,1,1⟩:Slc)) Z rfl rfl rfl rfl rfl (bT eb34 eh35) H) ?_
 rintro _ h37 ⟨s36,rfl,H⟩
 refine w1 Z (zL ?_)
 exact xJ s36 H
 refine zK (yL ?_)
 exact xJ a_ H
 refine zQ (w2 Z (zE ?_))
 refine zI H ?_ ?_ <;> intro H
 refine zQ (w1 Z ?_)
 refine wL Z H fun v38 H=>?_
 refine wC O76 (R76 _ _ _ H) fun r39 h40 H=>?_
 refine w3 Z ?_
 refine wB Z H fun b41 h42 H=>?_
 refine wTa Z H fun h43 H=>?_
 refine w1 Z (zE (zF [12,42,9,11,40,41,14,17,18] (zQ ?_)))
 refine w3 Z ?_
 refine vJ 4 (α:=Bool) [9,11,12,14,40,41,42] (fun (s:Bool)=>[(67,.bool s)]) (fun (s:Bool) h=>rA (ad b9) (some b12) a_ (ad b28) r24 (r24.len:Int) b_ s k (fun s h'=>I1 s h'/\μ1 s h' < μ1 (a_,b_) h_1) h) ?_ ?_
 rintro d_ h_4 H
 refine vF [67,9,11,12,14,40,41,42] ?_
 refine w1 Z (zE (zR ?_))
 refine w2 Z ?_
 refine wL Z H fun v44 H=>?_
 refine w1 Z ?_
 obtain ⟨r45,l46,h47,er45,hl46,eh47,H⟩:=H
 refine wH (Qa (K:=ByteArray) (V:=Bool) (d:=.string) (kf:=Value.string) (vf:=Value.bool) (kt:=9) (et:=4) (k:=v44) (v:=d_) (m:=(some b12)) (l:=l46) rfl rfl rfl rfl (by kernel_rfl) (by kernel_rfl) OD er45 hl46 eh47) ?_
 refine zW ?_
 exact xJ d_ H
 refine vI 63 H ?_ ?_ <;> intro H
 refine wLa Z H fun v48 H=>?_
 refine wLa Z H fun v49 H=>?_
 refine wC O77 (R77 _ _ _ _ H) fun r50 h51 H=>?_
 refine w1 Z ?_
 exact wJ r50 H
 refine wS (wS (wS (w1 Z ?_)))
 exact wJ false H
 refine zK ?_
 exact xJ ((jP l32 v31).getD false) H
 refine zY (yE (yE (yH (zX (zQ (w3 Z (zE (zF [6,7] (zT ?_)))))))))
 exact aB _ rfl _ rfl ⟨(a_,0),rfl,H⟩
theorem O50:aF prog 50:=ck func50
theorem R50 (p0 k h) (H:vz p0 k h):CallsH prog 50 #[Slc.v p0] h (rS k):=by
 refine fE func50 fun w0=>?_
 refine zF [0] (zQ ?_)
 refine w1 Z (zE (zC (zQ ?_)))
 refine w1 Z (zE (zS (zA (zX (zS (zB ?_))))))
 obtain ⟨I1,μ1,H0,HI⟩:=H
 refine zO (σ:=Slc × Slc) [] (fun (s:Slc × Slc)=>[(0,Slc.v s.1),(3,Slc.v s.2)]) I1 μ1 (p0,(⟨none,0,0⟩:Slc)) H0 ?_
 rintro ⟨g_,f_⟩ h_1 H
 replace H:=HI g_ f_ h_1 H
 refine zF [0,3] (zS (zQ ?_))
 refine w3 Z (zE ?_)
 refine zI H ?_ ?_ <;> intro H
 refine zK (zX (zB (zS (zQ (w3 Z (zE (zB ?_)))))))
 obtain ⟨I2,μ2,H0,HI⟩:=H
 refine zO (σ:=Slc × Slc × Int) [9,10] (fun (s:Slc × Slc × Int)=>[(0,Slc.v s.1),(3,Slc.v s.2.1),(11,.int .i64 s.2.2)]) I2 μ2 (g_,f_,0) H0 ?_
 rintro ⟨a_,b_,d_⟩ h_2 H
 replace H:=HI a_ b_ d_ h_2 H
 refine zF [0,3,11,9,10] (zQ ?_)
 refine w1 Z (zE (zS ?_))
 refine zI H ?_ ?_ <;> intro H
 refine zK (zX (zS (zB (zQ (w1 Z ?_)))))
 refine wD Z H fun a1 _ H=>?_
 refine wLa Z H fun v2 H=>?_
 refine wB Z H fun b3 h4 H=>?_
 refine w1 Z ?_
 refine wTa Z H fun h5 H=>?_
 refine zE (zS ?_)
 refine qZ (by kernel_rfl) (by kernel_rfl) ?_
 refine qp Z ?_
 obtain ⟨v6,hv6,H⟩:=H
 refine q_y (fq Z rfl rfl rfl rfl hv6) rfl rfl ?_
 refine qp Z ?_
 obtain ⟨a7,ha7,la7,ua7,H⟩:=H
 refine q_y (lh Z rfl rfl ha7 rfl rfl rfl la7 ua7) rfl rfl ?_
 refine qp Z ?_
 obtain ⟨v8,hv8,H⟩:=H
 refine q_y (fq Z rfl rfl rfl rfl hv8) rfl rfl ?_
 refine qp Z ?_
 refine xK ?_
 refine zX (zF [0,3,11,9,10,4,22] ?_)
 refine zI H ?_ ?_ <;> intro H
 refine zQ (w3 Z ?_)
 obtain ⟨s9,ps9,qs9,rs9,ts9,es9,H⟩:=H
 refine wYe (Jg (s:=a_) (L:=0) (H:=d_) (M:=(a_.cap:Int)) Z rfl rfl rfl rfl rfl rfl rfl (by simp) ps9 qs9 rs9 ts9) (congrArg Slc.v es9) ?_
 obtain ⟨b10,h11,eb10,eh11,H⟩:=H
 refine wH (nJ Z rfl rfl rfl rfl rfl rfl rfl eb10 eh11) ?_
 refine wA (ji (s:=b_) (r:=(⟨some ⟨b10,0,none⟩,1,1⟩:Slc)) Z rfl rfl rfl rfl rfl (bT eb10 eh11) H) ?_
 rintro _ h13 ⟨s12,rfl,H⟩
 refine w1 Z (zE (zF [0,3,4] (zQ ?_)))
 refine w2 Z ?_
 obtain ⟨s14,ps14,qs14,rs14,ts14,es14,H⟩:=H
 refine wYe (Jg (s:=a_) (L:=d_) (H:=(a_.len:Int)) (M:=(a_.cap:Int)) Z rfl rfl rfl rfl rfl rfl rfl (by simp) ps14 qs14 rs14 ts14) (congrArg Slc.v es14) ?_
 refine w1 Z (zE (zY (zM (yE (yE (zM (yE (yH ?_))))))))
 exact xJ (s14,s12) H
 refine zK (yL (zX (zR (w2 Z (zW ?_)))))
 exact xJ (a_,b_,(IntKind.i64.wrap (d_ + 1))) H
 refine zY (yE (yE (yH (zX (zQ (w2 Z ?_))))))
 obtain ⟨b15,h16,eb15,eh16,H⟩:=H
 refine wH (nJ Z rfl rfl rfl rfl rfl rfl rfl eb15 eh16) ?_
 refine wA (ji (s:=b_) (r:=(⟨some ⟨b15,0,none⟩,1,1⟩:Slc)) Z rfl rfl rfl rfl rfl (bT eb15 eh16) H) ?_
 rintro _ h18 ⟨s17,rfl,H⟩
 refine w1 Z (zE (zF [2] (zT (yB (yT (yB (yT (yR ?_))))))))
 exact aB _ rfl _ rfl ⟨s17,rfl,H⟩
 refine zY (yE (yE (yH (zX (zQ (w2 Z (zE (zT (yR ?_)))))))))
 exact aB _ rfl _ rfl ⟨f_,rfl,H⟩
theorem O79:aF prog 79:=ck func79
theorem R79 (p0 k h) (H:Bz p0 k h):CallsH prog 79 #[Slc.v p0] h (fun v h'=>∃ r:au,v = .agg (au.cs r).toArray/\k r h'):=by
 refine fE func79 fun w0=>?_
 refine zF [0] (zQ ?_)
 refine wB Z H fun b1 h2 H=>?_
 refine zE (zQ ?_)
 refine wB Z H fun b3 h4 H=>?_
 refine zE (zS (zQ (w3 Z (zE (zB ?_)))))
 obtain ⟨I1,μ1,H0,HI⟩:=H
 refine zO (σ:=Int) [2,3,6,7] (fun (s:Int)=>[(8,.int .i64 s)]) I1 μ1 0 H0 ?_
 rintro a_ h_1 H
 replace H:=HI a_ h_1 H
 refine zF [8,2,3,6,7] (zQ ?_)
 refine w1 Z (zE (zS ?_))
 refine zI H ?_ ?_ <;> intro H
 refine zK (zX (zS (zB (zQ ?_))))
 refine wD Z H fun a5 _ H=>?_
 refine wLa Z H fun v6 H=>?_
 refine wB Z H fun b7 h8 H=>?_
 refine wTa Z H fun h9 H=>?_
 refine zE ?_
 refine gB [2,3,5,6,7,8] ?_
 refine gla 0 [3] Z H fun v10 H=>?_
 refine gT 1 [5] Z ?_
 refine gl 2 [14] Z H fun v11 H=>?_
 refine gCr 3 [15] O78 (R78 _ _ _ H) fun r12 h13 H=>?_
 obtain ⟨hy14,H⟩:=H
 refine gR rfl (fC Z rfl rfl rfl rfl rfl hy14) ?_
 refine gZ0 ?_
 refine gC 4 [13,16] QN (QI _ _ _ _ H) fun r15 h16 H=>?_
 refine gT 5 [17] Z ?_
 refine gT 6 [12] Z ?_
 refine gT 7 [12] Z ?_
 obtain ⟨h17,wh17,eh17,H⟩:=H
 refine gH 8 [3,18] rfl (si Z rfl rfl rfl rfl rfl (yV (by kernel_rfl)) wh17 eh17) ?_
 refine gZ ?_
 refine yL (zX (zF [2,3,6,7,8] (zR ?_)))
 refine w2 Z (zW ?_)
 exact xJ (IntKind.i64.wrap (a_ + 1)) H
 refine zY (yE (yE (yH (zX (zQ ?_)))))
 refine wLa Z H fun v18 H=>?_
 refine wTa Z H fun h19 H=>?_
 refine zE (zT ?_)
 obtain ⟨v20,hv20,H⟩:=H
 exact fu Z _ rfl [.agg (au.cs v20).toArray] ⟨⟨_,_,rfl,rfl,.inr ⟨rfl,_,rfl,rfl,hv20⟩⟩,trivial⟩ ⟨v20,rfl,H⟩
theorem QE:aF prog 107:=ck func107
theorem Qu (p0 p1 k h) (H:uy p0 p1 k h):CallsH prog 107 #[.int .i64 p0,.int .i64 p1] h (fun v h'=>∃ r:Int × Bool,v = .tuple #[.int .i64 r.1,.bool r.2]/\k r h'):=by
 refine fE func107 fun w0=>?_
 refine zF [0,1] (zQ ?_)
 refine w2 Z (zE (zQ ?_))
 refine w3 Z ?_
 refine wQ Z H fun x1 H=>?_
 refine zE (zQ (w6 Z ?_))
 refine w3 Z (zE (zF [4,5] (zT ?_)))
 exact aB _ rfl _ rfl ⟨(x1,(((decide (x1 < p0)) == (decide (p1 > 0))))),rfl,H⟩
theorem O83:aF prog 83:=ck func83
theorem R83 (p0 k h) (H:zV p0 k h):CallsH prog 83 #[Slc.v p0] h (fun v h'=>∃ r:Int × Int,v = .tuple #[.int .i64 r.1,.int .i64 r.2]/\k r h'):=by
 refine fE func83 fun w0=>?_
 refine zF [0] (zQ ?_)
 refine w2 Z (zE ?_)
 refine zJ (α:=Addr × Addr) [] (fun (s:Addr × Addr)=>[(4,.pointer (some s.1)),(5,.pointer (some s.2))]) (fun (s:Addr × Addr) h=>p9 s.1 s.2 k h) ?_ ?_
 rintro ⟨a_,b_⟩ h_1 H
 refine zF [4,5] (zQ ?_)
 refine w1 Z ?_
 refine wL Z H fun v1 H=>?_
 refine w1 Z ?_
 refine wL Z H fun v2 H=>?_
 refine wC QE (Qu _ _ _ _ H) fun r3 h4 H=>?_
 refine w5 Z (zE (zF [4,5,6,7] (zQ ?_)))
 refine w1 Z ?_
 refine wL Z H fun v5 H=>?_
 refine w1 Z ?_
 refine wL Z H fun v6 H=>?_
 refine wC QE (Qu _ _ _ _ H) fun r7 h8 H=>?_
 refine w5 Z (zE (zF [6,7,8,9] (zS (zQ ?_))))
 refine w3 Z ?_
 refine vU 3 [6,8] [(40,.bool ((!r3.2) || (!r7.2)))] ?_ ?_
 refine zE ?_
 refine zI H ?_ ?_ <;> intro H
 refine zQ (w2 Z (zE (zT (yT ?_))))
 exact aB _ rfl _ rfl ⟨(0,19),rfl,H⟩
 refine zK (zX (zQ (w2 Z ?_)))
 refine wC Qh (QJ _ _ _ _ H) fun r9 h10 H=>?_
 refine w4 Z (zE (zF [2,3] (zT ?_)))
 exact aB _ rfl _ rfl ⟨(r9.1,r9.2),rfl,H⟩
 refine vG (d:=37) (fun hb=>?_) (fun hb=>?_)
 refine wS (wS (w1 Z ?_))
 refine vK ?_
 exact congrArg (fun b=>some (Value.bool b)) (BN hb)
 refine w3 Z ?_
 refine vK ?_
 exact congrArg (fun b=>some (Value.bool b)) (BO hb)
 refine gB [0] ?_
 refine gT 0 [0] Z ?_
 refine gd 1 [10] Z H fun a11 H=>?_
 refine gla 2 [11] Z H fun v12 H=>?_
 refine gT 3 [0] Z ?_
 refine gT 4 [0] Z ?_
 refine gT 5 [14] Z ?_
 refine gT 6 [15] Z ?_
 refine gd 7 [13,16] Z H fun a13 H=>?_
 refine gla 8 [17] Z H fun v14 H=>?_
 refine gO 9 10 H (fun H=>?_) (fun H=>?_)
 obtain ⟨b15,h16,eb15,eh16,H⟩:=H
 refine NQ 9 [] rfl (tH Z rfl rfl eb15 eh16) ?_
 obtain ⟨hy17,hy18,H⟩:=H
 refine gR rfl (fC Z rfl rfl rfl rfl rfl hy17) ?_
 refine gR rfl (fC Z rfl rfl rfl rfl rfl hy18) ?_
 refine gZ0 ?_
 obtain ⟨b19,h20,eb19,eh20,H⟩:=H
 refine gHr 10 [] rfl (tH Z rfl rfl eb19 eh20) ?_
 obtain ⟨hy21,hy22,H⟩:=H
 refine gR rfl (fC Z rfl rfl rfl rfl rfl hy21) ?_
 refine gR rfl (fC Z rfl rfl rfl rfl rfl hy22) ?_
 refine gZ0 ?_
 obtain ⟨h23,wh23,eh23,H⟩:=H
 refine gHr 11 [4,12] rfl (si Z rfl rfl rfl rfl rfl (yV (by kernel_rfl)) wh23 eh23) ?_
 obtain ⟨hy24,H⟩:=H
 refine gR rfl (fC Z rfl rfl rfl rfl rfl hy24) ?_
 refine gZ0 ?_
 obtain ⟨h25,wh25,eh25,H⟩:=H
 refine gH 12 [5,18] rfl (si Z rfl rfl rfl rfl rfl (yV (by kernel_rfl)) wh25 eh25) ?_
 refine gZ ?_
 exact xJ ((ad b15),(ad b19)) H
 obtain ⟨b26,h27,eb26,eh27,H⟩:=H
 refine NQ 10 [] rfl (tH Z rfl rfl eb26 eh27) ?_
 obtain ⟨hy28,hy29,H⟩:=H
 refine gR rfl (fC Z rfl rfl rfl rfl rfl hy28) ?_
 refine gR rfl (fC Z rfl rfl rfl rfl rfl hy29) ?_
 refine gZ0 ?_
 obtain ⟨b30,h31,eb30,eh31,H⟩:=H
 refine gHr 9 [] rfl (tH Z rfl rfl eb30 eh31) ?_
 obtain ⟨hy32,hy33,H⟩:=H
 refine gR rfl (fC Z rfl rfl rfl rfl rfl hy32) ?_
 refine gR rfl (fC Z rfl rfl rfl rfl rfl hy33) ?_
 refine gZ0 ?_
 obtain ⟨h34,wh34,eh34,H⟩:=H
 refine gHr 11 [4,12] rfl (si Z rfl rfl rfl rfl rfl (yV (by kernel_rfl)) wh34 eh34) ?_
 obtain ⟨hy35,H⟩:=H
 refine gR rfl (fC Z rfl rfl rfl rfl rfl hy35) ?_
 refine gZ0 ?_
 obtain ⟨h36,wh36,eh36,H⟩:=H
 refine gH 12 [5,18] rfl (si Z rfl rfl rfl rfl rfl (yV (by kernel_rfl)) wh36 eh36) ?_
 refine gZ ?_
 exact xJ ((ad b30),(ad b26)) H
theorem O84:aF prog 84:=ck func84
theorem R84 (p0 p1 k h) (H:zk p0 p1 k h):CallsH prog 84 #[Slc.v p0,.int .i64 p1] h (rS k):=by
 refine fE func84 fun w0=>?_
 refine zF [0,1] (zQ ?_)
 refine w1 Z (zE (zQ ?_))
 refine w1 Z (zE (zS (zQ ?_)))
 refine w3 Z (zE (zB ?_))
 obtain ⟨I1,μ1,H0,HI⟩:=H
 refine zO (σ:=Slc × Int) [1,11,12] (fun (s:Slc × Int)=>[(5,Slc.v s.1),(13,.int .i64 s.2)]) I1 μ1 ((⟨none,0,0⟩:Slc),0) H0 ?_
 rintro ⟨a_,b_⟩ h_1 H
 replace H:=HI a_ b_ h_1 H
 refine zF [5,13,1,11,12] (zQ ?_)
 refine w1 Z (zE (zS ?_))
 refine zI H ?_ ?_ <;> intro H
 refine zK (zX ?_)
 refine zJ (α:=Slc) [1,11,12,13] (fun (s:Slc)=>[(5,Slc.v s)]) (fun (s:Slc) h=>qj p1 p0 (p0.len:Int) b_ s k (fun s h'=>I1 s h'/\μ1 s h' < μ1 (a_,b_) h_1) h) ?_ ?_
 rintro d_ h_2 H
 refine zF [5,1,11,12,13] (zR ?_)
 refine w2 Z (zW ?_)
 exact xJ (d_,(IntKind.i64.wrap (b_ + 1))) H
 refine zB (zQ ?_)
 refine wD Z H fun a1 _ H=>?_
 refine wLa Z H fun v2 H=>?_
 refine wB Z H fun b3 h4 H=>?_
 refine wTa Z H fun h5 H=>?_
 refine zE (zQ (w1 Z ?_))
 refine wL Z H fun v6 H=>?_
 refine w1 Z ?_
 refine wC Qh (QJ _ _ _ _ H) fun r7 h8 H=>?_
 refine w5 Z (zE (zF [5,13,1,11,12,7,8] (zQ ?_)))
 refine w3 Z ?_
 refine wQ Z H fun x9 H=>?_
 refine zE (zQ (w4 Z ?_))
 refine vJ 10 (α:=Bool) [1,5,7,10,11,12,13] (fun (s:Bool)=>[(40,.bool s)]) (fun (s:Bool) h=>ow p1 a_ (ad b3) x9 p0 (p0.len:Int) b_ s k (fun s h'=>I1 s h'/\μ1 s h' < μ1 (a_,b_) h_1) h) ?_ ?_
 rintro f_ h_3 H
 refine vF [40,1,5,7,10,11,12,13] (zE ?_)
 refine zI H ?_ ?_ <;> intro H
 refine gB [1,5,7,11,12,13] ?_
 refine gT 0 [5] Z ?_
 refine gT 1 [5] Z ?_
 refine gT 2 [43] Z ?_
 refine gT 3 [44] Z ?_
 refine gT 4 [5] Z ?_
 refine gT 5 [5] Z ?_
 refine gT 6 [47] Z ?_
 refine gT 7 [48] Z ?_
 refine gd 8 [46,49] Z H fun a10 H=>?_
 refine gT 9 [50] Z ?_
 refine gla 10 [51] Z H fun v11 H=>?_
 refine gT 11 [7] Z ?_
 refine gl 12 [53] Z H fun v12 H=>?_
 refine gCr 13 [54] O78 (R78 _ _ _ H) fun r13 h14 H=>?_
 obtain ⟨hy15,H⟩:=H
 refine gR rfl (fC Z rfl rfl rfl rfl rfl hy15) ?_
 refine gZ0 ?_
 refine gC 14 [52,55] QN (QI _ _ _ _ H) fun r16 h17 H=>?_
 refine gT 15 [56] Z ?_
 refine gT 16 [41] Z ?_
 refine gT 17 [41] Z ?_
 refine gd 18 [42,45] Z H fun a18 H=>?_
 refine gT 19 [59] Z ?_
 obtain ⟨h19,wh19,eh19,H⟩:=H
 refine gH 20 [57,60] rfl (si Z rfl rfl rfl rfl rfl (yV (by kernel_rfl)) wh19 eh19) ?_
 refine gZ ?_
 refine yL ?_
 exact xJ a_ H
 refine gB [1,5,7,10,11,12,13] ?_
 refine gT 0 [5] Z ?_
 refine gT 1 [7] Z ?_
 refine gl 2 [62] Z H fun v20 H=>?_
 refine gT 3 [10] Z ?_
 refine gT 4 [7] Z ?_
 refine gl 5 [65] Z H fun v21 H=>?_
 refine gCr 6 [66] O78 (R78 _ _ _ H) fun r22 h23 H=>?_
 obtain ⟨hy24,H⟩:=H
 refine gR rfl (fq Z rfl rfl rfl rfl hy24) ?_
 refine gZ0 ?_
 refine gY 7 [63,64,67] rfl (fun _=>bU Z rfl rfl rfl rfl rfl) ?_
 obtain ⟨b25,h26,eb25,eh26,H⟩:=H
 refine gH 8 [68] rfl (nJ Z rfl rfl rfl rfl rfl rfl rfl eb25 eh26) ?_
 refine gA 9 [61,69] rfl (ji (s:=a_) (r:=(⟨some ⟨b25,0,none⟩,1,1⟩:Slc)) Z rfl rfl rfl rfl rfl (bT eb25 eh26) H) ?_
 rintro _ h28 ⟨s27,rfl,H⟩
 refine gT 10 [70] Z ?_
 refine gZ ?_
 refine yL ?_
 exact xJ s27 H
 refine vI 30 H ?_ ?_ <;> intro H
 refine w4 Z ?_
 refine wD Z H fun a29 _ H=>?_
 refine w1 Z ?_
 refine wL Z H fun v30 H=>?_
 refine w3 Z ?_
 exact wJ (v30 == x9) H
 refine wS (wS (wS (wS (wS (wS (wS (wS (wS (w1 Z ?_)))))))))
 exact wJ false H
 refine zY (yE (yE (yH (zX (zQ (w2 Z (zE (zF [4] (zT ?_)))))))))
 exact aB _ rfl _ rfl ⟨a_,rfl,H⟩
theorem KV:aF prog 80:=ck func80
theorem KX (p0 k h) (H:bD p0 k h):CallsH prog 80 #[Slc.v p0,(Value.func (.func 81) #[] #[])] h (fun v h'=>∃ r:ae,v = .agg (ae.cs r).toArray/\k r h'):=by
 refine fE func80 fun w0=>?_
 refine zF [0,1] (zQ ?_)
 refine wB Z H fun b1 h2 H=>?_
 refine zE ?_
 refine zJ (α:=Unit) [0,1,4] (fun (s:Unit)=>[]) (fun (s:Unit) h=>cB p0 (ad b1) k h) ?_ ?_
 rintro _ h_1 H
 refine zF [0,1,4] (zQ ?_)
 refine w1 Z ?_
 refine wD Z H fun a3 _ H=>?_
 refine wLa Z H fun v4 H=>?_
 refine wB Z H fun b5 h6 H=>?_
 refine wTa Z H fun h7 H=>?_
 refine zE (zS (zQ (w1 Z (zE (zB ?_)))))
 obtain ⟨I2,μ2,H0,HI⟩:=H
 refine zO (σ:=Int) [0,1,4,5] (fun (s:Int)=>[(6,.int .i64 s)]) I2 μ2 1 H0 ?_
 rintro a_ h_2 H
 replace H:=HI a_ h_2 H
 refine zF [6,0,1,4,5] (zS (zQ ?_))
 refine w4 Z (zE ?_)
 refine zI H ?_ ?_ <;> intro H
 refine zK (zX ?_)
 refine zJ (α:=Unit) [0,1,4,5,6] (fun (s:Unit)=>[]) (fun (s:Unit) h=>cz p0 (ad b1) (ad b5) a_ k (fun s h'=>I2 s h'/\μ2 s h' < μ2 a_ h_2) h) ?_ ?_
 rintro _ h_3 H
 refine zF [0,1,4,5,6] (zR ?_)
 refine w2 Z ?_
 refine wQ Z H fun x8 H=>?_
 refine zW ?_
 exact xJ x8 H
 refine zB (zS ?_)
 refine gB [0,1,4,5,6] ?_
 refine gT 0 [1] Z ?_
 refine gT 1 [0] Z ?_
 refine gT 2 [6] Z ?_
 refine gd 3 [21,22] Z H fun a9 H=>?_
 refine gla 4 [23] Z H fun v10 H=>?_
 refine gla 5 [5] Z H fun v11 H=>?_
 refine gV 6 [20,24,25] O81 (R81 _ _ _ _ H) fun r12 h13 H=>?_
 refine gT 7 [26] Z ?_
 refine gZ ?_
 refine zX (zF [0,1,4,5,6,27] ?_)
 refine zI H ?_ ?_ <;> intro H
 refine zR (w2 Z ?_)
 refine wD Z H fun a14 _ H=>?_
 refine wLa Z H fun v15 H=>?_
 refine wTa Z H fun h16 H=>?_
 refine zL ?_
 exact xJ () H
 refine zK (yL ?_)
 exact xJ () H
 refine zY (yE (yE (yH (zX (zF [4,5] (zQ ?_))))))
 refine wLa Z H fun v17 H=>?_
 refine wTa Z H fun h18 H=>?_
 refine zE (zT ?_)
 obtain ⟨v19,hv19,H⟩:=H
 exact fu Z _ rfl [.agg (ae.cs v19).toArray] ⟨⟨_,_,rfl,rfl,.inr ⟨rfl,_,rfl,rfl,hv19⟩⟩,trivial⟩ ⟨v19,rfl,H⟩
 refine zQ (w3 Z (zE ?_))
 refine zI H ?_ ?_ <;> intro H
 refine zR ?_
 exact H.elim
 refine zK ?_
 exact xJ () H
theorem Ml:aF prog 82:=ck func82
theorem Mx (p0 k h) (H:bE p0 k h):CallsH prog 82 #[Slc.v p0,(Value.func (.func 81) #[] #[])] h (fun v h'=>∃ r:ae,v = .agg (ae.cs r).toArray/\k r h'):=by
 refine fE func82 fun w0=>?_
 refine zF [0,1] (zQ ?_)
 refine wB Z H fun b1 h2 H=>?_
 refine zE ?_
 refine zJ (α:=Unit) [0,1,4] (fun (s:Unit)=>[]) (fun (s:Unit) h=>cO p0 (ad b1) k h) ?_ ?_
 rintro _ h_1 H
 refine zF [0,1,4] (zQ ?_)
 refine w1 Z ?_
 refine wD Z H fun a3 _ H=>?_
 refine wLa Z H fun v4 H=>?_
 refine wB Z H fun b5 h6 H=>?_
 refine wTa Z H fun h7 H=>?_
 refine zE (zS (zQ (w1 Z (zE (zB ?_)))))
 obtain ⟨I2,μ2,H0,HI⟩:=H
 refine zO (σ:=Int) [0,1,4,5] (fun (s:Int)=>[(6,.int .i64 s)]) I2 μ2 1 H0 ?_
 rintro a_ h_2 H
 replace H:=HI a_ h_2 H
 refine zF [6,0,1,4,5] (zS (zQ ?_))
 refine w4 Z (zE ?_)
 refine zI H ?_ ?_ <;> intro H
 refine zK (zX ?_)
 refine zJ (α:=Unit) [0,1,4,5,6] (fun (s:Unit)=>[]) (fun (s:Unit) h=>cK p0 (ad b1) (ad b5) a_ k (fun s h'=>I2 s h'/\μ2 s h' < μ2 a_ h_2) h) ?_ ?_
 rintro _ h_3 H
 refine zF [0,1,4,5,6] (zR ?_)
 refine w2 Z ?_
 refine wQ Z H fun x8 H=>?_
 refine zW ?_
 exact xJ x8 H
 refine zB (zS ?_)
 refine gB [0,1,4,5,6] ?_
 refine gT 0 [1] Z ?_
 refine gT 1 [0] Z ?_
 refine gT 2 [6] Z ?_
 refine gd 3 [21,22] Z H fun a9 H=>?_
 refine gla 4 [23] Z H fun v10 H=>?_
 refine gla 5 [5] Z H fun v11 H=>?_
 refine gV 6 [20,24,25] O81 (R81 _ _ _ _ H) fun r12 h13 H=>?_
 refine gT 7 [26] Z ?_
 refine gZ ?_
 refine zX (zF [0,1,4,5,6,27] ?_)
 refine zI H ?_ ?_ <;> intro H
 refine zR (w2 Z ?_)
 refine wD Z H fun a14 _ H=>?_
 refine wLa Z H fun v15 H=>?_
 refine wTa Z H fun h16 H=>?_
 refine zL ?_
 exact xJ () H
 refine zK (yL ?_)
 exact xJ () H
 refine zY (yE (yE (yH (zX (zF [4,5] (zQ ?_))))))
 refine wLa Z H fun v17 H=>?_
 refine wTa Z H fun h18 H=>?_
 refine zE (zT ?_)
 obtain ⟨v19,hv19,H⟩:=H
 exact fu Z _ rfl [.agg (ae.cs v19).toArray] ⟨⟨_,_,rfl,rfl,.inr ⟨rfl,_,rfl,rfl,hv19⟩⟩,trivial⟩ ⟨v19,rfl,H⟩
 refine zQ (w3 Z (zE ?_))
 refine zI H ?_ ?_ <;> intro H
 refine zR ?_
 exact H.elim
 refine zK ?_
 exact xJ () H
theorem O51:aF prog 51:=ck func51
theorem R51 (p0 p1 k h) (H:zG p0 p1 k h):CallsH prog 51 #[.agg (aC.cs p0).toArray,Slc.v p1] h (fun v h'=>∃ r:Slc × Int,v = .tuple #[Slc.v r.1,.int .i64 r.2]/\k r h'):=by
 refine fE func51 fun w0=>?_
 refine zF [0,1] (zQ ?_)
 refine wX H fun b1 h2 H=>?_
 refine w2 Z (zE (zQ ?_))
 refine w1 Z ?_
 refine wD Z H fun a3 _ H=>?_
 refine w1 Z ?_
 refine wL Z H fun v4 H=>?_
 refine wY (bU Z rfl rfl rfl rfl rfl) ?_
 refine wB Z H fun b5 h6 H=>?_
 refine wTa Z H fun h7 H=>?_
 refine zE (zF [1,2,6] ?_)
 refine zJ (α:=Unit) [6] (fun (s:Unit)=>[]) (fun (s:Unit) h=>iQ (ad b5) k h) ?_ ?_
 rintro _ h_1 H
 refine zF [6] (zQ ?_)
 refine wLa Z H fun v8 H=>?_
 obtain ⟨b9,h10,eb9,eh10,H⟩:=H
 refine wH (nJ Z rfl rfl rfl rfl rfl rfl rfl eb9 eh10) ?_
 refine w2 Z (zE (zT ?_))
 exact aB _ rfl _ rfl ⟨((⟨some ⟨b9,0,none⟩,1,1⟩:Slc),0),rfl,H⟩
 refine zQ (w1 Z ?_)
 refine wL Z H fun v11 H=>?_
 refine zE (zB (zQ (w2 Z (zE ?_))))
 refine zI H ?_ ?_ <;> intro H
 refine zQ (w1 Z (zE (zS (zQ ?_))))
 refine w3 Z (zE (zF [7,25,26,27] (zB ?_)))
 obtain ⟨I2,μ2,H0,HI⟩:=H
 refine zO (σ:=Slc × Int) [25,26] (fun (s:Slc × Int)=>[(7,Slc.v s.1),(27,.int .i64 s.2)]) I2 μ2 ((⟨none,0,0⟩:Slc),0) H0 ?_
 rintro ⟨a_,b_⟩ h_2 H
 replace H:=HI a_ b_ h_2 H
 refine zF [7,27,25,26] (zQ ?_)
 refine w1 Z (zE (zS ?_))
 refine zI H ?_ ?_ <;> intro H
 refine zK (zX (zS (zB (zQ ?_))))
 refine wD Z H fun a12 _ H=>?_
 refine wLa Z H fun v13 H=>?_
 refine wB Z H fun b14 h15 H=>?_
 refine wTa Z H fun h16 H=>?_
 refine zE ?_
 refine gB [7,9,25,26,27] ?_
 refine gT 0 [7] Z ?_
 refine gT 1 [9] Z ?_
 refine gl 2 [32] Z H fun v17 H=>?_
 refine gT 3 [9] Z ?_
 refine gl 4 [34] Z H fun v18 H=>?_
 refine gT 5 [9] Z ?_
 refine gl 6 [36] Z H fun v19 H=>?_
 refine gCr 7 [37] O78 (R78 _ _ _ H) fun r20 h21 H=>?_
 obtain ⟨hy22,hy23,H⟩:=H
 refine gR rfl (fq Z rfl rfl rfl rfl hy22) ?_
 refine gR rfl (fq Z rfl rfl rfl rfl hy23) ?_
 refine gZ0 ?_
 refine gY 8 [33,35,38] rfl (fun _=>bU Z rfl rfl rfl rfl rfl) ?_
 obtain ⟨b24,h25,eb24,eh25,H⟩:=H
 refine gH 9 [39] rfl (nJ Z rfl rfl rfl rfl rfl rfl rfl eb24 eh25) ?_
 refine gA 10 [31,40] rfl (ji (s:=a_) (r:=(⟨some ⟨b24,0,none⟩,1,1⟩:Slc)) Z rfl rfl rfl rfl rfl (bT eb24 eh25) H) ?_
 rintro _ h27 ⟨s26,rfl,H⟩
 refine gT 11 [41] Z ?_
 refine gZ ?_
 refine yL (zX (zF [7,25,26,27] (zR ?_)))
 refine w2 Z (zW ?_)
 exact xJ (s26,(IntKind.i64.wrap (b_ + 1))) H
 refine zY (yE (yE (yH (zX (zQ (w3 Z (zE (zT (yB (yT ?_))))))))))
 exact aB _ rfl _ rfl ⟨(a_,0),rfl,H⟩
 refine zQ (w2 Z (zE ?_))
 refine zI H ?_ ?_ <;> intro H
 refine zR (w2 Z ?_)
 refine wC O78 (R78 _ _ _ H) fun r28 h29 H=>?_
 refine w1 Z ?_
 refine wTa Z H fun h30 H=>?_
 refine zL ?_
 exact xJ () H
 refine zQ (w2 Z (zE ?_))
 refine zI H ?_ ?_ <;> intro H
 refine zR (w1 Z ?_)
 refine wC O79 (R79 _ _ _ H) fun r31 h32 H=>?_
 refine w1 Z ?_
 refine wTa Z H fun h33 H=>?_
 refine zL ?_
 exact xJ () H
 refine zQ (w2 Z (zE (zF [1,2,6,18,55] ?_)))
 refine zI H ?_ ?_ <;> intro H
 refine zR (w1 Z ?_)
 refine wC KV (KX _ _ _ H) fun r34 h35 H=>?_
 refine w1 Z ?_
 refine wC O78 (R78 _ _ _ H) fun r36 h37 H=>?_
 refine w1 Z ?_
 refine wTa Z H fun h38 H=>?_
 refine zL ?_
 exact xJ () H
 refine zQ (w2 Z (zE ?_))
 refine zI H ?_ ?_ <;> intro H
 refine zR (w1 Z ?_)
 refine wC Ml (Mx _ _ _ H) fun r39 h40 H=>?_
 refine w1 Z ?_
 refine wC O78 (R78 _ _ _ H) fun r41 h42 H=>?_
 refine w1 Z ?_
 refine wTa Z H fun h43 H=>?_
 refine zL ?_
 exact xJ () H
 refine zQ (w2 Z (zE ?_))
 refine zI H ?_ ?_ <;> intro H
 refine zS (zQ (w3 Z (zE (zF [1,6,73] ?_))))
 refine zI H ?_ ?_ <;> intro H
 refine zQ (w2 Z (zE (zT (yT (yB (yT ?_))))))
 exact aB _ rfl _ rfl ⟨((⟨none,0,0⟩:Slc),0),rfl,H⟩
 refine zK (zX (zQ (w1 Z ?_)))
 refine wC O83 (R83 _ _ _ H) fun r44 h45 H=>?_
 refine w5 Z (zE (zF [6,10,11] (zS (zQ ?_))))
 refine w2 Z (zE ?_)
 refine zI H ?_ ?_ <;> intro H
 refine zQ (w3 Z (zE (zT (yT (yB (yT ?_))))))
 exact aB _ rfl _ rfl ⟨((⟨none,0,0⟩:Slc),r44.2),rfl,H⟩
 refine zK (zX (zR (w1 Z ?_)))
 refine wC O78 (R78 _ _ _ H) fun r46 h47 H=>?_
 refine w1 Z ?_
 refine wTa Z H fun h48 H=>?_
 refine zL ?_
 exact xJ () H
 refine zQ (w2 Z ?_)
 refine wL Z H fun v49 H=>?_
 refine wC O84 (R84 _ _ _ _ H) fun r50 h51 H=>?_
 refine w2 Z (zE (zF [4,5] (zT (yB (yT ?_)))))
 exact aB _ rfl _ rfl ⟨(r50,0),rfl,H⟩
theorem O30:aF prog 30:=ck func30
theorem R30 (p0 p1 p2 k h) (H:BD p0 p1 p2 k h):CallsH prog 30 #[.agg (aC.cs p0).toArray,Slc.v p1,.int .i64 p2] h (fun v h'=>∃ r:Slc × Int,v = .tuple #[Slc.v r.1,.int .i64 r.2]/\k r h'):=by
 refine fE func30 fun w0=>?_
 refine zF [0,1,2] (zQ ?_)
 refine wX H fun b1 h2 H=>?_
 refine w2 Z (zE (zQ ?_))
 refine wLa Z H fun v3 H=>?_
 refine w2 Z ?_
 refine wC O49 (R49 _ _ _ _ _ H) fun r4 h5 H=>?_
 refine w5 Z (zE (zF [3,8,9] (zS (zQ ?_))))
 refine w2 Z (zE ?_)
 refine zI H ?_ ?_ <;> intro H
 refine zQ (w3 Z (zE (zT (yT ?_))))
 exact aB _ rfl _ rfl ⟨((⟨none,0,0⟩:Slc),r4.2),rfl,H⟩
 refine zK (zX (zQ (w1 Z (zE (zS (zQ ?_))))))
 refine w1 Z ?_
 refine wC O50 (R50 _ _ _ H) fun r6 h7 H=>?_
 refine w2 Z (zE (zB ?_))
 obtain ⟨I1,μ1,H0,HI⟩:=H
 refine zO (σ:=Slc × Int) [3,26,27] (fun (s:Slc × Int)=>[(10,Slc.v s.1),(28,.int .i64 s.2)]) I1 μ1 ((⟨none,0,0⟩:Slc),0) H0 ?_
 rintro ⟨a_,b_⟩ h_1 H
 replace H:=HI a_ b_ h_1 H
 refine zF [10,28,3,26,27] (zQ ?_)
 refine w1 Z (zE (zS ?_))
 refine zI H ?_ ?_ <;> intro H
 refine zK (zX (zS (zB (zQ ?_))))
 refine wD Z H fun a8 _ H=>?_
 refine wL Z H fun v9 H=>?_
 refine w1 Z (zE (zQ ?_))
 refine wLa Z H fun v10 H=>?_
 refine w1 Z ?_
 refine wC O51 (R51 _ _ _ _ H) fun r11 h12 H=>?_
 refine w5 Z (zE (zF [10,28,3,26,27,13,14] (zS (zQ ?_))))
 refine w2 Z (zE ?_)
 refine zI H ?_ ?_ <;> intro H
 refine zQ (w3 Z (zE (zF [6,7] (zT (yT (yB (yT (yT (yB (yT ?_))))))))))
 exact aB _ rfl _ rfl ⟨((⟨none,0,0⟩:Slc),r11.2),rfl,H⟩
 refine zK (zX (zR (w2 Z ?_)))
 obtain ⟨l15,hl15,H⟩:=H
 refine wA (ji (s:=a_) (r:=r11.1) Z rfl rfl rfl rfl rfl hl15 H) ?_
 rintro _ h14 ⟨s13,rfl,H⟩
 refine w1 Z (zL (zX (zF [10,28,3,26,27] (zR ?_))))
 refine w2 Z (zW ?_)
 exact xJ (s13,(IntKind.i64.wrap (b_ + 1))) H
 refine zY (yE (yE (yH (zX (zQ (w3 Z (zE (zF [6,7] (zT ?_)))))))))
 exact aB _ rfl _ rfl ⟨(a_,0),rfl,H⟩
end Go.Q.Yq
end
