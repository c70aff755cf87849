/- A part of the proof of statements of this seat: lemmas, no statement of their own. -/
import Derived.Test.YtgbbpanapnkdbaaGreatYqZad
import Derived.Test.YtgbbpanapnkdbaaGreatYqZae
import Derived.Test.YtgbbpanapnkdbaaGreatYqZac
import Derived.Test.YtgbbpanapnkdbaaGreatYqZab
import Derived.MapKept
set_option linter.unusedVariables false
set_option linter.unusedSimpArgs false
set_option maxRecDepth 100000
set_option maxHeartbeats 1000000
section
namespace Go.Q.Yq
open Go.Proofs.Tryz
/-- quaestor piece.Check -/
def pG (a_:Bool) (k:KP Int) (h_1:Heap):Prop :=
  if a_ then (k 1 h_1) else (k 0 h_1)
def xQ (p0:ae) (k:KP Int) (h:Heap):Prop :=
  ∃ b1 h2,b1=h.size/\h2=h.push (.cells (ae.cs p0).toArray 89)/\(∃ v3,ah h2 (ad b1)=some (.string v3)/\(if ((v3.size:Int) == 0) then (pG true k h2) else (∃ v4,ah h2 (ad b1)=some (.string v4)/\(pG (decide ((v4.size:Int) > 200)) k h2))))
/-- cmp.isNaN int64  -/
def qD (p0:Int) (k:KP Bool) (h:Heap):Prop :=
  k (p0 != p0) h
/-- cmp.isNaN uint64  -/
def iJ (p0:Int) (k:KP Bool) (h:Heap):Prop :=
  k (p0 != p0) h
/-- cmp.isNaN uint16  -/
def pQ (p0:Int) (k:KP Bool) (h:Heap):Prop :=
  k (p0 != p0) h
/-- cmp.isNaN string  -/
def cmp_isNaN_string (p0:ByteArray) (k:KP Bool) (h:Heap):Prop :=
  k (!(p0.toList == p0.toList)) h
/-- cmp.Compare int64  -/
def lY (p0:Int) (p1:Int) (k:KP Int) (h:Heap):Prop :=
  qD p0 (fun r1 h2=>qD p1 (fun r3 h4=>if r1 then (if r3 then (k 0 h4) else (∃ x5,x5=(-1)/\(k x5 h4))) else (if r3 then (k 1 h4) else (if (decide (p0 < p1)) then (∃ x6,x6=(-1)/\(k x6 h4)) else (if (decide (p0 > p1)) then (k 1 h4) else (k 0 h4))))) h2) h
/-- cmp.Compare uint64  -/
def nR (p0:Int) (p1:Int) (k:KP Int) (h:Heap):Prop :=
  iJ p0 (fun r1 h2=>iJ p1 (fun r3 h4=>if r1 then (if r3 then (k 0 h4) else (∃ x5,x5=(-1)/\(k x5 h4))) else (if r3 then (k 1 h4) else (if (decide (p0 < p1)) then (∃ x6,x6=(-1)/\(k x6 h4)) else (if (decide (p0 > p1)) then (k 1 h4) else (k 0 h4))))) h2) h
/-- cmp.Compare uint16  -/
def nZ (p0:Int) (p1:Int) (k:KP Int) (h:Heap):Prop :=
  pQ p0 (fun r1 h2=>pQ p1 (fun r3 h4=>if r1 then (if r3 then (k 0 h4) else (∃ x5,x5=(-1)/\(k x5 h4))) else (if r3 then (k 1 h4) else (if (decide (p0 < p1)) then (∃ x6,x6=(-1)/\(k x6 h4)) else (if (decide (p0 > p1)) then (k 1 h4) else (k 0 h4))))) h2) h
/-- cmp.Compare string  -/
def og (p0:ByteArray) (p1:ByteArray) (k:KP Int) (h:Heap):Prop :=
  cmp_isNaN_string p0 (fun r1 h2=>cmp_isNaN_string p1 (fun r3 h4=>if r1 then (if r3 then (k 0 h4) else (∃ x5,x5=(-1)/\(k x5 h4))) else (if r3 then (k 1 h4) else (if (Op.bytesLess p0.toList p1.toList) then (∃ x6,x6=(-1)/\(k x6 h4)) else (if (!(Op.bytesLess p0.toList p1.toList || p0.toList == p1.toList)) then (k 1 h4) else (k 0 h4))))) h2) h
/-- cmp.Or int  -/
def AL (b_:Int) (d_:Slc) (f_:Int) (a_:Int) (k:KP Int) (nx1:KP Int) (h_1:Heap):Prop :=
  if (decide (a_ < f_)) then (∃ a1,d_.a=some a1/\(0:Int)<=a_/\a_ < (d_.len:Int)/\(∃ v2,ah h_1 (a1.add (a_.toNat * 1))=some (.int .i64 v2)/\(if (v2 != b_) then (k v2 h_1) else (nx1 (IntKind.i64.wrap (a_ + 1)) h_1)))) else (k b_ h_1)
def BU (b_:Int) (d_:Slc) (f_:Int) (i8:Int) (k:KP Int) (h:Heap):Prop :=
  ∃ (I:KP Int) (μ:Int->Heap->Nat),I i8 h/\∀ (a_:Int) (h:Heap),I a_ h->AL b_ d_ f_ a_ k (fun s h'=>I s h'/\μ s h' < μ a_ h) h
def sM (p0:Slc) (k:KP Int) (h:Heap):Prop :=
  BU 0 p0 (p0.len:Int) 0 k h
/-- quaestor piece.ids -/
def yO (p0:aG) (p1:aG) (k:KP Int) (h:Heap):Prop :=
  ∃ b1 h2,b1=h.size/\h2=h.push (.cells (aG.cs p0).toArray 87)/\(∃ b3 h4,b3=h2.size/\h4=h2.push (.cells (aG.cs p1).toArray 87)/\(∃ v5,ah h4 (ad b1)=some (.int .u64 v5)/\(∃ v6,ah h4 (ad b3)=some (.int .u64 v6)/\(∃ v7,ah h4 ((ad b1).add 1)=some (.int .u16 v7)/\(∃ v8,ah h4 ((ad b3).add 1)=some (.int .u16 v8)/\(nR v5 v6 (fun r9 h10=>ah h10 ((ad b3).add 1)=some (.int .u16 v8)/\ah h10 ((ad b1).add 1)=some (.int .u16 v7)/\(nZ v7 v8 (fun r13 h14=>∃ b15 h16,b15=h14.size/\h16=h14.push (.cells ([.int .i64 r9,.int .i64 r13]).toArray 3)/\(sM (⟨some ⟨b15,0,none⟩,2,2⟩:Slc) (fun r17 h18=>k r17 h18) h16)) h10)) h4))))))
/-- quaestor piece.compare -/
def yw (p0:ae) (p1:ae) (k:KP Int) (h:Heap):Prop :=
  ∃ b1 h2,b1=h.size/\h2=h.push (.cells (ae.cs p0).toArray 89)/\(∃ b3 h4,b3=h2.size/\h4=h2.push (.cells (ae.cs p1).toArray 89)/\(∃ v5,ah h4 (ad b1)=some (.string v5)/\(∃ v6,ah h4 (ad b3)=some (.string v6)/\(∃ v7,ah h4 ((ad b1).add 1)=some (.int .i64 v7)/\(∃ v8,ah h4 ((ad b3).add 1)=some (.int .i64 v8)/\(∃ v9,ai h4 ((ad b1).add 3) (aG.cs v9)/\(∃ v10,ai h4 ((ad b3).add 3) (aG.cs v10)/\(og v5 v6 (fun r11 h12=>ai h12 ((ad b3).add 3) (aG.cs v10)/\ai h12 ((ad b1).add 3) (aG.cs v9)/\ah h12 ((ad b3).add 1)=some (.int .i64 v8)/\ah h12 ((ad b1).add 1)=some (.int .i64 v7)/\(lY v7 v8 (fun r17 h18=>ai h18 ((ad b3).add 3) (aG.cs v10)/\ai h18 ((ad b1).add 3) (aG.cs v9)/\(yO v9 v10 (fun r21 h22=>∃ b23 h24,b23=h22.size/\h24=h22.push (.cells ([.int .i64 r11,.int .i64 r17,.int .i64 r21]).toArray 3)/\(sM (⟨some ⟨b23,0,none⟩,3,3⟩:Slc) (fun r25 h26=>k r25 h26) h24)) h18)) h12)) h4))))))))
/-- quaestor query.less -/
def vW (p0:ae) (p1:ae) (k:KP Int) (h:Heap):Prop :=
  ∃ b1 h2,b1=h.size/\h2=h.push (.cells (ae.cs p0).toArray 89)/\(∃ b3 h4,b3=h2.size/\h4=h2.push (.cells (ae.cs p1).toArray 89)/\(∃ v5,ah h4 ((ad b1).add 2)=some (.int .i64 v5)/\(∃ v6,ah h4 ((ad b3).add 2)=some (.int .i64 v6)/\(if (decide (v5 < v6)) then (∃ x7,x7=(-1)/\(k x7 h4)) else (∃ v8,ah h4 ((ad b1).add 2)=some (.int .i64 v8)/\(∃ v9,ah h4 ((ad b3).add 2)=some (.int .i64 v9)/\(if (decide (v8 > v9)) then (k 1 h4) else (k 0 h4))))))))
theorem O42:aF prog 42:=ck func42
theorem R42 {D:Bool} (p0 k h) (H:xQ p0 k h):CallsHD D prog 42 #[.agg (ae.cs p0).toArray] h (rI .i64 k):=by
 refine fE func42 fun w0=>?_
 refine zF [0] (zQ ?_)
 refine wX H fun b1 h2 H=>?_
 refine w1 Z (zE (zS (zQ ?_)))
 refine w1 Z ?_
 refine wL Z H fun v3 H=>?_
 refine w3 Z ?_
 refine vJ 5 (α:=Bool) [] (fun (s:Bool)=>[(12,.bool s)]) (fun (s:Bool) h=>pG s k h) ?_ ?_
 rintro a_ h_1 H
 refine vF [12] (zE ?_)
 refine zI H ?_ ?_ <;> intro H
 refine zQ (w1 Z (zE (zT (yT ?_))))
 exact aB _ rfl _ rfl ⟨1,rfl,H⟩
 refine zK (zX (zQ (w1 Z (zE (zT ?_)))))
 exact aB _ rfl _ rfl ⟨0,rfl,H⟩
 refine vI 7 H ?_ ?_ <;> intro H
 refine wS (wS (wS (wS (w1 Z ?_))))
 exact wJ true H
 refine w1 Z ?_
 refine wL Z H fun v4 H=>?_
 refine w3 Z ?_
 exact wJ (decide ((v4.size:Int) > 200)) H
theorem O68:aF prog 68:=ck func68
theorem R68 {D:Bool} (p0 k h) (H:qD p0 k h):CallsHD D prog 68 #[.int .i64 p0] h (rB k):=by
 refine fE func68 fun w0=>?_
 refine zF [0] (zQ ?_)
 refine w1 Z (zE (zQ ?_))
 refine w4 Z (zE (zT ?_))
 exact aB _ rfl _ rfl ⟨(p0 != p0),rfl,H⟩
theorem O92:aF prog 92:=ck func92
theorem R92 {D:Bool} (p0 k h) (H:iJ p0 k h):CallsHD D prog 92 #[.int .u64 p0] h (rB k):=by
 refine fE func92 fun w0=>?_
 refine zF [0] (zQ ?_)
 refine w1 Z (zE (zQ ?_))
 refine w4 Z (zE (zT ?_))
 exact aB _ rfl _ rfl ⟨(p0 != p0),rfl,H⟩
theorem O93:aF prog 93:=ck func93
theorem R93 {D:Bool} (p0 k h) (H:pQ p0 k h):CallsHD D prog 93 #[.int .u16 p0] h (rB k):=by
 refine fE func93 fun w0=>?_
 refine zF [0] (zQ ?_)
 refine w1 Z (zE (zQ ?_))
 refine w4 Z (zE (zT ?_))
 exact aB _ rfl _ rfl ⟨(p0 != p0),rfl,H⟩
theorem O97:aF prog 97:=ck func97
theorem R97 {D:Bool} (p0 k h) (H:cmp_isNaN_string p0 k h):CallsHD D prog 97 #[.string p0] h (rB k):=by
 refine fE func97 fun w0=>?_
 refine zF [0] (zQ ?_)
 refine w1 Z (zE (zQ ?_))
 refine w4 Z (zE (zT ?_))
 exact aB _ rfl _ rfl ⟨(!(p0.toList == p0.toList)),rfl,H⟩
theorem O45:aF prog 45:=ck func45
theorem R45 {D:Bool} (p0 p1 k h) (H:lY p0 p1 k h):CallsHD D prog 45 #[.int .i64 p0,.int .i64 p1] h (rI .i64 k):=by
 refine fE func45 fun w0=>?_
 refine zF [0,1] (zQ ?_)
 refine w1 Z (zE (zQ ?_))
 refine w1 Z ?_
 refine wC O68 (R68 _ _ _ H) fun r1 h2 H=>?_
 refine w1 Z (zE (zQ ?_))
 refine w1 Z ?_
 refine wC O68 (R68 _ _ _ H) fun r3 h4 H=>?_
 refine w1 Z (zE (zS (zQ ?_)))
 refine w1 Z (zE ?_)
 refine zI H ?_ ?_ <;> intro H
 refine zS (zQ (w1 Z (zE (zF [12] ?_))))
 refine zI H ?_ ?_ <;> intro H
 refine zQ (w1 Z (zE (zT (yT (yT ?_)))))
 exact aB _ rfl _ rfl ⟨0,rfl,H⟩
 refine zK (zX (zQ ?_))
 refine wQ Z H fun x5 H=>?_
 refine zE (zT (yT ?_))
 exact aB _ rfl _ rfl ⟨x5,rfl,H⟩
 refine zK (zX (zF [0,1,6] (zS (zQ ?_))))
 refine w1 Z (zE ?_)
 refine zI H ?_ ?_ <;> intro H
 refine zQ (w1 Z (zE (zT (yT ?_))))
 exact aB _ rfl _ rfl ⟨1,rfl,H⟩
 refine zK (zX (zS (zQ (w3 Z (zE ?_)))))
 refine zI H ?_ ?_ <;> intro H
 refine zQ ?_
 refine wQ Z H fun x6 H=>?_
 refine zE (zF [4] (zT (yT ?_)))
 exact aB _ rfl _ rfl ⟨x6,rfl,H⟩
 refine zK (zX (zS (zQ (w3 Z (zE (zF [19] ?_))))))
 refine zI H ?_ ?_ <;> intro H
 refine zQ (w1 Z (zE (zT (yT ?_))))
 exact aB _ rfl _ rfl ⟨1,rfl,H⟩
 refine zK (zX (zQ (w1 Z (zE (zT ?_)))))
 exact aB _ rfl _ rfl ⟨0,rfl,H⟩
theorem O66:aF prog 66:=ck func66
theorem R66 {D:Bool} (p0 p1 k h) (H:nR p0 p1 k h):CallsHD D prog 66 #[.int .u64 p0,.int .u64 p1] h (rI .i64 k):=by
 refine fE func66 fun w0=>?_
 refine zF [0,1] (zQ ?_)
 refine w1 Z (zE (zQ ?_))
 refine w1 Z ?_
 refine wC O92 (R92 _ _ _ H) fun r1 h2 H=>?_
 refine w1 Z (zE (zQ ?_))
 refine w1 Z ?_
 refine wC O92 (R92 _ _ _ H) fun r3 h4 H=>?_
 refine w1 Z (zE (zS (zQ ?_)))
 refine w1 Z (zE ?_)
 refine zI H ?_ ?_ <;> intro H
 refine zS (zQ (w1 Z (zE (zF [12] ?_))))
 refine zI H ?_ ?_ <;> intro H
 refine zQ (w1 Z (zE (zT (yT (yT ?_)))))
 exact aB _ rfl _ rfl ⟨0,rfl,H⟩
 refine zK (zX (zQ ?_))
 refine wQ Z H fun x5 H=>?_
 refine zE (zT (yT ?_))
 exact aB _ rfl _ rfl ⟨x5,rfl,H⟩
 refine zK (zX (zF [0,1,6] (zS (zQ ?_))))
 refine w1 Z (zE ?_)
 refine zI H ?_ ?_ <;> intro H
 refine zQ (w1 Z (zE (zT (yT ?_))))
 exact aB _ rfl _ rfl ⟨1,rfl,H⟩
 refine zK (zX (zS (zQ (w3 Z (zE ?_)))))
 refine zI H ?_ ?_ <;> intro H
 refine zQ ?_
 refine wQ Z H fun x6 H=>?_
 refine zE (zF [4] (zT (yT ?_)))
 exact aB _ rfl _ rfl ⟨x6,rfl,H⟩
 refine zK (zX (zS (zQ (w3 Z (zE (zF [19] ?_))))))
 refine zI H ?_ ?_ <;> intro H
 refine zQ (w1 Z (zE (zT (yT ?_))))
 exact aB _ rfl _ rfl ⟨1,rfl,H⟩
 refine zK (zX (zQ (w1 Z (zE (zT ?_)))))
 exact aB _ rfl _ rfl ⟨0,rfl,H⟩
theorem O67:aF prog 67:=ck func67
theorem R67 {D:Bool} (p0 p1 k h) (H:nZ p0 p1 k h):CallsHD D prog 67 #[.int .u16 p0,.int .u16 p1] h (rI .i64 k):=by
 refine fE func67 fun w0=>?_
 refine zF [0,1] (zQ ?_)
 refine w1 Z (zE (zQ ?_))
 refine w1 Z ?_
 refine wC O93 (R93 _ _ _ H) fun r1 h2 H=>?_
 refine w1 Z (zE (zQ ?_))
 refine w1 Z ?_
 refine wC O93 (R93 _ _ _ H) fun r3 h4 H=>?_
 refine w1 Z (zE (zS (zQ ?_)))
 refine w1 Z (zE ?_)
 refine zI H ?_ ?_ <;> intro H
 refine zS (zQ (w1 Z (zE (zF [12] ?_))))
 refine zI H ?_ ?_ <;> intro H
 refine zQ (w1 Z (zE (zT (yT (yT ?_)))))
 exact aB _ rfl _ rfl ⟨0,rfl,H⟩
 refine zK (zX (zQ ?_))
 refine wQ Z H fun x5 H=>?_
 refine zE (zT (yT ?_))
 exact aB _ rfl _ rfl ⟨x5,rfl,H⟩
 refine zK (zX (zF [0,1,6] (zS (zQ ?_))))
 refine w1 Z (zE ?_)
 refine zI H ?_ ?_ <;> intro H
 refine zQ (w1 Z (zE (zT (yT ?_))))
 exact aB _ rfl _ rfl ⟨1,rfl,H⟩
 refine zK (zX (zS (zQ (w3 Z (zE ?_)))))
 refine zI H ?_ ?_ <;> intro H
 refine zQ ?_
 refine wQ Z H fun x6 H=>?_
 refine zE (zF [4] (zT (yT ?_)))
 exact aB _ rfl _ rfl ⟨x6,rfl,H⟩
 refine zK (zX (zS (zQ (w3 Z (zE (zF [19] ?_))))))
 refine zI H ?_ ?_ <;> intro H
 refine zQ (w1 Z (zE (zT (yT ?_))))
 exact aB _ rfl _ rfl ⟨1,rfl,H⟩
 refine zK (zX (zQ (w1 Z (zE (zT ?_)))))
 exact aB _ rfl _ rfl ⟨0,rfl,H⟩
theorem O72:aF prog 72:=ck func72
theorem R72 {D:Bool} (p0 p1 k h) (H:og p0 p1 k h):CallsHD D prog 72 #[.string p0,.string p1] h (rI .i64 k):=by
 refine fE func72 fun w0=>?_
 refine zF [0,1] (zQ ?_)
 refine w1 Z (zE (zQ ?_))
 refine w1 Z ?_
 refine wC O97 (R97 _ _ _ H) fun r1 h2 H=>?_
 refine w1 Z (zE (zQ ?_))
 refine w1 Z ?_
 refine wC O97 (R97 _ _ _ H) fun r3 h4 H=>?_
 refine w1 Z (zE (zS (zQ ?_)))
 refine w1 Z (zE ?_)
 refine zI H ?_ ?_ <;> intro H
 refine zS (zQ (w1 Z (zE (zF [12] ?_))))
 refine zI H ?_ ?_ <;> intro H
 refine zQ (w1 Z (zE (zT (yT (yT ?_)))))
 exact aB _ rfl _ rfl ⟨0,rfl,H⟩
 refine zK (zX (zQ ?_))
 refine wQ Z H fun x5 H=>?_
 refine zE (zT (yT ?_))
 exact aB _ rfl _ rfl ⟨x5,rfl,H⟩
 refine zK (zX (zF [0,1,6] (zS (zQ ?_))))
 refine w1 Z (zE ?_)
 refine zI H ?_ ?_ <;> intro H
 refine zQ (w1 Z (zE (zT (yT ?_))))
 exact aB _ rfl _ rfl ⟨1,rfl,H⟩
 refine zK (zX (zS (zQ (w3 Z (zE ?_)))))
 refine zI H ?_ ?_ <;> intro H
 refine zQ ?_
 refine wQ Z H fun x6 H=>?_
 refine zE (zF [4] (zT (yT ?_)))
 exact aB _ rfl _ rfl ⟨x6,rfl,H⟩
 refine zK (zX (zS (zQ (w3 Z (zE (zF [19] ?_))))))
 refine zI H ?_ ?_ <;> intro H
 refine zQ (w1 Z (zE (zT (yT ?_))))
 exact aB _ rfl _ rfl ⟨1,rfl,H⟩
 refine zK (zX (zQ (w1 Z (zE (zT ?_)))))
 exact aB _ rfl _ rfl ⟨0,rfl,H⟩
theorem O43:aF prog 43:=ck func43
theorem R43 {D:Bool} (p0 k h) (H:sM p0 k h):CallsHD D prog 43 #[Slc.v p0] h (rI .i64 k):=by
 refine fE func43 fun w0=>?_
 refine zF [0] (zQ ?_)
 refine w1 Z (zE (zQ ?_))
 refine w1 Z (zE (zS (zQ ?_)))
 refine w3 Z (zE (zB ?_))
 obtain ⟨I1,μ1,H0,HI⟩:=H
 refine zO (σ:=Int) [3,6,7] (fun (s:Int)=>[(8,.int .i64 s)]) I1 μ1 0 H0 ?_
 rintro a_ h_1 H
 replace H:=HI a_ h_1 H
 refine zF [8,3,6,7] (zQ ?_)
 refine w1 Z (zE (zS ?_))
 refine zI H ?_ ?_ <;> intro H
 refine zK (zX (zS (zB (zQ ?_))))
 refine wD Z H fun a1 _ H=>?_
 refine wL Z H fun v2 H=>?_
 refine w1 Z (zE (zQ ?_))
 refine w3 Z (zE ?_)
 refine zI H ?_ ?_ <;> intro H
 refine zQ (w2 Z (zE (zF [2] (zT (yB (yT (yT (yB (yT ?_)))))))))
 exact aB _ rfl _ rfl ⟨v2,rfl,H⟩
 refine zK (yL (zX (zF [8,3,6,7] (zR ?_))))
 refine w2 Z (zW ?_)
 exact xJ (IntKind.i64.wrap (a_ + 1)) H
 refine zY (yE (yE (yH (zX (zQ (w2 Z (zE (zT ?_))))))))
 exact aB _ rfl _ rfl ⟨0,rfl,H⟩
theorem O44:aF prog 44:=ck func44
theorem R44 {D:Bool} (p0 p1 k h) (H:yO p0 p1 k h):CallsHD D prog 44 #[.agg (aG.cs p0).toArray,.agg (aG.cs p1).toArray] h (rI .i64 k):=by
 refine fE func44 fun w0=>?_
 refine zF [0,1] (zQ ?_)
 refine wX H fun b1 h2 H=>?_
 refine wX H fun b3 h4 H=>?_
 refine w1 Z (zE (zS ?_))
 refine gB [2,3] ?_
 refine gT 0 [2] Z ?_
 refine gl 1 [5] Z H fun v5 H=>?_
 refine gT 2 [3] Z ?_
 refine gl 3 [7] Z H fun v6 H=>?_
 refine gT 5 [2] Z ?_
 refine gl 6 [10] Z H fun v7 H=>?_
 refine gT 7 [3] Z ?_
 refine gl 8 [12] Z H fun v8 H=>?_
 refine gCr 4 [6,8] O66 (R66 _ _ _ _ H) fun r9 h10 H=>?_
 obtain ⟨hy11,hy12,H⟩:=H
 refine gR rfl (fq Z rfl rfl rfl rfl hy11) ?_
 refine gR rfl (fq Z rfl rfl rfl rfl hy12) ?_
 refine gZ0 ?_
 refine gC 9 [11,13] O67 (R67 _ _ _ _ H) fun r13 h14 H=>?_
 obtain ⟨b15,h16,eb15,eh16,H⟩:=H
 refine gH 10 [9,14] rfl (nJ Z rfl rfl rfl rfl rfl rfl rfl eb15 eh16) ?_
 refine gC 11 [15] O43 (R43 _ _ _ H) fun r17 h18 H=>?_
 refine gT 12 [16] Z ?_
 refine gZ ?_
 refine zX (zF [4] (zT ?_))
 exact aB _ rfl _ rfl ⟨r17,rfl,H⟩
theorem R48 {D:Bool} (p0 p1 k h) (H:yw p0 p1 k h):CallsHD D prog 48 #[.agg (ae.cs p0).toArray,.agg (ae.cs p1).toArray] h (rI .i64 k):=by
 refine fE func48 fun w0=>?_
 refine zF [0,1] (zQ ?_)
 refine wX H fun b1 h2 H=>?_
 refine wX H fun b3 h4 H=>?_
 refine w1 Z (zE (zS ?_))
 refine gB [2,3] ?_
 refine gT 0 [2] Z ?_
 refine gl 1 [5] Z H fun v5 H=>?_
 refine gT 2 [3] Z ?_
 refine gl 3 [7] Z H fun v6 H=>?_
 refine gT 5 [2] Z ?_
 refine gl 6 [10] Z H fun v7 H=>?_
 refine gT 7 [3] Z ?_
 refine gl 8 [12] Z H fun v8 H=>?_
 refine gT 10 [2] Z ?_
 refine gla 11 [15] Z H fun v9 H=>?_
 refine gT 12 [3] Z ?_
 refine gla 13 [17] Z H fun v10 H=>?_
 refine gCr 4 [6,8] O72 (R72 _ _ _ _ H) fun r11 h12 H=>?_
 obtain ⟨hy13,hy14,hy15,hy16,H⟩:=H
 refine gR rfl (fC Z rfl rfl rfl rfl rfl hy13) ?_
 refine gR rfl (fC Z rfl rfl rfl rfl rfl hy14) ?_
 refine gR rfl (fq Z rfl rfl rfl rfl hy15) ?_
 refine gR rfl (fq Z rfl rfl rfl rfl hy16) ?_
 refine gZ0 ?_
 refine gCr 9 [11,13] O45 (R45 _ _ _ _ H) fun r17 h18 H=>?_
 obtain ⟨hy19,hy20,H⟩:=H
 refine gR rfl (fC Z rfl rfl rfl rfl rfl hy19) ?_
 refine gR rfl (fC Z rfl rfl rfl rfl rfl hy20) ?_
 refine gZ0 ?_
 refine gC 14 [16,18] O44 (R44 _ _ _ _ H) fun r21 h22 H=>?_
 obtain ⟨b23,h24,eb23,eh24,H⟩:=H
 refine gH 15 [9,14,19] rfl (nJ Z rfl rfl rfl rfl rfl rfl rfl eb23 eh24) ?_
 refine gC 16 [20] O43 (R43 _ _ _ H) fun r25 h26 H=>?_
 refine gT 17 [21] Z ?_
 refine gZ ?_
 refine zX (zF [4] (zT ?_))
 exact aB _ rfl _ rfl ⟨r25,rfl,H⟩
theorem O81:aF prog 81:=ck func81
theorem R81 {D:Bool} (p0 p1 k h) (H:vW p0 p1 k h):CallsHD D prog 81 #[.agg (ae.cs p0).toArray,.agg (ae.cs p1).toArray] h (rI .i64 k):=by
 refine fE func81 fun w0=>?_
 refine zF [0,1] (zQ ?_)
 refine wX H fun b1 h2 H=>?_
 refine wX H fun b3 h4 H=>?_
 refine w1 Z (zE (zS (zB (zQ ?_))))
 refine w1 Z ?_
 refine wL Z H fun v5 H=>?_
 refine w1 Z ?_
 refine wL Z H fun v6 H=>?_
 refine w2 Z (zE (zF [2,3,5] ?_))
 refine zI H ?_ ?_ <;> intro H
 refine zQ ?_
 refine wQ Z H fun x7 H=>?_
 refine zE (zT (yB (yT ?_)))
 exact aB _ rfl _ rfl ⟨x7,rfl,H⟩
 refine zQ (w1 Z ?_)
 refine wL Z H fun v8 H=>?_
 refine w1 Z ?_
 refine wL Z H fun v9 H=>?_
 refine w2 Z (zE (zF [11] ?_))
 refine zI H ?_ ?_ <;> intro H
 refine zQ (w1 Z (zE (zT (yB (yT ?_)))))
 exact aB _ rfl _ rfl ⟨1,rfl,H⟩
 refine zK (yL (zX (zQ (w1 Z (zE (zT ?_))))))
 exact aB _ rfl _ rfl ⟨0,rfl,H⟩
end Go.Q.Yq
end
section
/- The order of pieces. -/
namespace Go.Q.Yq
def cI (a b:Int):Int:=if a < b then -1 else if a > b then 1 else 0
def cS (a b:ByteArray):Int:=if Op.bytesLess a.toList b.toList=true then -1 else if (!(Op.bytesLess a.toList b.toList || a.toList == b.toList))=true then 1 else 0
def orL:List Int->Int
 | []=>0
 | x :: r=>if x≠0 then x else orL r
def vk (x y:aG):Int:=orL [cI x.f_N y.f_N,cI x.aR y.aR]
def Gw (x y:ae):Int:=orL [cS x.ak y.ak,cI x.f_T y.f_T,vk x.dB y.dB]
theorem GH {a b:Int} {k:KP Int} {h:Heap} (H:k (cI a b) h):lY a b k h:=by
 unfold lY qD
 unfold cI at H
 simp
 by_cases h1:a < b
 ·simpa [h1] using H
 ·by_cases h2:a > b
  ·simpa [h1,h2] using H
  ·simpa [h1,h2] using H
theorem NA {a b:Int} {k:KP Int} {h:Heap} (H:k (cI a b) h):nR a b k h:=by
 unfold nR iJ
 unfold cI at H
 simp
 by_cases h1:a < b
 ·simpa [h1] using H
 ·by_cases h2:a > b
  ·simpa [h1,h2] using H
  ·simpa [h1,h2] using H
theorem NT {a b:Int} {k:KP Int} {h:Heap} (H:k (cI a b) h):nZ a b k h:=by
 unfold nZ pQ
 unfold cI at H
 simp
 by_cases h1:a < b
 ·simpa [h1] using H
 ·by_cases h2:a > b
  ·simpa [h1,h2] using H
  ·simpa [h1,h2] using H
theorem Nu {a b:ByteArray} {k:KP Int} {h:Heap} (H:k (cS a b) h):og a b k h:=by
 unfold og cmp_isNaN_string
 unfold cS at H
 have e1:(!(a.toList == a.toList))=false:=by simp
 have e2:(!(b.toList == b.toList))=false:=by simp
 rw [e1,e2]
 dsimp only
 rw [if_neg Bool.false_ne_true,if_neg Bool.false_ne_true]
 by_cases h1:Op.bytesLess a.toList b.toList=true
 ·rw [if_pos h1] at H ⊢
  exact ⟨_,rfl,H⟩
 ·rw [if_neg h1] at H ⊢
  by_cases h2:(!(Op.bytesLess a.toList b.toList || a.toList == b.toList))=true
  ·rw [if_pos h2] at H ⊢; exact H
  ·rw [if_neg h2] at H ⊢; exact H
theorem JG {b E c:Nat} {xs:List Int} {k:KP Int} {h:Heap} (B:Blk h b (xs.map (Value.int .i64)) E) (hl:xs.length<=1000) (H:k (orL xs) h):sM ⟨some ⟨b,0,none⟩,xs.length,c⟩ k h:=by
 unfold sM BU
 refine ⟨fun i h'=>h'=h/\0<=i/\i<=xs.length/\orL xs=orL (xs.drop i.toNat),fun i _=>xs.length - i.toNat,⟨rfl,Int.le_refl _,by omega,by simp⟩,?_⟩
 rintro i h' ⟨rfl,h0,h1,h2⟩
 unfold AL
 by_cases hi:i < (xs.length:Int)
 ·rw [if_pos (by simpa using hi)]
  have hlt:i.toNat < xs.length:=by omega
  refine ⟨_,rfl,h0,hi,xs[i.toNat],?_,?_⟩
  ·rw [show ((⟨b,0,none⟩:Addr).add (i.toNat * 1))=⟨b,i.toNat,none⟩ from by rw [Nat.mul_one,add_mk,Nat.zero_add],B.cell]
   simp [List.getElem?_eq_getElem hlt]
  ·have hd:xs.drop i.toNat=xs[i.toNat] :: xs.drop (i.toNat + 1):=(List.drop_eq_getElem_cons hlt)
   rw [hd,orL] at h2
   by_cases hz:xs[i.toNat]≠0
   ·rw [if_pos (by simpa using hz)]
    rw [if_pos hz] at h2
    rw [← h2]; exact H
   ·rw [if_neg (by simpa using hz)]
    rw [if_neg hz] at h2
    have hw:IntKind.i64.wrap (i + 1)=i + 1:=aA (by omega) (by omega)
    rw [hw]
    refine ⟨⟨rfl,by omega,by omega,?_⟩,?_⟩
    ·rw [show (i + 1).toNat=i.toNat + 1 from by omega]; exact h2
    ·show xs.length - (i + 1).toNat < xs.length - i.toNat
     omega
 ·rw [if_neg (by simpa using hi)]
  rw [show i.toNat=xs.length from by omega,List.drop_length] at h2
  rw [h2] at H
  exact H
theorem add0 (b i j:Nat):(⟨b,i,none⟩:Addr).add j=⟨b,i + j,none⟩:=add_mk ..
theorem Il {x y:aG} {k:KP Int} {h:Heap} (H:∀ h',Ext h.size h h'->k (vk x y) h'):yO x y k h:=by
 unfold yO
 refine ⟨_,_,rfl,rfl,_,_,rfl,rfl,?_⟩
 have P0:=Blk.push h (aG.cs x) 87
 have P:=P0.pushed (.cells (aG.cs y).toArray 87)
 have Q:=Blk.push (h.push (.cells (aG.cs x).toArray 87)) (aG.cs y) 87
 have X:Ext h.size h ((h.push (.cells (aG.cs x).toArray 87)).push (.cells (aG.cs y).toArray 87)):=(Ext.push h _ (Nat.le_refl _)).trans (Ext.push _ _ (by simp))
 generalize hg:((h.push (.cells (aG.cs x).toArray 87)).push (.cells (aG.cs y).toArray 87))=g at *
 refine ⟨x.f_N,P.cell,y.f_N,Q.cell,x.aR,P.cell,y.aR,Q.cell,?_⟩
 refine NA ⟨Q.cell,P.cell,NT ⟨_,_,rfl,rfl,?_⟩⟩
 exact JG (xs:=[cI x.f_N y.f_N,cI x.aR y.aR]) (Blk.push g [Value.int .i64 (cI x.f_N y.f_N),Value.int .i64 (cI x.aR y.aR)] _) (by simp) (H _ (X.trans (Ext.push g _ X.size)))
theorem Iz {x y:ae} {k:KP Int} {h:Heap} (H:∀ h',Ext h.size h h'->k (Gw x y) h'):yw x y k h:=by
 unfold yw
 refine ⟨_,_,rfl,rfl,_,_,rfl,rfl,?_⟩
 have P0:=Blk.push h (ae.cs x) 89
 have P:=P0.pushed (.cells (ae.cs y).toArray 89)
 have Q:=Blk.push (h.push (.cells (ae.cs x).toArray 89)) (ae.cs y) 89
 have X:Ext h.size h ((h.push (.cells (ae.cs x).toArray 89)).push (.cells (ae.cs y).toArray 89)):=(Ext.push h _ (Nat.le_refl _)).trans (Ext.push _ _ (by simp))
 generalize hg:((h.push (.cells (ae.cs x).toArray 89)).push (.cells (ae.cs y).toArray 89))=g at *
 have ci:∀ {b:Nat} {z:ae},Blk g b (ae.cs z) 89->ai g ((⟨b,0,none⟩:Addr).add 3) (aG.cs z.dB):=fun {b z} R j v hj=>by
  rw [add0,add0,R.cell]
  match j,hj with
  | 0,hj=>exact hj
  | 1,hj=>exact hj
  | j + 2,hj=>simp [aG.cs] at hj
 refine ⟨x.ak,P.cell,y.ak,Q.cell,x.f_T,P.cell,y.f_T,Q.cell,x.dB,ci P,y.dB,ci Q,?_⟩
 refine Nu ⟨ci Q,ci P,Q.cell,P.cell,GH ⟨ci Q,ci P,Il fun g2 X2=>⟨_,_,rfl,rfl,?_⟩⟩⟩
 exact JG (xs:=[cS x.ak y.ak,cI x.f_T y.f_T,vk x.dB y.dB]) (Blk.push g2 [Value.int .i64 (cS x.ak y.ak),Value.int .i64 (cI x.f_T y.f_T),Value.int .i64 (vk x.dB y.dB)] _) (by simp)
  (H _ ((X.trans (X2.mono X.size)).trans (Ext.push g2 _ (Nat.le_trans X.size X2.size))))
end Go.Q.Yq
end
section
/- Maps. -/
namespace Go.Q
open Go.MapKept
/-! ### lists of keys and what they have -/
section
variable {K V:Type} [DecidableEq K]
def jP:List (K × V)->K->Option V
 | [],_=>none
 | p :: r,k=>if p.1=k then some p.2 else jP r k
def vB:List (K × V)->K->V->List (K × V)
 | [],k,v=>[(k,v)]
 | p :: r,k,v=>if p.1=k then (k,v) :: r else p :: vB r k v
theorem BH {k:K}:∀ {l:List (K × V)},(∀ p∈l,p.1≠k)->jP l k=none
 | [],_=>rfl
 | p :: r,h=>by
  unfold jP
  rw [if_neg (h p (by simp)),BH fun q hq=>h q (List.mem_cons_of_mem _ hq)]
theorem zf {k:K} {v:V}:∀ {l:List (K × V)},(∀ p∈l,p.1≠k)->vB l k v=l ++ [(k,v)]
 | [],_=>rfl
 | p :: r,h=>by
  unfold vB
  rw [if_neg (h p (by simp)),zf fun q hq=>h q (List.mem_cons_of_mem _ hq)]; rfl
theorem zh {k:K} {v:V}:∀ {l:List (K × V)} {j:Nat},l[j]? = some (k,v)->(l.map (·.1)).Nodup->jP l k=some v/\∀ u,vB l k u=l.set j (k,u)
 | [],j,h,_=>by simp at h
 | p :: r,0,h,_=>by
  simp at h; subst h
  simp [jP,vB]
 | p :: r,j + 1,h,hn=>by
  rw [List.map_cons,List.nodup_cons] at hn
  simp only [List.getElem?_cons_succ] at h
  have hne:p.1≠k:=fun e=>hn.1 (by rw [e]; exact List.mem_map.2 ⟨_,List.mem_of_getElem? h,rfl⟩)
  have:=zh h hn.2
  unfold jP vB
  rw [if_neg hne]
  exact ⟨this.1,fun u=>by rw [if_neg hne,this.2 u]; rfl⟩
end
/-! ### a map's object -/
def KI:Value->Value->Bool
 | .int k a,.int k' b=>decide (k=k') && decide (a=b)
 | .string a,.string b=>decide (a=b)
 | .bool a,.bool b=>a == b
 | _,_=>false
def Iy:List Value->List Value->Bool
 | [],[]=>true
 | a :: r,b :: s=>KI a b && Iy r s
 | _,_=>false
def su:Value->Value->Bool
 | .agg a,.agg b=>Iy a.toList b.toList
 | .int k a,.int k' b=>decide (k=k') && decide (a=b)
 | .string a,.string b=>decide (a=b)
 | .bool a,.bool b=>a == b
 | _,_=>false
theorem DN {d:TypeDesc} {a b:Value} (ha:IsKey d a) (hb:IsKey d b):su a b=true ↔ a=b:=by
 cases d <;> cases a <;> cases b <;> simp_all [IsKey,su]
def yA (d:TypeDesc) (h:Heap) (r:Nat) (l:List (Value × Value)):Prop :=
 ∃ (es:Array MapEntry) (ck:Nat),h[r]? = some (.map es ck)/\Stamped es ck/\(∀ x∈es.toList,IsKey d x.key)/\es.toList.map (fun e=>(e.key,e.val))=l
structure KOk {K:Type} (d:TypeDesc) (kf:K->Value):Prop where
 inj:∀ a b,kf a=kf b->a=b
 isK:∀ k,IsKey d (kf k)
theorem OD:KOk .string Value.string:=⟨fun a b h=>by cases h; rfl,fun _=>trivial⟩
theorem IK (k:IntKind):KOk (.int k) (Value.int k):=⟨fun a b h=>by cases h; rfl,fun _=>rfl⟩
def MapAt {K V:Type} (d:TypeDesc) (kf:K->Value) (vf:V->Value) (h:Heap):Option Nat->List (K × V)->Prop
 | none,l=>l=[]
 | some r,l=>yA d h r (l.map fun p=>(kf p.1,vf p.2))
def ry (h:Heap) (r:Nat) (key val:Value):Heap:=h.modify r fun
 | .map es ck=>(match es.toList.findIdx? (fun e=>su key e.key) with
  | some i=>.map (es.modify i fun e=>{ e with key,val }) ck
  | none=>.map (es.push { key,val,born:=ck }) (ck + 1))
 | o=>o
theorem vL {h:Heap} {r:Nat} {k v:Value}:(ry h r k v).size=h.size:=by simp [ry]
theorem sJ {h:Heap} {r g:Nat} {k v:Value} (hg:g≠r):(ry h r k v)[g]? = h[g]?:=by
 unfold ry; rw [Array.getElem?_modify,if_neg (fun e=>hg e.symm)]
theorem EB {h:Heap} {r:Nat} {k v:Value} {es:Array MapEntry} {ck:Nat} (hb:h[r]? = some (.map es ck)):(ry h r k v)[r]? = some (match es.toList.findIdx? (fun e=>su k e.key) with
  | some i=>.map (es.modify i fun e=>{ e with key:=k,val:=v }) ck
  | none=>.map (es.push { key:=k,val:=v,born:=ck }) (ck + 1)):=by
 unfold ry; rw [Array.getElem?_modify,if_pos rfl,hb]; rfl
theorem yA.mk0 (d:TypeDesc) (h:Heap):yA d (h.push (.map #[] 0)) h.size []:=⟨#[],0,by simp,stamped_empty 0,by simp,rfl⟩
theorem yA.old {d:TypeDesc} {h h':Heap} {r:Nat} {l:List (Value × Value)} (M:yA d h r l) (e:h'[r]? = h[r]?):yA d h' r l:=by
 obtain ⟨es,ck,h1,h2⟩:=M; exact ⟨es,ck,e.trans h1,h2⟩
theorem yA.lt {d:TypeDesc} {h:Heap} {r:Nat} {l:List (Value × Value)} (M:yA d h r l):r < h.size:=by
 obtain ⟨es,ck,h1,_⟩:=M; exact (Array.getElem?_eq_some_iff.1 h1).1
theorem CP {d:TypeDesc} {k:Value} (hk:IsKey d k):∀ (l:List MapEntry) (i:Nat),(∀ x∈l,IsKey d x.key) ->
  Instr.findNow d k l i=some ((l.findIdx? (fun e=>su k e.key)).bind fun j=>(l[j]?).map fun e=>(i + j,e.val))
 | [],_,_=>rfl
 | e :: es,i,h=>by
  have he:=h e (by simp)
  obtain ⟨r,hr,hiff⟩:=sameNow_of_keys hk he
  have hki:=DN hk he
  have ih:=CP hk es (i + 1) fun x hx=>h x (List.mem_cons_of_mem _ hx)
  unfold Instr.findNow
  rw [hr,List.findIdx?_cons]
  cases r with
  | true =>
   have:su k e.key=true:=hki.2 (hiff.1 rfl)
   simp [this]
  | false =>
   have:su k e.key=false:=by
    cases hc:su k e.key with
    | false=>rfl
    | true=>have:=hiff.2 (hki.1 hc); cases this
   simp only [this,ih]
   cases es.findIdx? (fun e=>su k e.key) with
   | none=>simp
   | some j=>simp [Nat.add_assoc,Nat.add_comm 1 j]
/-- where a key stands -/
theorem yA.find {K V:Type} [DecidableEq K] {d:TypeDesc} {kf:K->Value} {vf:V->Value} {h:Heap} {r:Nat} {l:List (K × V)} (KO:KOk d kf) (M:yA d h r (l.map fun p=>(kf p.1,vf p.2))) (k:K) :
  ∃ es ck,h[r]? = some (.map es ck)/\Stamped es ck/\(∀ x∈es.toList,IsKey d x.key)/\es.toList.map (fun e=>(e.key,e.val))=l.map (fun p=>(kf p.1,vf p.2))/\es.size=l.length/\(l.map (·.1)).Nodup /\
   ((es.toList.findIdx? (fun e=>su (kf k) e.key)=none/\(∀ p∈l,p.1≠k)/\Instr.findNow d (kf k) es.toList 0=some none) ∨
   ∃ j v e,es.toList.findIdx? (fun e=>su (kf k) e.key)=some j/\l[j]? = some (k,v)/\es[j]? = some e/\e.key=kf k/\e.val=vf v/\Instr.findNow d (kf k) es.toList 0=some (some (j,vf v))):=by
 obtain ⟨es,ck,h1,h2,h3,h4⟩:=M
 have hl:es.size=l.length:=by have:=congrArg List.length h4; simpa using this
 have hn:(l.map (·.1)).Nodup:=by
  have e1:es.toList.map (·.key)=(l.map (·.1)).map kf:=by
   have:=congrArg (List.map Prod.fst) h4
   simpa [List.map_map,Function.comp_def] using this
  have:=h2.2.2
  rw [e1] at this
  exact List.Pairwise.of_map kf (fun a b hab e=>hab (by rw [e])) this
 refine ⟨es,ck,h1,h2,h3,h4,hl,hn,?_⟩
 have hf:=CP (KO.isK k) es.toList 0 h3
 cases hc:es.toList.findIdx? (fun e=>su (kf k) e.key) with
 | none =>
  left
  rw [hc] at hf
  refine ⟨rfl,fun p hp e=>?_,hf⟩
  have hm:(kf p.1,vf p.2)∈es.toList.map (fun e=>(e.key,e.val)):=by rw [h4]; exact List.mem_map.2 ⟨p,hp,rfl⟩
  obtain ⟨x,hx,hxe⟩:=List.mem_map.1 hm
  have:=(List.findIdx?_eq_none_iff.1 hc) x hx
  have hk2:su (kf k) x.key=true:=(DN (KO.isK k) (h3 x hx)).2 (by have:=(Prod.mk.inj hxe).1; rw [this,e])
  rw [hk2] at this; cases this
 | some j =>
  right
  obtain ⟨hj,hk2,_⟩:=List.findIdx?_eq_some_iff_getElem.1 hc
  have hj2:j < l.length:=by simp at hj; omega
  have e1:es.toList[j]? = some es.toList[j]:=List.getElem?_eq_getElem hj
  have e2:=congrArg (fun z=>z[j]?) h4
  simp only [List.getElem?_map,e1,List.getElem?_eq_getElem hj2,Option.map_some,Option.some.injEq,Prod.mk.injEq] at e2
  have hkey:=(DN (KO.isK k) (h3 _ (List.getElem_mem hj))).1 hk2
  have hlk:l[j].1=k:=KO.inj _ _ (by rw [← e2.1,← hkey])
  refine ⟨j,l[j].2,es.toList[j],rfl,?_,by simp,hkey.symm,e2.2,?_⟩
  ·rw [List.getElem?_eq_getElem hj2,← hlk]
  ·rw [hf,hc]; simp only [Option.bind_some,e1,Option.map_some,Nat.zero_add,e2.2]
theorem yA.put {K V:Type} [DecidableEq K] {d:TypeDesc} {kf:K->Value} {vf:V->Value} {h:Heap} {r:Nat} {l:List (K × V)} (KO:KOk d kf) (M:yA d h r (l.map fun p=>(kf p.1,vf p.2))) (k:K) (v:V) :
  yA d (ry h r (kf k) (vf v)) r ((vB l k v).map fun p=>(kf p.1,vf p.2)):=by
 obtain ⟨es,ck,h1,h2,h3,h4,hl,hn,C⟩:=M.find KO k
 have hs:=EB (k:=kf k) (v:=vf v) h1
 rcases C with ⟨c1,c2,_⟩ | ⟨j,u,e,c1,c2,c3,c4,c5,_⟩
 ·rw [c1] at hs
  refine ⟨_,_,hs,stamped_push h2 fun x hx hxe=>?_,fun x hx=>?_,?_⟩
  ·have hm:(x.key,x.val)∈l.map fun p=>(kf p.1,vf p.2):=by rw [← h4]; exact List.mem_map.2 ⟨x,hx,rfl⟩
   obtain ⟨p,hp,hpe⟩:=List.mem_map.1 hm
   exact c2 p hp (KO.inj _ _ (by rw [(Prod.mk.inj hpe).1,hxe]))
  ·simp only [Array.toList_push,List.mem_append,List.mem_singleton] at hx
   rcases hx with hx | rfl
   ·exact h3 x hx
   ·exact KO.isK k
  ·rw [zf c2]; simp [h4]
 ·rw [c1] at hs
  refine ⟨_,_,hs,stamped_modify h2 j _ (fun _ _=>rfl) (fun x _ hx=>by rw [c3] at hx; cases hx; exact c4.symm),isKey_modify h3 j _ (fun x hx=>by rw [c3] at hx; cases hx; exact c4.symm),?_⟩
  rw [(zh c2 hn).2 v]
  apply List.ext_getElem?
  intro i
  have e2:=congrArg (fun z=>z[i]?) h4
  simp only [List.getElem?_map,Array.getElem?_toList] at e2
  simp only [List.getElem?_map,Array.getElem?_toList,Array.getElem?_modify,List.getElem?_set]
  by_cases hij:j=i
  ·subst hij
   have hj2:j < l.length:=(List.getElem?_eq_some_iff.1 c2).1
   simp [c3,hj2]
  ·simp [hij,e2]
section
variable {K V:Type} {d:TypeDesc} {kf:K->Value} {vf:V->Value} {h h':Heap} {r:Nat} {l:List (K × V)}
theorem MapAt.put [DecidableEq K] (KO:KOk d kf) (M:MapAt d kf vf h (some r) l) (k:K) (v:V):MapAt d kf vf (ry h r (kf k) (vf v)) (some r) (vB l k v):=yA.put KO M k v
theorem MapAt.mk0:MapAt d kf vf (h.push (.map #[] 0)) (some h.size) ([]:List (K × V)):=yA.mk0 d h
theorem MapAt.old (M:MapAt d kf vf h (some r) l) (e:h'[r]? = h[r]?):MapAt d kf vf h' (some r) l:=yA.old M e
theorem MapAt.ext {B:Nat} (M:MapAt d kf vf h (some r) l) (X:Ext B h h') (hb:r < B):MapAt d kf vf h' (some r) l:=yA.old M (X.2 r hb)
theorem MapAt.lt (M:MapAt d kf vf h (some r) l):r < h.size:=yA.lt M
theorem Ext.ry {B:Nat} (h:Heap) {r:Nat} (k v:Value) (hr:B<=r):Ext B h (ry h r k v):=⟨by rw [vL]; exact Nat.le_refl _,fun g hg=>sJ (by omega)⟩
end
/-! ### zero values -/
theorem OU {P:Program} {T:Tab} (hT:TOk P T) {t:Nat} {i:TI} {v:Value} (ht:tlk T t=some i) (ha:isA i.d=true) (hv:v = .agg i.z.toArray) (w:World):(zeroValue t).run P w = .ok v w:=by
 obtain ⟨u,h1,_,h3⟩:=CS hT ht w
 rw [hv,← h3 ha]; exact h1
theorem DC {P:Program} {T:Tab} (hT:TOk P T) {t:Nat} {i:TI} {v:Value} (ht:tlk T t=some i) (ha:isA i.d=false) (hv:i.z=[v]) (w:World):(zeroValue t).run P w = .ok v w:=by
 have h:=hT _ _ ht
 unfold Ip at h
 split at h
 ·rename_i dd ti h1 h2
  simp only [Bool.and_eq_true] at h
  have hz:=h.2
  unfold zob at hz
  split at hz
  ·simp [ha] at hz
  ·rename_i u hn hu
   simp only [Bool.and_eq_true,Bool.not_eq_true'] at hz
   have:=GG hz.2
   rw [hv] at this
   simp at this; subst this
   simp [zeroValue,typeInfo,h2,hu]
  ·cases hz
 ·cases h
/-! ### the operations -/
section
variable {P:Program} {T:Tab} {e:Env} {h:Heap} {o:Oper} {K V:Type} {d:TypeDesc} {kf:K->Value} {vf:V->Value} {m:Option Nat} {l:List (K × V)}
theorem Lx {t b:Nat} {h':Heap} (ho:o.op = .makeMap t none) (hb:b=h.size) (he:h'=h.push (.map #[] 0)):Yh P e h o (.map (some b)) h':=by
 intro ρ w hA hw
 subst hb; subst he; subst hw
 exact ⟨{ w with heap:=w.heap.push (.map #[] 0) },⟨rfl,rfl,rfl,rfl,fun _=>by first | exact Nat.le_refl _ | exact Nat.le_succ _⟩,.inl (by simp [execOp,ho,Instr.makeMap,newObj,Sem.run])⟩
theorem QL [DecidableEq K] {t kt et:Nat} {x y:Operand} {k:K} {z:V} (ho:o.op = .lookup t x y false) (hx:evO e x=some (.map m)) (hy:evO e y=some (kf k)) (ht:P.underlying t=some (.map kt et)) (hk:P.underlying kt=some d) (KO:KOk d kf)
  (hz:∀ w,(zeroValue et).run P w = .ok (vf z) w) (hm:MapAt d kf vf h m l):Yl P e h o (vf ((jP l k).getD z)):=by
 intro ρ w hA hw
 subst hw
 cases m with
 | none =>
  have hl:l=[]:=hm
  subst hl
  have hfk:(Instr.findKey kt (kf k) []).run P w = .ok none w:=run_findKey hk rfl
  simp [execOp,ho,hA _ _ hx,hA _ _ hy,Instr.lookup,run_underlying ht,run_checkKey hk (KO.isK k),hfk,hz,jP,Result.andThen]
 | some r =>
  obtain ⟨es,ck,h1,h2,h3,h4,hl,hn,C⟩:=yA.find KO hm k
  rcases C with ⟨_,c2,c3⟩ | ⟨j,u,e',_,c2,_,_,_,c3⟩
  ·have hfk:=run_findKey (w:=w) hk c3
   simp [execOp,ho,hA _ _ hx,hA _ _ hy,Instr.lookup,run_underlying ht,MapKept.run_getObj_map h1,run_checkKey hk (KO.isK k),hfk,hz,BH c2,Result.andThen]
  ·have hfk:=run_findKey (w:=w) hk c3
   simp [execOp,ho,hA _ _ hx,hA _ _ hy,Instr.lookup,run_underlying ht,MapKept.run_getObj_map h1,run_checkKey hk (KO.isK k),hfk,(zh c2 hn).1,Result.andThen]
theorem Jj [DecidableEq K] {t kt et:Nat} {x y:Operand} {k:K} {z:V} (ho:o.op = .lookup t x y true) (hx:evO e x=some (.map m)) (hy:evO e y=some (kf k)) (ht:P.underlying t=some (.map kt et)) (hk:P.underlying kt=some d) (KO:KOk d kf)
  (hz:∀ w,(zeroValue et).run P w = .ok (vf z) w) (hm:MapAt d kf vf h m l):Yl P e h o (.tuple #[vf ((jP l k).getD z),.bool (jP l k).isSome]):=by
 intro ρ w hA hw
 subst hw
 cases m with
 | none =>
  have hl:l=[]:=hm
  subst hl
  have hfk:(Instr.findKey kt (kf k) []).run P w = .ok none w:=run_findKey hk rfl
  simp [execOp,ho,hA _ _ hx,hA _ _ hy,Instr.lookup,run_underlying ht,run_checkKey hk (KO.isK k),hfk,hz,jP,Result.andThen]
 | some r =>
  obtain ⟨es,ck,h1,h2,h3,h4,hl,hn,C⟩:=yA.find KO hm k
  rcases C with ⟨_,c2,c3⟩ | ⟨j,u,e',_,c2,_,_,_,c3⟩
  ·have hfk:=run_findKey (w:=w) hk c3
   simp [execOp,ho,hA _ _ hx,hA _ _ hy,Instr.lookup,run_underlying ht,MapKept.run_getObj_map h1,run_checkKey hk (KO.isK k),hfk,hz,BH c2,Result.andThen]
  ·have hfk:=run_findKey (w:=w) hk c3
   simp [execOp,ho,hA _ _ hx,hA _ _ hy,Instr.lookup,run_underlying ht,MapKept.run_getObj_map h1,run_checkKey hk (KO.isK k),hfk,(zh c2 hn).1,Result.andThen]
theorem Qa [DecidableEq K] {t kt et r:Nat} {x y z:Operand} {k:K} {v:V} {h':Heap} (ho:o.op = .mapUpdate t x y z) (hx:evO e x=some (.map m)) (hy:evO e y=some (kf k)) (hz:evO e z=some (vf v)) (ht:P.underlying t=some (.map kt et)) (hk:P.underlying kt=some d) (KO:KOk d kf)
  (hr:m=some r) (hm:MapAt d kf vf h (some r) l) (he:h'=ry h r (kf k) (vf v)):Yh P e h o undef h':=by
 intro ρ w hA hw
 subst he; subst hw; subst hr
 obtain ⟨es,ck,h1,h2,h3,h4,hl,hn,C⟩:=yA.find KO hm k
 have hs:∀ o',(ry w.heap r (kf k) (vf v))[r]? = some o'->w.heap.setIfInBounds r o'=ry w.heap r (kf k) (vf v):=fun o' h=>by
  apply Array.ext_getElem?
  intro i
  have hlt:=(Array.getElem?_eq_some_iff.1 h1).1
  by_cases hi:i=r
  ·subst hi; rw [h]; simp [hlt]
  ·rw [sJ hi]; simp [Ne.symm hi]
 have hat:=EB (k:=kf k) (v:=vf v) h1
 rcases C with ⟨c1,c2,c3⟩ | ⟨j,u,e',c1,c2,c4,c5,c6,c3⟩
 ·rw [c1] at hat
  have hfk:=run_findKey (w:=w) hk c3
  refine ⟨{ w with heap:=ry w.heap r (kf k) (vf v) },⟨rfl,rfl,rfl,rfl,fun _=>by first | exact Nat.le_refl _ | exact Nat.le_succ _⟩,.inr ⟨?_,rfl⟩⟩
  simp [execOp,ho,hA _ _ hx,hA _ _ hy,hA _ _ hz,Instr.mapUpdate,run_underlying ht,MapKept.run_getObj_map h1,run_checkKey hk (KO.isK k),hfk,MapKept.run_setObj_map _ h1,hs _ hat,Result.andThen]
 ·rw [c1] at hat
  have hfk:=run_findKey (w:=w) hk c3
  have hst:(Instr.keyThatStays (kf k) (kf k)).run P w = .ok (kf k) w:=run_keyThatStays (KO.isK k)
  refine ⟨{ w with heap:=ry w.heap r (kf k) (vf v) },⟨rfl,rfl,rfl,rfl,fun _=>by first | exact Nat.le_refl _ | exact Nat.le_succ _⟩,.inr ⟨?_,rfl⟩⟩
  simp [execOp,ho,hA _ _ hx,hA _ _ hy,hA _ _ hz,Instr.mapUpdate,run_underlying ht,MapKept.run_getObj_map h1,run_checkKey hk (KO.isK k),hfk,c4,c5,hst,MapKept.run_setObj_map _ h1,hs _ hat,Result.andThen]
end
end Go.Q
end
section
namespace Go.Q
theorem SlcAt.ext {h h':Heap} {s:Slc} {vs:List Value} (a:SlcAt h s vs) (X:Ext h.size h h'):SlcAt h' s vs:=⟨a.1,fun b hb j w hj=>X.cellAt (a.2 b hb j w hj)⟩
/-- a part of a block -/
theorem Blk.part {h:Heap} {b E o n:Nat} {cs ys:List Value} (k:Blk h b cs E) (hd:(cs.drop o).take n=ys):ai h ⟨b,o,none⟩ ys:=by
 intro j v hj
 rw [add_mk,k.cell]
 rw [← hd,List.getElem?_take] at hj
 split at hj
 ·rw [List.getElem?_drop] at hj; exact hj
 ·cases hj
theorem Blk.slc {h:Heap} {b E o n m c:Nat} {cs ys:List Value} (k:Blk h b cs E) (hd:(cs.drop o).take n=ys):SlcAt h ⟨some ⟨b,o,none⟩,m,c⟩ ys :=
 ⟨(fun hn=>by cases hn),fun a ha j v hj=>by cases ha; exact k.part hd j v hj⟩
/-- a row of structs in memory -/
structure LsAt {α:Type} (cs:α->List Value) (w:Nat) (h:Heap) (s:Slc) (xs:List α):Prop where
 l:s.len=xs.length
 at':∀ (i:Nat) x,xs[i]? = some x->∃ a,s.a=some a/\ai h (a.add (i * w)) (cs x)
theorem ai.ext {h h':Heap} {a:Addr} {vs:List Value} (c:ai h a vs) (X:Ext h.size h h'):ai h' a vs:=fun j v hj=>X.cellAt (c j v hj)
theorem LsAt.ext {α:Type} {cs:α->List Value} {w:Nat} {h h':Heap} {s:Slc} {xs:List α} (L:LsAt cs w h s xs) (X:Ext h.size h h'):LsAt cs w h' s xs :=
 ⟨L.l,fun i x hx=>by obtain ⟨a,h1,h2⟩:=L.at' i x hx; exact ⟨a,h1,h2.ext X⟩⟩
end Go.Q
end
section
/- slices.Collect of maps.Values of a map of pieces, over the layer's heap. -/
namespace Go.Q.Yq
open Go.Proofs Go.RowKit Go.MapKept
instance:Inhabited ae:=⟨⟨⟨#[]⟩,0,0,⟨0,0⟩⟩⟩
def of5 (x:YwYq.PT):ae:=⟨x.1,x.2.1,x.2.2.1,⟨x.2.2.2.1,x.2.2.2.2⟩⟩
def to5 (x:ae):YwYq.PT:=(x.ak,x.f_T,x.f_V,x.dB.f_N,x.dB.aR)
def IB (x:ae):Value:=.agg (ae.cs x).toArray
theorem KL {x y:ae} (h:IB x=IB y):x=y:=by
 obtain ⟨a,b,c,d,e⟩:=x
 obtain ⟨a',b',c',d',e'⟩:=y
 simp [IB,ae.cs,aG.cs] at h
 obtain ⟨rfl,rfl,rfl,rfl,rfl⟩:=h
 rfl
/-- a row that a slice owns, in the layer's words -/
theorem Ej {W:World} {B E w n:Nat} {v:Value} {xs:List Value} (o:W.ownsRow B E w v n xs):∃ s:Slc,v=s.v/\Row B W.heap E w s xs/\s.len=n:=by
 obtain ⟨hl,⟨rfl,rfl⟩ | ⟨g,cap,cur,rfl,hB,hg,hc,hm,hs,ht⟩⟩:=o
 ·exact ⟨⟨none,0,0⟩,rfl,⟨by simpa using hl,by simp [maxLen],.inl ⟨rfl,rfl,rfl⟩⟩,rfl⟩
 ·exact ⟨⟨some ⟨g,0,none⟩,n,cap⟩,rfl,⟨hl,hm,.inr ⟨g,cur.toList,rfl,hB,⟨0,0,by simpa using hg,.inl (Nat.le_refl _)⟩,hc,by simp [hs],ht⟩⟩,rfl⟩
theorem Ab {α β:Type} {f:α->β} (inj:∀ a b,f a=f b->a=b):∀ {l m:List α},(l.map f).Perm (m.map f)->l.Perm m:=by
 intro l
 induction l with
 | nil=>intro m h; have:=h.length_eq; simp at this; cases m with
  | nil=>exact .nil
  | cons a r=>simp at this
 | cons a r ih =>
  intro m h
  have hm:f a∈m.map f:=h.subset (by simp)
  obtain ⟨b,hb,e⟩:=List.mem_map.1 hm
  have:b=a:=inj _ _ e
  subst this
  obtain ⟨s,t,rfl⟩:=List.append_of_mem hb
  have h2:((b :: r).map f).Perm ((b :: (s ++ t)).map f):=h.trans ((List.perm_middle).map f)
  exact ((ih ((List.perm_cons (f b)).1 h2)).cons b).trans List.perm_middle.symm
/-- what slices.Collect does: it is asked of maps.Values of a map of pieces -/
def iP (f:Value) (k:KP Slc) (h:Heap):Prop :=
 ∃ (bx r ck:Nat) (es:Array MapEntry) (l:List ae),f = .func (.func 71) #[] #[.pointer (some ⟨bx,0,none⟩)]/\ah h ⟨bx,0,none⟩=some (.map (some r))/\h[r]? = some (.map es ck)/\Stamped es ck /\
  es.toList.map (·.val)=l.map IB/\l.length<=1000000/\∀ (s:Slc) (xs:List ae) h',xs.Perm l->Row h.size h' 89 5 s (xs.flatMap ae.cs)->s.len=xs.length->Ext h.size h h'->k s h'
theorem vC:aF Tryz.prog 69:=⟨_,Tryz.func69,by kernel_rfl,by kernel_rfl⟩
theorem uL (f:Value) (k:KP Slc) (h:Heap) (H:iP f k h):CallsH Tryz.prog 69 #[f] h (fun v h'=>∃ r:Slc,v=Slc.v r/\k r h'):=by
 obtain ⟨bx,r,ck,es,l,rfl,hb,hm,st,hv,hl,H⟩:=H
 intro w hw
 obtain ⟨s1,s2,s3⟩:=(stamped_iff es ck).1 st
 have hbl:bx < w.heap.size:=by rw [hw]; exact om hb
 have hes:es.size=l.length:=by have:=congrArg List.length hv; simpa using this
 have hcs:∀ x∈es.toList,∃ q:YwYq.PT,x.val=YwYq.pv q:=fun x hx=>by
  have:x.val∈l.map IB:=by rw [← hv]; exact List.mem_map.2 ⟨x,hx,rfl⟩
  obtain ⟨p,_,e⟩:=List.mem_map.1 this
  exact ⟨to5 p,by rw [← e]; rfl⟩
 refine (callsIn_wide.1 (YwYq.collect_in Fence.wide 5 trivial trivial trivial rfl (by omega) bx r ck es w hcs s1 s2 (by omega) hbl (by subst hw; exact hb) (by subst hw; exact hm))).mono ?_
 rintro e w' ⟨v,ys,rfl,hp,hrow,B⟩
 obtain ⟨s,rfl,R,hn⟩:=Ej hrow
 subst hw
 refine ⟨_,rfl,⟨B.os,B.tape,B.output,rfl,fun k=>by cases k⟩,s,rfl,H s (ys.map of5) w'.heap ?_ ?_ (by simpa using hn) ⟨B.size,B.block⟩⟩
 ·have h1:((ys.map of5).map IB).Perm (l.map IB):=by
   rw [List.map_map,← hv]; exact hp
  exact Ab (fun _ _=>KL) h1
 ·rw [List.flatMap_map]; exact R
end Go.Q.Yq
end
