/- A part of the proof of TopWritten, printed small: TSpan SortLay TSortS TNormP. -/
import Derived.Test.YtgboomjahhnldaaGreatDoorZ06
import Derived.Test.YtgboomjahhnldaaGreatDoorZ12
import Derived.Shelf.SlGeneric
import Derived.Shelf.SlSortCmp.WholeK
import Derived.Ground.SlsfProg
import Derived.Test.YtgboomjahhnldaaGreatDoorProg
set_option maxRecDepth 100000
set_option maxHeartbeats 25600000
set_option linter.all false
namespace Go.Proofs.YtgboomjahhnldaaGreatDoor
open Go.Proofs.Tryz Go.RowKit
structure bK where
 f:Int
 t:Int
def bK.cells(x:bK):List Value:=[.int .i64 x.f,.int .i64 x.t]
def cK:El prog bK:={t:=79,e:=114,m:=2,bytes:=16,z:=.agg #[.int .i64 0,.int .i64 0],E:=bK.cells,hE:=fun _=>rfl,h1:=by simp[bK.cells,Value.oneCell'],ht:=by kernel_rfl,hi:=by kernel_rfl,hz:=rfl,hm:=by decide,hb:=by decide,agg:=true,hagg:=isAgg114}
theorem RY{w:World}{A:Option Addr}{xs:List bK}(h:Sl cK w A xs){k:Nat}(hk:k<xs.length):∃b off,A=some ⟨b,off,none⟩/\b<w.heap.size/\w.cell? ⟨b,off+k*2,none⟩=some (.int .i64 xs[k].f)/\w.cell? ⟨b,off+k*2+1,none⟩=some (.int .i64 xs[k].t):=by
 obtain⟨b,off,hA,hb,hc⟩:=h.at_ hk;exact⟨b,off,hA,hb,by simpa[cK]using hc 0 _ rfl,hc 1 _ rfl⟩
def dz(l:List bK)(d:Int):Bool:=l.any fun x=>decide (x.f<=d)&&decide (d<x.t)
structure Norm (l:List bK):Prop where
 up:l.Pairwise fun x y=>x.t<y.f
 ok:∀x∈l,0<=x.f/\x.f<x.t/\x.t<=1048577
theorem Norm.nil:Norm []:=⟨List.Pairwise.nil,by simp⟩
theorem Norm.tail{x:bK}{l:List bK}(h:Norm (x::l)):Norm l:=⟨(List.pairwise_cons.1 h.up).2,fun y hy=>h.ok y (by simp[hy])⟩
theorem RZ:∀(l:List bK) (lo:Int),Norm l->0<=lo->lo<=1048577->(∀x∈l,lo<=x.f)->(l.length:Int)<=1048577-lo
 |[],lo,_,_,h,_=>by simp;omega
 |x::l,lo,h,h0,h1,h2=>by
  have hx:=h.ok x (by simp);have hlo:=h2 x (by simp);have:=RZ l x.t h.tail (by omega) (by omega) (fun y hy=>by have:=(List.pairwise_cons.1 h.up).1 y hy;omega);simp only[iX];omega
theorem Norm.len{l:List bK}(h:Norm l):l.length<=1048577:=by
 have:=RZ l 0 h (by omega) (by omega) (fun x hx=>(h.ok x hx).1);omega
theorem Norm.lt{l:List bK}(h:Norm l){i j:Nat}(hij:i<j)(hj:j<l.length):(l[i]'(by omega)).t<l[j].f:=List.pairwise_iff_getElem.1 h.up i j (by omega) hj hij
structure Cut (l:List bK) (d:Int) (j:Nat):Prop where
 le:j<=l.length
 low:∀k (h:k<l.length),k<j->(l[k]'h).f<d
 high:∀k (h:k<l.length),j<=k->d<=(l[k]'h).f
def BO(l:List bK)(d:Int)(j:Nat):Bool:=match l[j]? with|some x=>decide (x.f=d)|none=>false
theorem ahT{l:List bK}{d:Int}{j:Nat}(hn:Norm l)(h:Cut l d j):dz l d=(BO l d j||(decide (0<j)&&(match l[j-1]? with|some x=>decide (d<x.t)|none=>false))):=by
 have hm:dz l d=true↔∃k,∃h:k<l.length,(l[k]'h).f<=d/\d<(l[k]'h).t:=by
  unfold dz;rw[List.any_eq_true]
  constructor
  ·rintro⟨x,hx,h2⟩
   obtain⟨k,hk,rfl⟩:=List.getElem_of_mem hx;simp only[Bool.and_eq_true,decide_eq_true_eq]at h2;exact⟨k,hk,h2⟩
  ·rintro⟨k,hk,h2⟩
   exact⟨l[k],dW hk,by simpa using h2⟩
 have hj:(BO l d j||(decide (0<j)&&(match l[j-1]? with|some x=>decide (d<x.t)|none=>false)))=true↔(∃h:j<l.length,(l[j]'h).f=d)∨(0<j/\∃h:j-1<l.length,d<(l[j-1]'h).t):=by
  unfold BO;rw[Bool.or_eq_true,Bool.and_eq_true,decide_eq_true_eq];refine or_congr ?_ (and_congr Iff.rfl ?_)
  ·rcases gM j l.length with hlt|hge
   ·rw[fP hlt];simp[hlt]
   ·rw[xB hge];simp;intro h;omega
  ·rcases gM (j-1) l.length with hlt|hge
   ·rw[fP hlt];simp[hlt]
   ·rw[xB hge];simp;intro h;omega
 apply Bool.eq_iff_iff.2;rw[hm,hj]
 constructor
 ·rintro⟨k,hk,h1,h2⟩
  rcases gM k j with hkj|hkj
  ·have hle:=h.le
   refine .inr ⟨by omega,by omega,?_⟩;rcases gM k (j-1)with hk1|hk1
   ·have h3:=hn.lt hk1 (by omega)
    have h4:=h.low (j-1) (by omega) (by omega);have h5:=(hn.ok (l[j-1]'(by omega)) (dW _)).2.1;omega
   ·have e:k=j-1:=by omega
    subst e;exact h2
  ·have h3:=h.high k hk hkj
   rcases gM j k with hjk|hjk
   ·have h4:=hn.lt hjk hk
    have h5:=h.high j (by omega) (aI _);have h6:=(hn.ok (l[j]'(by omega)) (dW _)).2.1;omega
   ·have e:k=j:=by omega
    subst e;exact .inl ⟨hk,by omega⟩
 ·rintro(⟨h1,h2⟩|⟨h1,h2,h3⟩)
  ·have h4:=(hn.ok _ (dW h1)).2.1
   exact⟨j,h1,by omega,by omega⟩
  ·have h4:=h.low (j-1) h2 (by omega)
   exact⟨j-1,h2,by omega,h3⟩
theorem R3(x:bK)(d:Int)(w:World):Calls prog 49 #[.agg x.cells.toArray,.int .i64 d] w fun e w'=>e=.returned (.int .i64 (Lib.compareInt x.f d))/\Ext w w':=by
 have Hc:=ah (fun w=>Tryz.cmp_Compare_int x.f d w);generalize Lib.compareInt x.f d=C at Hc⊢;obtain⟨f,t⟩:=x;have hx1:Ext w (w.alloc (.cells #[.int .i64 f,.int .i64 t] 114)):=(Ext.refl w).alloc _;simp only[bK.cells];go_enter func49,ntmps49
 go_wp2_with fail
 refine(Hc.out _).mono ?_;rintro e w2 ⟨rfl,rfl⟩;go_wp2;go_ret;exact⟨rfl,hx1⟩
theorem Vo(l:List bK)(A:Option Addr)(c:Nat)(d:Int)(w:World)(hs:Sl cK w A l)(hn:Norm l):
 Calls prog 48 #[.slice A l.length c,.int .i64 d,.func (.func 49) #[] #[]] w fun e w'=>∃j:Nat,e=.returned (.tuple #[.int .i64 (j:Nat),.bool (BO l d j)])/\Cut l d j/\Ext w w':=by
 have hl:=hn.len;have Hn:=ah hn;clear hn;go_enter func48,ntmps48
 go_wp2
 go_loopw [9,10] (fun vi vj wr=>∃i j:Nat,i<=j/\j<=l.length/\vi=.int .i64 (i:Nat)/\vj=.int .i64 (j:Nat)/\Ext w wr/\Hid (∀k (h:k<l.length),k<i->(l[k]'h).f<d)/\Hid (∀k (h:k<l.length),j<=k->d<=(l[k]'h).f)) (fun vi vj _=>(intOf vj).toNat-(intOf vi).toNat)
 case atStart=>exact⟨0,l.length,bI _,aI _,rfl,rfl,Ext.refl _,ah (fun k h h2=>by omega),ah (fun k h h2=>by omega)⟩
 case round=>
  obtain⟨i,j,hij,hjl,rfl,rfl,hext,HL,HH⟩:=hrel;by_cases hlt:i<j
  ·have d2:=eY i j
   obtain⟨h,hh⟩:∃h,h=(i+j)/2:=⟨_,rfl⟩;have eh:((i:Int)+(j:Int))/2=((h:Nat):Int):=by omega
   have hh1:i<=h:=by omega
   have V4:h<j:=by omega
   have hhl:h<l.length:=by omega
   clear hh;obtain⟨b,off,hA,hb,c0,c1⟩:=RY (hs.ext hext) hhl;have HA:=ah hA;have Hc:=ah (R3 l[h] d wr)
   have adC:=ah (show l[h].f<d->∀k (hk:k<l.length),k<h+1->(l[k]'hk).f<d from fun hf k hk hk2=>by
    rcases gM k h with h3|h3
    ·have h4:=Hn.out.lt h3 hhl
     have h5:=(Hn.out.ok _ (dW hk)).2.1;omega
    ·have e:k=h:=by omega
     subst e;exact hf)
   have XV:=ah (show ¬l[h].f<d->∀k (hk:k<l.length),h<=k->d<=(l[k]'hk).f from fun hf k hk hk2=>by
    rcases gM h k with h3|h3
    ·have h4:=Hn.out.lt h3 hk
     have h5:=(Hn.out.ok _ (dW hhl)).2.1;omega
    ·have e:k=h:=by omega
     subst e;omega)
   obtain⟨q,hq⟩:=aH (l[h]);rw[hq]at c0 c1 Hc adC XV;obtain⟨qf,qt⟩:=q;have NN:=ah (show(Lib.compareInt qf d<0↔qf<d) by unfold Lib.compareInt;split<;>(try split)<;>omega);simp only[bK.cells]at Hc;dsimp only at c0 c1 adC XV Hc;generalize Lib.compareInt qf d=C at Hc NN;clear hA hq;rw[HA.out];go_wp2_with fail
   refine(Hc.out).mono ?_;rintro e w2 ⟨rfl,hx2⟩;by_cases hC:C<0
   ·have e1:decide (C<0)=true:=bJ hC
    have HL2:=ah (adC.out (NN.out.1 hC));clear hC;go_wp2;go_roundw
    case rel=>exact⟨h+1,j,by omega,hjl,by go_num,rfl,hext.trans hx2,HL2,HH⟩
    case measure=>simp[intOf];omega
   ·have e1:decide (C<0)=false:=aY hC
    have Lr:=ah (XV.out (Int.not_lt.1 (fun h=>hC (NN.out.2 h))));clear hC;go_wp2;go_roundw
    case rel=>exact⟨i,h,hh1,by omega,rfl,rfl,hext.trans hx2,HL,Lr⟩
    case measure=>simp[intOf];omega
  ·have hji:j=i:=by omega
   subst hji;have d2:=fT j j;have GI:=ah (show Cut l d j from⟨hjl,HL.out,HH.out⟩);by_cases hjn:j<l.length
   ·have d3:=eY j l.length
    obtain⟨b,off,hA,hb,c0,c1⟩:=RY (hs.ext hext) hjn;have HA:=ah hA;have Hc:=ah (R3 l[j] d wr);have adD:=ah (show BO l d j=decide (l[j].f=d) by unfold BO;rw[fP hjn]);obtain⟨q,hq⟩:=aH (l[j]);rw[hq]at c0 c1 Hc adD;obtain⟨qf,qt⟩:=q;have NN:=ah (show decide (Lib.compareInt qf d=0)=decide (qf=d)from decide_eq_decide.2 (by unfold Lib.compareInt;split<;>(try split)<;>omega));simp only[bK.cells]at Hc;dsimp only at c0 c1 Hc adD;generalize Lib.compareInt qf d=C at Hc NN;obtain⟨HB,hHB⟩:=aH (decide (C=0));have e2:(C==0)=HB:=by rw[<-hHB];rfl
    have Hf:=ah (show BO l d j=HB by rw[adD.out,<-NN.out,hHB]);clear hA hq;rw[HA.out];go_wp2_with fail
    refine(Hc.out).mono ?_;rintro e w2 ⟨rfl,hx2⟩;go_wp2
    go_ret2
    exact⟨j,by rw[Hf.out];simp[hHB],GI.out,hext.trans hx2⟩
   ·have d3:=fT j l.length
    have Hf:=ah (show BO l d j=false by unfold BO;rw[xB (by omega)]);have d4:decide (j<l.length)=false:=aY hjn;go_wp2
    go_ret2
    exact⟨j,by rw[Hf.out];first|rfl|simp|trace_state,GI.out,hext⟩
theorem NP(l:List bK)(A:Option Addr)(c:Nat)(d:Int)(w:World)(hs:Sl cK w A l)(hn:Norm l):
 Calls prog 39 #[.slice A l.length c,.int .i64 d] w fun e w'=>e=.returned (.bool (dz l d))/\Ext w w':=by
 have Hb:=ah (Vo l A c d w hs hn);have hnl:=hn.len;obtain⟨M,hM⟩:=aH (dz l d);have Hn:=ah (show∀j,Cut l d j->M=(BO l d j||(decide (0<j)&&(match l[j-1]? with|some x=>decide (d<x.t)|none=>false)))from fun j h=>by rw[<-hM];exact ahT hn h);rw[hM];clear hn hM;go_enter func39,ntmps39
 go_wp2_with fail
 refine(Hb.out).mono ?_;rintro e w2 ⟨j,rfl,hcut,hx2⟩;have hm:=Hn.out j hcut;have hle:=hcut.le;cases hh:BO l d j with
 |true=>
  rw[hh,Bool.true_or]at hm;subst hm;go_wp2;go_ret;exact⟨rfl,hx2⟩
 |false=>
  rw[hh,Bool.false_or]at hm;rcases Nat.eq_zero_or_pos j with h0|h0
  ·subst h0
   simp only[Nat.lt_irrefl,decide_false,Bool.false_and]at hm;subst hm;go_wp2;go_ret;exact⟨rfl,hx2⟩
  ·have hj1:j-1<l.length:=by omega
   obtain⟨b,off,hA,hb,c0,c1⟩:=RY (hs.ext hx2) hj1;rw[bJ h0,Bool.true_and,fP hj1]at hm;simp only at hm;have HA:=ah hA;have Hm:=ah hm;have es:((j:Nat):Int)-1=((j-1:Nat):Int):=by omega
   have hl9:=hnl;have ew:wrap64 ((j-1:Nat):Int)=((j-1:Nat):Int):=by unfold wrap64;omega
   have e1:decide (0<j)=true:=bJ h0;have e2:=eY (0:Int) ((j:Nat):Int);generalize l[j-1].t=T at c1 Hm;clear hm hA;rw[HA.out];go_wp2;go_ret;exact⟨by rw[Hm.out];rfl,hx2⟩
end Go.Proofs.YtgboomjahhnldaaGreatDoor
namespace Go.Proofs
open Go.Shelf
def Tryz.sortItem_ren:Go.Shelf.Ren:=⟨fun|6=>50|15=>62|14=>61|28=>91|29=>92|20=>83|21=>84|22=>85|23=>86|24=>87|25=>88|26=>89|27=>90|46=>152|47=>153|48=>154|49=>155|50=>156|57=>202|n=>n,fun|22=>79|24=>114|25=>117|3=>3|39=>130|0=>0|53=>158|55=>160|4=>4|46=>152|45=>151|50=>111|5=>5|9=>9|66=>193|70=>197|76=>241|77=>242|n=>n,fun|n=>n⟩
theorem Tryz.sortItem:Go.Proofs.SlLaysF0.n6 prog Tryz.sortItem_ren:={
 mixed:=by kernel_rfl
 f6:=⟨Tryz.f50.name,by decide,func50.trans (congrArg some (by kernel_rfl))⟩
 f14:=⟨Tryz.f61.name,by decide,func61.trans (congrArg some (by kernel_rfl))⟩
 f15:=func62.trans (congrArg some (by kernel_rfl))
 f20:=⟨Tryz.f83.name,by decide,func83.trans (congrArg some (by kernel_rfl))⟩
 f21:=⟨Tryz.f84.name,by decide,func84.trans (congrArg some (by kernel_rfl))⟩
 f22:=⟨Tryz.f85.name,by decide,func85.trans (congrArg some (by kernel_rfl))⟩
 f23:=⟨Tryz.f86.name,by decide,func86.trans (congrArg some (by kernel_rfl))⟩
 f24:=⟨Tryz.f87.name,by decide,func87.trans (congrArg some (by kernel_rfl))⟩
 f25:=⟨Tryz.f88.name,by decide,func88.trans (congrArg some (by kernel_rfl))⟩
 f26:=⟨Tryz.f89.name,by decide,func89.trans (congrArg some (by kernel_rfl))⟩
 f27:=⟨Tryz.f90.name,by decide,func90.trans (congrArg some (by kernel_rfl))⟩
 f28:=func91.trans (congrArg some (by kernel_rfl))
 f29:=func92.trans (congrArg some (by kernel_rfl))
 f46:=⟨Tryz.f152.name,by decide,func152.trans (congrArg some (by kernel_rfl))⟩
 f47:=func153.trans (congrArg some (by kernel_rfl))
 f48:=func154.trans (congrArg some (by kernel_rfl))
 f49:=⟨Tryz.f155.name,by decide,func155.trans (congrArg some (by kernel_rfl))⟩
 f50:=⟨Tryz.f156.name,by decide,func156.trans (congrArg some (by kernel_rfl))⟩
 f57:=⟨Tryz.f202.name,by decide,func202.trans (congrArg some (by kernel_rfl))⟩
 t0:=underlying0
 a0:=isAgg0
 z0:=sizeOf0
 v0:=Tryz.zeroValue0
 t3:=underlying3
 a3:=isAgg3
 z3:=sizeOf3
 v3:=Tryz.zeroValue3
 t4:=underlying4
 a4:=isAgg4
 z4:=sizeOf4
 v4:=Tryz.zeroValue4
 t5:=underlying5
 a5:=isAgg5
 z5:=sizeOf5
 v5:=Tryz.zeroValue5
 t9:=underlying9
 a9:=isAgg9
 z9:=sizeOf9
 v9:=Tryz.zeroValue9
 t22:=underlying79
 a22:=isAgg79
 z22:=sizeOf79
 v22:=Tryz.zeroValue79
 t25:=underlying117
 a25:=isAgg117
 z25:=sizeOf117
 v25:=Tryz.zeroValue117
 t39:=underlying130
 a39:=isAgg130
 z39:=sizeOf130
 v39:=Tryz.zeroValue130
 t45:=underlying151
 a45:=isAgg151
 z45:=sizeOf151
 v45:=Tryz.zeroValue151
 t46:=underlying152
 a46:=isAgg152
 z46:=sizeOf152
 v46:=Tryz.zeroValue152
 t50:=underlying111
 a50:=isAgg111
 z50:=sizeOf111
 v50:=Tryz.zeroValue111
 t53:=underlying158
 a53:=isAgg158
 z53:=sizeOf158
 v53:=Tryz.zeroValue158
 t55:=underlying160
 a55:=isAgg160
 z55:=sizeOf160
 v55:=Tryz.zeroValue160
 t66:=underlying193
 a66:=isAgg193
 z66:=sizeOf193
 v66:=Tryz.zeroValue193
 t70:=underlying197
 a70:=isAgg197
 z70:=sizeOf197
 v70:=Tryz.zeroValue197
 t76:=underlying241
 a76:=isAgg241
 z76:=sizeOf241
 v76:=Tryz.zeroValue241
 t77:=underlying242
 a77:=isAgg242
 z77:=sizeOf242
 v77:=Tryz.zeroValue242}
end Go.Proofs
namespace Go.Proofs.YtgboomjahhnldaaGreatDoor.Ec
open Go.Proofs.Tryz
open Go.RowKit
instance:Inhabited bK:=⟨⟨0,0⟩⟩
open Go.Sort in
theorem aar(x y:bK)(w:World):Calls prog 51 #[.agg (cK.E x).toArray,.agg (cK.E y).toArray] w fun e w'=>e=.returned (.int .i64 (Lib.compareInt x.f y.f))/\∃q os',w'=grow (w.drewN q) os':=by
 have hc1:=fun w=>Tryz.cmp_Compare_int x.f y.f w;generalize Lib.compareInt x.f y.f=ca at hc1⊢;have HC1:=ah hc1;clear hc1;obtain⟨ww,hww⟩:=aH (((w.alloc (.cells #[.int .i64 x.f,.int .i64 x.t] 114)).alloc (.cells #[.int .i64 y.f,.int .i64 y.t] 114)))
 have hcl:∀W:World,W=ww.drew->W.cell? ⟨w.heap.size,0,none⟩=some (.int .i64 x.f)/\W.cell? ⟨w.heap.size+1,0,none⟩=some (.int .i64 y.f):=fun W hW=>by
  subst hW
  have e1:ww.heap[w.heap.size]? =some (.cells #[.int .i64 x.f,.int .i64 x.t] 114 (0,0)):=by
   rw[<-hww,heap_alloc_old _ _ (by simp)];exact heap_alloc_new w _
  have e2:ww.heap[w.heap.size+1]? =some (.cells #[.int .i64 y.f,.int .i64 y.t] 114 (0,0)):=by
   rw[<-hww];have:=heap_alloc_new (w.alloc (.cells #[.int .i64 x.f,.int .i64 x.t] 114)) (.cells #[.int .i64 y.f,.int .i64 y.t] 114);simpa using this
  have hd:=Ext.drew (Ext.refl ww);exact⟨(hd.cell (p:=⟨w.heap.size,0,none⟩) (ay e1)).trans (by simp[World.cell?,e1]),(hd.cell (p:=⟨w.heap.size+1,0,none⟩) (ay e2)).trans (by simp[World.cell?,e2])⟩
 obtain⟨hx1,hy1⟩:=hcl _ rfl;have Hww:=ah hww;clear hcl hww;simp only[cK,bK.cells];go_enter func51,ntmps51
 go_wp2_with fail
 rw[Hww.out];refine(HC1.out _).mono ?_;rintro e w2 ⟨rfl,rfl⟩;go_wp2;go_ret;refine⟨rfl,0,#[.cells #[.int .i64 x.f,.int .i64 x.t] 114,.cells #[.int .i64 y.f,.int .i64 y.t] 114],?_⟩;rw[<-Hww.out,alloc_eq_grow,alloc_eq_grow,grow_grow];rfl
open Go.Sort
def LW(x y:bK):Bool:=decide (x.f<y.f)
theorem GJ(x y:bK):LW x y=true↔x.f<y.f:=by simp[LW]
theorem GK(x y:bK):LW x y=false↔¬x.f<y.f:=by rw[<-GJ];simp
def cfS(x y:bK):Int:=Lib.compareInt x.f y.f
theorem ltS(x y:bK):ltOf cfS x y=LW x y:=by
 unfold ltOf cfS Lib.compareInt;rw[Bool.eq_iff_iff,GJ];by_cases h1:x.f<y.f
 ·simp[h1]
 ·by_cases h2:y.f<x.f
  ·simp[h1,h2]
  ·simp[h1,h2]
open Go.Sort in
theorem aqZ:SWO (ltOf cfS) where
 irrefl x:=by rw[ltS,GK];omega
 trans x y z h1 h2:=by rw[ltS,GJ]at*;omega
 ntrans x y z h1 h2:=by rw[ltS,GK]at*;omega
open Go.Sort
section
variable {P:Program} {α:Type} [Inhabited α] (D:El P α)
theorem R4(xs:List α):flatK D.E D.m xs.toArray=(D.flat xs).toArray:=by
 refine ext_get! (by simp[D.aX]) fun t ht=> ?_;simp only[size_flatK,List.size_toArray]at ht;have hm:=D.hm;have hk:t/D.m<xs.length:=Nat.div_lt_of_lt_mul (by rw[Nat.mul_comm];exact ht);have hj:t%D.m<D.m:=Nat.mod_lt _ hm;have hx:xs[t/D.m]? =some xs[t/D.m]:=fP hk;have hu:(D.E xs[t/D.m])[t%D.m]? =some ((D.E xs[t/D.m])[t%D.m]'(by rw[D.hE];exact hj)):=fP _;have hf:=D.flat_get xs (t/D.m) (t%D.m) _ _ hx hu;rw[Nat.div_add_mod']at hf;rw[get_flatK _ _ _ _ (by simpa using ht)];have e1:xs.toArray[t/D.m]! =xs[t/D.m]:=by simp[hk]
 rw[e1];obtain⟨h1,h2⟩:=List.getElem?_eq_some_iff.1 hf;have e2:(D.flat xs).toArray[t]! =(D.flat xs)[t]:=by simp[h1]
 rw[e2,h2];simp[D.hE,hj]
variable {base g cap:Nat} {w:World} {xs:List α}
theorem Own.aji(h:Own D base w (.slice (some ⟨g,0,none⟩) xs.length cap) xs):HoldsK D.E D.m w g 0 xs.toArray:=by
 unfold HoldsK;rw[R4];rcases h.2 with⟨hv,_⟩|⟨g',cap',cur,hv,hg,hh,hn,hc,hcs,ht⟩
 ·cases hv
 ·cases hv
  intro j hj;rw[bV];simp only[List.size_toArray]at hj;have hjt:(cur.toList.take (xs.length*D.m))[j]? =some (D.flat xs)[j]:=by rw[ht];exact fP hj
  rw[List.getElem?_take]at hjt
  split at hjt
  ·refine⟨?_,by simp[World.frozen?,hh]⟩
   simp only[World.cell?,hh];have:(D.flat xs).toArray[j]! =(D.flat xs)[j]:=by simp[hj]
   rw[this];simpa using hjt
  ·cases hjt
theorem Own.sorted(h:Own D base w (.slice (some ⟨g,0,none⟩) xs.length cap) xs)(ys:List α)(hl:ys.length=xs.length)(n:Nat)(os:Array Obj):
 Own D base (sortWorldK D.E D.m w g 0 n ys.toArray os) (.slice (some ⟨g,0,none⟩) ys.length cap) ys/\Kp g w (sortWorldK D.E D.m w g 0 n ys.toArray os):=by
 rcases h.2 with⟨hv,_⟩|⟨g',cap',cur,hv,hg,hh,hn,hc,hcs,ht⟩
 ·cases hv
 ·cases hv
  have hlt:g<w.heap.size:=by
   rcases gM g w.heap.size with h1|h1
   ·exact h1
   ·rw[ze h1]at hh;cases hh
  have hF:flatK D.E D.m ys.toArray=(D.flat ys).toArray:=R4 D ys;have hsz:(sortWorldK D.E D.m w g 0 n ys.toArray os).heap.size=w.heap.size+os.size:=by simp[sortWorldK,grow,putRowK,putRow,mapBlock,ahead]
  have hblk:(sortWorldK D.E D.m w g 0 n ys.toArray os).heap[g]? =some (.cells (putCells id 0 (D.flat ys).toArray cur) D.e (0,0)):=by
   simp only[sortWorldK,grow,putRowK,putRow,mapBlock,ahead,hF];rw[Array.getElem?_append_left (by simpa using hlt),Array.getElem?_modify,bH rfl];show Option.map _ w.heap[g]? =_;rw[hh];rfl
  have hoth:∀k,k<w.heap.size->k≠g->(sortWorldK D.E D.m w g 0 n ys.toArray os).heap[k]? =w.heap[k]? :=fun k hk hkg=>by
   simp only[sortWorldK,grow,putRowK,putRow,mapBlock,ahead];rw[Array.getElem?_append_left (by simpa using hk),Array.getElem?_modify,aU (fun e=>hkg e.symm)];rfl
  refine⟨⟨D.aX ys,.inr ⟨g,_,_,rfl,hg,hblk,by omega,hc,by simp[putCells,hcs],?_⟩⟩,⟨rfl,rfl,rfl,by omega,hoth⟩⟩;have hfl:=D.aX ys;apply List.ext_getElem?;intro j;rw[List.getElem?_take];have hcm:ys.length*D.m<=cur.size:=by rw[hcs,hl];exact Nat.mul_le_mul_right _ hn
  by_cases hj:j<ys.length*D.m
  ·rw[bH hj]
   have hj2:j<(D.flat ys).length:=by omega
   have hj3:j<cur.size:=by omega
   simp only[putCells,Array.getElem?_toList,Array.getElem?_mapIdx,Cu hj3,Option.map_some];rw[bH ⟨bI _,by simpa using hj2⟩,fP hj2];simp[hj2]
  ·rw[aU hj,xB (by omega)]
end
theorem R5(base g cap:Nat)(xs:List bK)(w:World)(hown:Own cK base w (.slice (some ⟨g,0,none⟩) xs.length cap) xs)(hn:xs.length<=4194304):
 Calls prog 50 #[.slice (some ⟨g,0,none⟩) xs.length cap,.func (.func 51) #[] #[]] w fun e w'=>e=.returned (.tuple #[])/\∃ys:List bK,xs.Perm ys/\ys.Pairwise (fun x y=>LW y x=false)/\Own cK base w' (.slice (some ⟨g,0,none⟩) ys.length cap) ys/\Kp g w w':=by
 have hc:=AnyQ.slices_SortFunc Tryz.sortItem 2 isAgg114 sizeOf114 cK.E (fun _=>rfl) (fun x v hv=>by simp[cK,bK.cells]at hv;rcases hv with rfl|rfl<;>rfl) cfS aqZ 51 #[] g 0 cap xs.toArray w call51 (fun m os dk hs x y=>aar x y _) (Own.aji cK hown) (hown.lt g rfl).2 (by simp;omega);simp only[List.size_toArray]at hc;refine hc.mono ?_;rintro e w' ⟨rfl,d',n,os,⟨hs1,-,hperm⟩,hsrt,rfl⟩;have hsz:d'.size=xs.length:=by simpa using hs1
 have hd:d'=d'.toList.toArray:=by simp
 have hp:xs.Perm d'.toList:=by
  have h1:(d'.extract 0 xs.length).toList=d'.toList:=by rw[<-hsz];simp
  have h2:(xs.toArray.extract 0 xs.length).toList=xs:=by simp
  rw[h1,h2]at hperm;exact hperm.symm
 have hl:d'.toList.length=xs.length:=hp.length_eq.symm;obtain⟨h1,h2⟩:=Own.sorted cK hown d'.toList hl n os;refine⟨rfl,d'.toList,hp,?_,?_,?_⟩
 ·rw[List.pairwise_iff_getElem]
  intro i j hi hj hij;have:=hsrt i j (bI _) hij (by omega);rw[ltS]at this
  have e1:d'[j]! =d'.toList[j]:=by
   rw[getElem!_pos d' j (by omega)];simp
  have e2:d'[i]! =d'.toList[i]:=by
   rw[getElem!_pos d' i (by omega)];simp
  rwa[e1,e2]at this
 ·rw[<-hd]at h1;exact h1
 ·rw[<-hd]at h2;exact h2
end Go.Proofs.YtgboomjahhnldaaGreatDoor.Ec
namespace Go.Proofs.YtgboomjahhnldaaGreatDoor
open Go.Proofs.Tryz Go.RowKit
theorem R6(a b:Int):(max a b=a/\b<=a)∨(max a b=b/\a<=b):=by
 rw[Int.max_def];split<;>omega
theorem aas(a b:Int):(min a b=a/\a<=b)∨(min a b=b/\b<=a):=by
 rw[Int.min_def];split<;>omega
def jH(x:bK):bK:=⟨max x.f 0,min x.t 1048577⟩
def nk(l:List bK):List bK:=(l.map jH).filter fun x=>decide (x.f<x.t)
theorem rX(l m:List bK)(d:Int):dz (l++m) d=(dz l d||dz m d):=by simp[dz]
theorem vQ(x:bK)(d:Int):dz [x] d=(decide (x.f<=d)&&decide (d<x.t)):=by simp[dz]
theorem O1(x:bK)(l:List bK)(d:Int):dz (x::l) d=((decide (x.f<=d)&&decide (d<x.t))||dz l d):=by simp[dz]
theorem aat{l m:List bK}(h:l.Perm m)(d:Int):dz l d=dz m d:=by
 unfold dz;rw[Bool.eq_iff_iff,List.any_eq_true,List.any_eq_true];exact⟨fun⟨x,hx,h2⟩=>⟨x,h.mem_iff.1 hx,h2⟩,fun⟨x,hx,h2⟩=>⟨x,h.mem_iff.2 hx,h2⟩⟩
def lQ(d:Int):Bool:=decide (0<=d)&&decide (d<1048577)
theorem O3:∀(l:List bK) (d:Int),dz (nk l) d=(lQ d&&dz l d)
 |[],d=>by simp[nk,dz]
 |x::l,d=>by
  have ih:=O3 l d;have m1:((jH x).f=x.f/\0<=x.f)∨((jH x).f=0/\x.f<=0):=R6 x.f 0;have m2:((jH x).t=x.t/\x.t<=1048577)∨((jH x).t=1048577/\1048577<=x.t):=aas x.t 1048577
  have e:dz (nk (x::l)) d=if(jH x).f<(jH x).t then((decide ((jH x).f<=d)&&decide (d<(jH x).t))||dz (nk l) d)else dz (nk l) d:=by
   unfold nk;rw[gX,List.filter_cons];by_cases h:(jH x).f<(jH x).t
   ·simp only[h,decide_true,if_true]
    rw[O1]
   ·simp only[h,decide_false,if_false,Bool.false_eq_true]
  rw[e,O1,Bool.eq_iff_iff];generalize (jH x).f=F at m1⊢;generalize (jH x).t=T at m2⊢
  split
  ·rename_i h
   rw[ih];simp only[lQ,Bool.or_eq_true,Bool.and_eq_true,decide_eq_true_eq]at h⊢
   constructor
   ·rintro(h1|h1)
    ·exact⟨by omega,.inl (by omega)⟩
    ·exact⟨h1.1,.inr h1.2⟩
   ·rintro⟨h1,h2|h2⟩
    ·exact .inl (by omega)
    ·exact .inr ⟨h1,h2⟩
  ·rename_i h
   rw[ih];simp only[lQ,Bool.or_eq_true,Bool.and_eq_true,decide_eq_true_eq]at h⊢
   constructor
   ·rintro h1
    exact⟨h1.1,.inr h1.2⟩
   ·rintro⟨h1,h2|h2⟩
    ·omega
    ·exact⟨h1,h2⟩
theorem adE{l:List bK}:∀x∈nk l,0<=x.f/\x.f<x.t/\x.t<=1048577:=by
 intro x hx;unfold nk at hx;rw[List.mem_filter,List.mem_map]at hx;obtain⟨⟨y,-,rfl⟩,h⟩:=hx;have m1:((jH y).f=y.f/\0<=y.f)∨((jH y).f=0/\y.f<=0):=R6 y.f 0;have m2:((jH y).t=y.t/\y.t<=1048577)∨((jH y).t=1048577/\1048577<=y.t):=aas y.t 1048577;simp only[decide_eq_true_eq]at h;omega
theorem XW{l:List bK}{k:Nat}(h:k<l.length):nk (l.take (k+1))=nk (l.take k)++(if(jH l[k]).f<(jH l[k]).t then [jH l[k]]else []):=by
 unfold nk;rw[jk h,List.map_append,List.filter_append]
 congr 1
 by_cases hc:(jH l[k]).f<(jH l[k]).t<;>simp[hc]
structure FL (xs:List bK) (i:Nat) (M:List bK):Prop where
 norm:Norm M
 mem:∀d,dz M d=dz (xs.take i) d
 lo:∀x∈M,∀y∈xs.drop i,x.f<=y.f
 len:M.length<=i
theorem FL.start(xs:List bK):FL xs 0 []:=⟨Norm.nil,fun d=>by simp[dz],by simp,by simp⟩
section
variable {xs M:List bK} {i:Nat}
theorem FL.new(h:FL xs i M)(hs:xs.Pairwise fun x y=>x.f<=y.f)(hok:∀x∈xs,0<=x.f/\x.f<x.t/\x.t<=1048577)(hi:i<xs.length)(hlt:∀y∈M,y.t<xs[i].f):FL xs (i+1) (M++[xs[i]]):=by
 refine⟨⟨?_,?_⟩,fun d=> ?_,fun x hx y hy=> ?_,by simp;exact h.len⟩
 ·rw[List.pairwise_append]
  refine⟨h.norm.up,List.pairwise_singleton _ _,fun x hx y hy=> ?_⟩;rw[kX]at hy;subst hy;exact hlt x hx
 ·intro x hx
  rcases List.mem_append.1 hx with hx|hx
  ·exact h.norm.ok x hx
  ·rw[kX]at hx
   subst hx;exact hok _ (dW hi)
 ·rw[rX,h.mem,jk hi,rX]
 ·have hd:xs.drop i=xs[i]::xs.drop (i+1):=iW hi
  rcases List.mem_append.1 hx with hx|hx
  ·exact h.lo x hx y (by rw[hd];exact lV _ hy)
  ·rw[kX]at hx
   subst hx;have hp:(xs.drop i).Pairwise fun x y=>x.f<=y.f:=hs.sublist (List.drop_sublist _ _);rw[hd,List.pairwise_cons]at hp;exact hp.1 y hy
theorem FL.join{L:List bK}{z:bK}(h:FL xs i (L++[z]))(hs:xs.Pairwise fun x y=>x.f<=y.f)(hok:∀x∈xs,0<=x.f/\x.f<x.t/\x.t<=1048577)(hi:i<xs.length)(hle:xs[i].f<=z.t):FL xs (i+1) (L++[⟨z.f,max z.t xs[i].t⟩]):=by
 have hd:xs.drop i=xs[i]::xs.drop (i+1):=iW hi;have hz:=h.norm.ok z (by simp);have hx:=hok _ (dW hi);have mm:=R6 z.t xs[i].t;have hlo:=h.lo z (by simp) xs[i] (by rw[hd];exact List.mem_cons_self);have hup:=List.pairwise_append.1 h.norm.up;refine⟨⟨?_,?_⟩,fun d=> ?_,fun x hx y hy=> ?_,by have:=h.len;simp at this⊢;omega⟩
 ·rw[List.pairwise_append]
  refine⟨hup.1,List.pairwise_singleton _ _,fun x hx y hy=> ?_⟩;rw[kX]at hy;subst hy;exact hup.2.2 x hx z (by simp)
 ·intro x hx2
  rcases List.mem_append.1 hx2 with hx2|hx2
  ·exact h.norm.ok x (by simp[hx2])
  ·rw[kX]at hx2
   subst hx2;simp only;omega
 ·have hm:=h.mem d
  rw[jk hi,rX (xs.take i),<-hm,rX L,rX L,vQ,vQ,vQ,Bool.eq_iff_iff];simp only[Bool.or_eq_true,Bool.and_eq_true,decide_eq_true_eq]
  constructor
  ·rintro(h1|h1)
   ·exact .inl (.inl h1)
   ·by_cases h2:d<z.t
    ·exact .inl (.inr ⟨h1.1,h2⟩)
    ·exact .inr ⟨by omega,by omega⟩
  ·rintro((h1|h1)|h1)
   ·exact .inl h1
   ·exact .inr ⟨h1.1,by omega⟩
   ·exact .inr ⟨by omega,by omega⟩
 ·have hyd:y∈xs.drop i:=by rw[hd];exact lV _ hy
  rcases List.mem_append.1 hx with hx2|hx2
  ·exact h.lo x (by simp[hx2]) y hyd
  ·rw[kX]at hx2
   subst hx2;exact h.lo z (by simp) y hyd
theorem Norm.below{L:List bK}{z:bK}(h:Norm (L++[z])){f:Int}(hz:z.t<f):∀y∈L++[z],y.t<f:=by
 intro y hy;rcases List.mem_append.1 hy with hy|hy
 ·have h1:=(List.pairwise_append.1 h.up).2.2 y hy z (by simp)
  have h2:=(h.ok z (by simp)).2.1;omega
 ·rw[kX]at hy
  subst hy;exact hz
end
end Go.Proofs.YtgboomjahhnldaaGreatDoor
