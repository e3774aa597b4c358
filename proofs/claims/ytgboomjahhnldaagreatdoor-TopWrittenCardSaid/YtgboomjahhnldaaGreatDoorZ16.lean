/- A part of the proof of TopWritten, printed small: TForce SortMAc TEvery CmpAc. -/
import Derived.Test.YtgboomjahhnldaaGreatDoorZ15
import Derived.Test.YtgboomjahhnldaaGreatDoorZ05
import Derived.Test.YtgboomjahhnldaaGreatDoorZ06
set_option maxRecDepth 100000
set_option maxHeartbeats 25600000
set_option linter.all false
namespace Go.Proofs.YtgboomjahhnldaaGreatDoor
open Go.Proofs.Tryz Go.RowKit
theorem X6(q:bE)(act item:Int)(w:World):
 Calls prog 47 #[.agg q.cells.toArray,.int .i64 act,.int .i64 item] w (lN w):=by
 unfold lN;go_enter func47,ntmps47
 go_upto_region 1 with(refine aG aT (.tmp 0) rfl rfl q rfl fun wA aR bG bB aO=> ?_)
 have p0:=aO.zero (u:=.int .i64 q.kind) rfl;have p20:=aO.one 20 (u:=.int .i64 q.act) rfl;have Ww:=aO.one 21 (u:=.int .i64 q.item) rfl;simp only[bV]at p20 Ww;have hlA:=ay bB;have jh:=ah (show∀wq,Ext wA wq->(aK [.int .i64 q.kind,.slice q.aA q.aN q.aC,.slice q.bA q.bN q.bC,.int .i64 q.wh,.int .i64 q.nth,.int .i64 q.u.a,.int .i64 q.u.i,.int .i64 q.u.n,.int .i64 q.u.kind,.string q.u.label,.slice q.u.hA q.u.hn q.u.hc,.slice q.u.wA q.u.wn q.u.wc,.slice q.u.kA q.u.kn q.u.kc,.slice q.oA q.oN q.oC,.slice q.nA q.nN q.nC,.string q.label,.string q.fr,.int .i64 q.sk,.int .i64 q.sd,.string q.se,.int .i64 q.act,.int .i64 q.item,.int .i64 q.day,.string q.ev,.slice q.yA q.yN q.yC]).p (.pointer (some ⟨w.heap.size,0,none⟩)) wq from fun wq he=>⟨w.heap.size,0,rfl,bQ hlA he.size,fun j u hu=>aO.ext he hlA j u hu⟩);clear bG bB aO;by_cases h1:q.act=act
 ·have f1:decide (q.act≠act)=false:=aY (by simp[h1])
  have Wn:(q.act==act)=true:=by simp[h1]
  clear h1;by_cases h2:q.kind=11
  ·have f2:decide (q.kind=11)=true:=bJ h2
   have f2':(q.kind==11)=true:=by simp[h2]
   clear h2;go_wp2;go_ret;exact⟨_,rfl,aR⟩
  have f2:decide (q.kind=11)=false:=aY h2;have f2':(q.kind==11)=false:=by simp[h2]
  clear h2;go_upto_region 5 with fail
  refine iw (by kernel_rfl) (fun i=>match i with|0=>X4|1=>aK [.int .i64 q.kind]|2=>Ty.is (.int .i64 q.kind)|3=>Ty.is (Jf q.kind)|4=>Ty.is (Jf q.kind)|5=>Ty.is (((mI q.kind).map dZ).getD .nilFunc)|6=>Ty.is (.bool (mI q.kind).isSome)|7=>Ty.is (((mI q.kind).map dZ).getD .nilFunc)|8=>Ty.is (.bool (mI q.kind).isSome)|_=>Ty.any) (by kernel_rfl) rfl ?_;intro v;refine⟨?_,?_,?_,?_,?_,?_,?_,?_,?_,?_⟩
  ·intro wq hq hd
   refine ak rfl ?_;refine fC 46 call46 _ _ rfl rfl [] trivial ?_;refine(Ph wq).mono ?_;rintro e w' ⟨B,rfl,h1,h2⟩;exact⟨_,rfl,h2,B,rfl,h1⟩
  ·exact fun wq hq _=>ak rfl (dB 42 0 (.tmp 3) rfl _ underlying42 _ rfl 1 sizeOf3 (by decide) [.int .i64 q.kind,.slice q.aA q.aN q.aC,.slice q.bA q.bN q.bC,.int .i64 q.wh,.int .i64 q.nth,.int .i64 q.u.a,.int .i64 q.u.i,.int .i64 q.u.n,.int .i64 q.u.kind,.string q.u.label,.slice q.u.hA q.u.hn q.u.hc,.slice q.u.wA q.u.wn q.u.wc,.slice q.u.kA q.u.kn q.u.kc,.slice q.oA q.oN q.oC,.slice q.nA q.nN q.nC,.string q.label,.string q.fr,.int .i64 q.sk,.int .i64 q.sd,.string q.se,.int .i64 q.act,.int .i64 q.item,.int .i64 q.day,.string q.ev,.slice q.yA q.yN q.yC] ((jh.out _ hq)))
  ·rintro wq hq ⟨h0,-⟩;exact ak rfl (bW 3 (.tmp 22) rfl isAgg3 (c:=.int .i64 q.kind) h0 rfl)
  ·rintro wq hq ⟨h0,h1,-⟩;exact ak rfl (Sj (.tmp 21) (.tmp 23) rfl h0 (q.kind) h1)
  ·rintro wq hq ⟨h0,-⟩;exact ak rfl (aF (.tmp 24) rfl h0 rfl)
  ·rintro wq hq ⟨h0,-⟩;exact ak rfl (jm (.tmp 20) 0 rfl _ h0 rfl rfl)
  ·rintro wq hq ⟨h0,-⟩;exact ak rfl (jm (.tmp 20) 1 rfl _ h0 rfl rfl)
  ·rintro wq hq ⟨h0,h1,h2,h3,h4,h5,h6,h7,-⟩;exact ak rfl (jY (.tmp 25) rfl h0 rfl)
  ·rintro wq hq ⟨h0,h1,h2,h3,h4,h5,h6,h7,h8,h9,-⟩;exact ak rfl (jY (.tmp 26) rfl h0 rfl)
  ·intro wq hq hT
   have k7:=hT 7 (by decide);change v 7=_ at k7;have k8:=hT 8 (by decide);change v 8=_ at k8;clear hT;simp only[List.drop_succ_cons,List.drop_zero,gH,dK,List.set_cons_succ,List.set_cons_zero,Nat.reduceAdd];rw[k7];rw[k8];have r21:=(hq.cell (p:=⟨w.heap.size,21,none⟩) hlA).trans Ww;have sP:=aR.trans hq;obtain⟨fv,Wx⟩:=aH (((mI q.kind).map dZ).getD .nilFunc);obtain⟨bb,hbb⟩:=aH ((mI q.kind).isSome);rw[Wx,hbb];clear Wx hbb p0 p20 Ww k8 k7;cases bb with
   |false=>
    go_wp2;go_ret;exact⟨_,rfl,sP⟩
   |true=>
    by_cases h3:q.item=item
    ·have f3:decide (q.item=item)=true:=bJ h3
     have f3':(q.item==item)=true:=by simp[h3]
     clear h3;go_wp2;go_ret;exact⟨_,rfl,sP⟩
    ·have f3:decide (q.item=item)=false:=aY h3
     have f3':(q.item==item)=false:=by simp[h3]
     clear h3;go_wp2;go_ret;exact⟨_,rfl,sP⟩
 ·have f1:decide (q.act≠act)=true:=bJ h1
  have Wn:(q.act==act)=false:=by simp[h1]
  clear h1;go_wp2;go_ret;exact⟨_,rfl,aR⟩
def tY(d:dY):lC:=⟨d.it.sk,d.it.sd,d.it.se⟩
def NQ(s:lC)(d:dY)(rs:List dY)(w:World)(e:Ending)(w':World):Prop:=
 ∃p,wR w p e w'/\(0<=d.it.kind->d.it.kind<=6->(∀r∈rs,mI r.it.kind=none)->(xV s (tY d)).k=1->∀x,p x=KA (fun _=>false) (xV s (tY d)).d x)
theorem Vs(s:lC)(d:dY)(rs:List dY)(A:Option Addr)(c:Nat)(w:World)(hs:Sl bF w A rs)(hn:rs.length<=100000):
 Calls prog 38 #[.agg s.cells.toArray,.agg d.cells.toArray,.slice A rs.length c] w (NQ s d rs w):=by
 unfold NQ;have hx1:Ext w (w.alloc (.cells s.cells.toArray 39)):=(Ext.refl w).alloc _;have hb:=heap_alloc_new w (.cells s.cells.toArray 39);obtain⟨w1,hw1⟩:=aH (w.alloc (.cells s.cells.toArray 39));rw[hw1]at hx1 hb;have s0:w1.cell? ⟨w.heap.size,0,none⟩=some (.int .i64 s.k):=by simp[World.cell?,hb,lC.cells]
 have s1:w1.cell? ⟨w.heap.size,1,none⟩=some (.int .i64 s.d):=by simp[World.cell?,hb,lC.cells]
 have s2:w1.cell? ⟨w.heap.size,2,none⟩=some (.string s.e):=by simp[World.cell?,hb,lC.cells]
 have DX:=ah hw1;have hl1:=ay hb;clear hb hw1;go_enter func38,ntmps38
 go_upto_region 1 with(rw[DX.out];(refine aG bF (.tmp 1) rfl rfl d rfl fun wA aR bG bB aO=> ?_))
 have hlA:=ay bB;have p0:=aO.zero (u:=.int .i64 d.act) rfl;have p1:=aO.one 1 (u:=.int .i64 d.item) rfl;have p3:=aO.one 3 (u:=.int .i64 d.it.kind) rfl;have p20:=aO.one 20 (u:=.int .i64 d.it.sk) rfl;have Ww:=aO.one 21 (u:=.int .i64 d.it.sd) rfl;have p22:=aO.one 22 (u:=.string d.it.se) rfl;simp only[bV]at p1 p3 p20 Ww p22;have oZ:=ah aO;have q0:=(aR.cell (p:=⟨w.heap.size,0,none⟩) hl1).trans s0;have q1:=(aR.cell (p:=⟨w.heap.size,1,none⟩) hl1).trans s1;have q2:=(aR.cell (p:=⟨w.heap.size,2,none⟩) hl1).trans s2;have hxw:=hx1.trans aR;have Hef:=ah (ahU s (tY d) wA);simp only[tY,lC.cells]at Hef;have Hes:=ah (show xV s (tY d)=xV s ⟨d.it.sk,d.it.sd,d.it.se⟩from rfl);clear bG bB aO s0 s1 s2;by_cases k1:d.it.kind<0
 ·have f1:decide (d.it.kind<0)=true:=bJ k1
  have Hk:=ah k1;clear k1;go_wp2;go_ret;exact⟨_,⟨none,0,[],rfl,aI _,Sl.nil,Norm.nil,fun x=>rfl,hxw⟩,fun h=>absurd h (by have:=Hk.out;omega)⟩
 have f1:decide (d.it.kind<0)=false:=aY k1;by_cases k2:6<d.it.kind
 ·have f2:decide (6<d.it.kind)=true:=bJ k2
  have Hk:=ah k2;clear k1 k2;go_wp2;go_ret;exact⟨_,⟨none,0,[],rfl,aI _,Sl.nil,Norm.nil,fun x=>rfl,hxw⟩,fun _ h=>absurd h (by have:=Hk.out;omega)⟩
 have f2:decide (6<d.it.kind)=false:=aY k2;clear k1 k2;obtain⟨E,hE⟩:=aH (xV s ⟨d.it.sk,d.it.sd,d.it.se⟩);rw[hE]at Hef Hes;clear hE;go_wp2_with fail
 refine Hef.out.mono ?_;rintro e w3 ⟨rfl,hx3⟩;have xK:=ah (Vr E rs A c w3 (hs.ext (hxw.trans hx3)) hn);clear Hef q0 q1 q2 p3 p20 Ww p22;go_wp2_with fail
 refine xK.out.mono ?_;rintro e w4 ⟨pI,⟨A0,c0,M0,rfl,hc0,hs0,hn0,hm0,hx4⟩,hpI⟩;have ard:=hx3.trans hx4;have HpI:=ah hpI;have Hm0:=ah hm0;have Hs0:=ah hs0;have Hn0:=ah hn0;have Hxw:=ah hxw;clear xK hx3 hx4 hpI hm0 hs0 hn0 p0 p1 f1 f2 hxw;go_wp2
 go_loopw [7,31] (fun vd vk wr=>∃(k:Nat) (A1:Option Addr) (c1:Nat) (M1:List bK),k<=rs.length/\vk=.int .i64 (k:Nat)/\vd=.slice A1 M1.length c1/\M1.length<=c1/\Hid (Sl cK wr A1 M1)/\Hid (Norm M1)/\Hid ((∀r∈rs.take k,mI r.it.kind=none)->∀x,dz M1 x=pI x)/\Ext wA wr) (fun _ vk _=>rs.length-(intOf vk).toNat)
 case atStart=>exact⟨0,A0,c0,M0,bI _,rfl,rfl,hc0,Hs0,Hn0,ah (fun _=>Hm0.out),ard⟩
 case round=>
  obtain⟨k,A1,c1,M1,hk,rfl,rfl,hc1,Jt,Wt,uQ,hext⟩:=hrel;by_cases hlt:k<rs.length
  ·have f1:=eY k rs.length
   obtain⟨b,off,hA,hb,hcs⟩:=(hs.ext (Hxw.out.trans hext)).at_ hlt;have mV:=ah (jk hlt);obtain⟨q,hq⟩:=aH (rs[k]);rw[hq]at hcs mV;have jD:=ah (show At wr b (off+k*28) q.cells from hcs);have HA:=ah hA;clear hcs hq hA;rw[HA.out];go_upto_region 7 with(first|((with_reducible refine au bF (.tmp 33) ?_ ?_ ?_ b (off+k*28) ?_ q ?_ ?_);rfl;rfl;rfl;rfl;exact jD.out)|(refine aL bF rfl rfl fun wG dL fF dM=> ?_)|((with_reducible refine aD bF (.tmp 9) (.tmp 34) ?_ ?_ wr wr.heap.size ?_ q ?_ _ _ dM ?_ dL (aI _) ?_);rfl;rfl;rfl;rfl;rfl;intro w3 hx3 hz3 hk3 dX ho3;skip))
   simp only[Act.put,List.setIfInBounds_toArray,List.set_cons_succ,List.set_cons_zero];have hl3:=ay hk3;have jq:=ah dX;have eU:=ah (hext.trans hx3);have GY:=ah (Jt.out.ext hx3);have mW:∀wq,Ext w3 wq->Ext wA wq:=fun wq he=>eU.out.trans he;have Hxx:=ah mW;clear mW;have jh:=ah (show∀wq,Ext w3 wq->(aK [.int .i64 q.act,.int .i64 q.item,.int .i64 q.day,.int .i64 q.it.kind,.slice q.it.aA q.it.aN q.it.aC,.slice q.it.bA q.it.bN q.it.bC,.int .i64 q.it.wh,.int .i64 q.it.nth,.int .i64 q.it.u.a,.int .i64 q.it.u.i,.int .i64 q.it.u.n,.int .i64 q.it.u.kind,.string q.it.u.label,.slice q.it.u.hA q.it.u.hn q.it.u.hc,.slice q.it.u.wA q.it.u.wn q.it.u.wc,.slice q.it.u.kA q.it.u.kn q.it.u.kc,.slice q.it.oA q.it.oN q.it.oC,.slice q.it.nA q.it.nN q.it.nC,.string q.it.label,.string q.it.fr,.int .i64 q.it.sk,.int .i64 q.it.sd,.string q.it.se,.int .i64 q.it.act,.int .i64 q.it.item,.int .i64 q.it.day,.string q.it.ev,.slice q.it.yA q.it.yN q.it.yC]).p (.pointer (some ⟨wr.heap.size,0,none⟩)) wq from fun wq he=>⟨wr.heap.size,0,rfl,bQ hl3 he.size,fun j u hu=>jq.out.ext he hl3 j u hu⟩);clear fF dM dL hz3 hk3 dX ho3 hx3 Jt;refine iw (by kernel_rfl) (fun i=>match i with|0=>X4|1=>aK [.int .i64 q.it.kind,.slice q.it.aA q.it.aN q.it.aC,.slice q.it.bA q.it.bN q.it.bC,.int .i64 q.it.wh,.int .i64 q.it.nth,.int .i64 q.it.u.a,.int .i64 q.it.u.i,.int .i64 q.it.u.n,.int .i64 q.it.u.kind,.string q.it.u.label,.slice q.it.u.hA q.it.u.hn q.it.u.hc,.slice q.it.u.wA q.it.u.wn q.it.u.wc,.slice q.it.u.kA q.it.u.kn q.it.u.kc,.slice q.it.oA q.it.oN q.it.oC,.slice q.it.nA q.it.nN q.it.nC,.string q.it.label,.string q.it.fr,.int .i64 q.it.sk,.int .i64 q.it.sd,.string q.it.se,.int .i64 q.it.act,.int .i64 q.it.item,.int .i64 q.it.day,.string q.it.ev,.slice q.it.yA q.it.yN q.it.yC]|2=>aK [.int .i64 q.it.kind]|3=>Ty.is (.int .i64 q.it.kind)|4=>Ty.is (Jf q.it.kind)|5=>Ty.is (Jf q.it.kind)|6=>Ty.is (((mI q.it.kind).map dZ).getD .nilFunc)|7=>Ty.is (.bool (mI q.it.kind).isSome)|8=>Ty.is (((mI q.it.kind).map dZ).getD .nilFunc)|9=>Ty.is (.bool (mI q.it.kind).isSome)|_=>Ty.any) (by kernel_rfl) rfl ?_;intro v;refine⟨?_,?_,?_,?_,?_,?_,?_,?_,?_,?_,?_⟩
   ·intro wq hq hd
    refine ak rfl ?_;refine fC 46 call46 _ _ rfl rfl [] trivial ?_;refine(Ph wq).mono ?_;rintro e w' ⟨B,rfl,h1,h2⟩;exact⟨_,rfl,h2,B,rfl,h1⟩
   ·exact fun wq hq _=>ak rfl (dB 44 3 (.tmp 9) rfl _ underlying44 _ rfl 25 sizeOf42 (by decide) [.int .i64 q.act,.int .i64 q.item,.int .i64 q.day,.int .i64 q.it.kind,.slice q.it.aA q.it.aN q.it.aC,.slice q.it.bA q.it.bN q.it.bC,.int .i64 q.it.wh,.int .i64 q.it.nth,.int .i64 q.it.u.a,.int .i64 q.it.u.i,.int .i64 q.it.u.n,.int .i64 q.it.u.kind,.string q.it.u.label,.slice q.it.u.hA q.it.u.hn q.it.u.hc,.slice q.it.u.wA q.it.u.wn q.it.u.wc,.slice q.it.u.kA q.it.u.kn q.it.u.kc,.slice q.it.oA q.it.oN q.it.oC,.slice q.it.nA q.it.nN q.it.nC,.string q.it.label,.string q.it.fr,.int .i64 q.it.sk,.int .i64 q.it.sd,.string q.it.se,.int .i64 q.it.act,.int .i64 q.it.item,.int .i64 q.it.day,.string q.it.ev,.slice q.it.yA q.it.yN q.it.yC] ((jh.out _ hq)))
   ·rintro wq hq ⟨h0,-⟩;exact ak rfl (dB 42 0 (.tmp 37) rfl _ underlying42 _ rfl 1 sizeOf3 (by decide) [.int .i64 q.it.kind,.slice q.it.aA q.it.aN q.it.aC,.slice q.it.bA q.it.bN q.it.bC,.int .i64 q.it.wh,.int .i64 q.it.nth,.int .i64 q.it.u.a,.int .i64 q.it.u.i,.int .i64 q.it.u.n,.int .i64 q.it.u.kind,.string q.it.u.label,.slice q.it.u.hA q.it.u.hn q.it.u.hc,.slice q.it.u.wA q.it.u.wn q.it.u.wc,.slice q.it.u.kA q.it.u.kn q.it.u.kc,.slice q.it.oA q.it.oN q.it.oC,.slice q.it.nA q.it.nN q.it.nC,.string q.it.label,.string q.it.fr,.int .i64 q.it.sk,.int .i64 q.it.sd,.string q.it.se,.int .i64 q.it.act,.int .i64 q.it.item,.int .i64 q.it.day,.string q.it.ev,.slice q.it.yA q.it.yN q.it.yC] (h0))
   ·rintro wq hq ⟨h0,-⟩;exact ak rfl (bW 3 (.tmp 38) rfl isAgg3 (c:=.int .i64 q.it.kind) h0 rfl)
   ·rintro wq hq ⟨h0,h1,-⟩;exact ak rfl (Sj (.tmp 36) (.tmp 39) rfl h0 (q.it.kind) h1)
   ·rintro wq hq ⟨h0,-⟩;exact ak rfl (aF (.tmp 40) rfl h0 rfl)
   ·rintro wq hq ⟨h0,-⟩;exact ak rfl (jm (.tmp 35) 0 rfl _ h0 rfl rfl)
   ·rintro wq hq ⟨h0,-⟩;exact ak rfl (jm (.tmp 35) 1 rfl _ h0 rfl rfl)
   ·rintro wq hq ⟨h0,h1,h2,h3,h4,h5,h6,h7,h8,-⟩;exact ak rfl (jY (.tmp 41) rfl h0 rfl)
   ·rintro wq hq ⟨h0,h1,h2,h3,h4,h5,h6,h7,h8,h9,h10,-⟩;exact ak rfl (jY (.tmp 42) rfl h0 rfl)
   ·intro wq hq hT
    have k8:=hT 8 (by decide);change v 8=_ at k8;have k9:=hT 9 (by decide);change v 9=_ at k9;clear hT;simp only[List.drop_succ_cons,List.drop_zero,gH,dK,List.set_cons_succ,List.set_cons_zero,Nat.reduceAdd];rw[k8];rw[k9];have hlen1:=Wt.out.len2;have mW:=Hxx.out wq hq;have r0:=(mW.cell (p:=⟨w1.heap.size,0,none⟩) hlA).trans (oZ.out.zero (u:=.int .i64 d.act) rfl)
    have a1:wA.cell? ⟨w1.heap.size,1,none⟩=some (.int .i64 d.item):=by
     have h:=oZ.out.one 1 (u:=.int .i64 d.item) rfl
     rwa[bV]at h
    have r1:=(mW.cell (p:=⟨w1.heap.size,1,none⟩) hlA).trans a1;clear a1
    have Pk:=ah (show At wq wr.heap.size 3 (aT.E q.it)from fun j u hu=>by
     have h:=(jq.out.ext hq hl3) (3+j) u (by
      rw[Nat.add_comm 3 j];exact hu)
     rwa[bV]at h)
    have Hre:=ah (fun W=>X6 q.it d.act d.item W);cases hto:mI q.it.kind with
    |none=>
     have Hno:=ah (show(∀r∈rs.take (k+1),mI r.it.kind=none)->∀x,dz M1 x=pI x from fun h=>uQ.out fun r hr=>h r (by rw[mV.out];exact nK _ hr));have hs4:=GY.out.ext hq;have Hs4:=ah hs4;have L9:=eU.out.trans hq;clear hto hs4;simp only[Option.map_none,Option.getD_none,Option.isSome_none];go_wp2;go_roundw
     case rel=>exact⟨k+1,A1,c1,M1,by omega,by go_num,rfl,hc1,Hs4,Wt,Hno,L9⟩
     case measure=>simp[intOf];omega
    |some f=>
     obtain⟨-,hf⟩:=L8 hto
     have Hno:=ah (fun(M:List bK)=>show(∀r∈rs.take (k+1),mI r.it.kind=none)->∀x,dz M x=pI x from fun h=>by
      have:=h q (by rw[mV.out];simp);rw[hto]at this;cases this)
     have hf2:dZ f=.func (.func f) #[] #[]:=rfl;clear hto;simp only[Option.map_some,Option.getD_some,Option.isSome_some,hf2];clear hf2;go_wp2_with (((with_reducible refine au aT (.tmp 45) ?_ ?_ ?_ wr.heap.size 3 ?_ q.it ?_ ?_);rfl;rfl;rfl;rfl;exact Pk.out))
     refine(Hre.out _).mono ?_;rintro e w6 ⟨bb,rfl,hx6⟩;cases bb with
     |false=>
      have Hs4:=ah (GY.out.ext (hq.trans hx6));have L9:=eU.out.trans (hq.trans hx6);have Sn:=ah (Hno.out M1);go_wp2;go_roundw
      case rel=>exact⟨k+1,A1,c1,M1,by omega,by go_num,rfl,hc1,Hs4,Wt,Sn,L9⟩
      case measure=>simp[intOf];omega
     |true=>
      have a25:w3.cell? ⟨wr.heap.size,25,none⟩=some (.int .i64 q.it.day):=by
       have h:=jq.out.one 25 (u:=.int .i64 q.it.day) rfl
       rwa[bV]at h
      have t25:=((hq.trans hx6).cell (p:=⟨wr.heap.size,25,none⟩) hl3).trans a25;clear a25;rcases hf with rfl|rfl
      ·have Sb:=ah (L6 M1 A1 c1 q.it.day w6 (GY.out.ext (hq.trans hx6)) (by omega))
       go_wp2_with fail
       refine Sb.out.mono ?_;rintro e w7 ⟨A7,c7,M7,rfl,Js,hs7,Sc,Wi,hx7⟩;have Wy:=ah hs7;have Hn7:=ah Sc;have AV:=eU.out.trans (hq.trans (hx6.trans hx7));have Sn:=ah (Hno.out M7);clear hs7 Sc Wi;go_wp2;go_roundw
       case rel=>exact⟨k+1,A7,c7,M7,by omega,by go_num,rfl,Js,Wy,Hn7,Sn,AV⟩
       case measure=>simp[intOf];omega
      ·have Sb:=ah (Pf M1 A1 c1 q.it.day w6 (GY.out.ext (hq.trans hx6)) (by omega))
       go_wp2_with fail
       refine Sb.out.mono ?_;rintro e w7 ⟨A7,c7,M7,rfl,Js,hs7,Sc,Wi,hx7⟩;have Wy:=ah hs7;have Hn7:=ah Sc;have AV:=eU.out.trans (hq.trans (hx6.trans hx7));have Sn:=ah (Hno.out M7);clear hs7 Sc Wi;go_wp2;go_roundw
       case rel=>exact⟨k+1,A7,c7,M7,by omega,by go_num,rfl,Js,Wy,Hn7,Sn,AV⟩
       case measure=>simp[intOf];omega
  ·have f1:=fT k rs.length
   have o7:=ah (show(∀r∈rs,mI r.it.kind=none)->∀x,dz M1 x=pI x from fun h=>uQ.out fun r hr=>h r (List.mem_of_mem_take hr));go_wp2;go_ret;refine⟨dz M1,⟨A1,c1,M1,rfl,hc1,Jt.out,Wt.out,fun x=>rfl,Hxw.out.trans hext⟩,fun _ _ h h2 x=> ?_⟩;rw[Hes.out]at h2⊢;rw[o7.out h x];exact HpI.out h2 x
end Go.Proofs.YtgboomjahhnldaaGreatDoor
namespace Go.Proofs.YtgboomjahhnldaaGreatDoor.Ac
open Go.Proofs.Tryz
open Go.RowKit
def bD:El prog (bM×bn):={eB with E:=fun p=>p.1.cells,hE:=fun _=>rfl,h1:=fun p=>eB.h1 p.1}
structure Rw (g cap n:Nat) (w:World) (xs:List (bM×bn)):Prop where
 len:xs.length=n
 own:Own bD 0 w (.slice (some ⟨g,0,none⟩) xs.length cap) xs
theorem Rw.ext{g cap n:Nat}{w w':World}{xs:List (bM×bn)}(h:Rw g cap n w xs)(he:Ext w w'):Rw g cap n w' xs:=⟨h.len,h.own.ext he⟩
theorem Rw.o{g cap n:Nat}{w:World}{xs:List (bM×bn)}(h:Rw g cap n w xs):Own bD 0 w (.slice (some ⟨g,0,none⟩) xs.length cap) xs:=h.own
theorem Rw.store{g cap n:Nat}{w:World}{xs:List (bM×bn)}(h:Rw g cap n w xs)(k:Nat)(hk:k<n)(r:bM×bn):
 ∃w',Kp g w w'/\Rw g cap n w' (xs.set k r)/\∀(ρ:Operand->Value) (o:Oper) (x y:Operand),o.op=.store 67 x y->ρ x=.pointer (some ⟨g,k*7,none⟩)->ρ y=.agg (bD.E r).toArray->eP prog ρ o w undef w':=by
 obtain⟨hl,ho⟩:=h;subst hl;obtain⟨w',h1,h2,h3⟩:=Lp bD ho k hk r;refine⟨w',h1,⟨by simp,?_⟩,h3⟩;rw[List.length_set];exact h2
end Go.Proofs.YtgboomjahhnldaaGreatDoor.Ac
namespace Go.Proofs.YtgboomjahhnldaaGreatDoor
open Go.Proofs.Tryz Go.RowKit
structure pV (B:Nat) (v:Value) (w w':World):Prop where
 os:w'.os=w.os
 tape:w'.tape=w.tape
 output:w'.output=w.output
 size:w.heap.size<=w'.heap.size
 block:∀k,k<w.heap.size->k≠B->v.ownBlock≠some k->w'.heap[k]? =w.heap[k]?
theorem pV.uZ{B:Nat}{v:Value}{w0 w w':World}(h:pV B v w w')(h0:Ext w0 w)(h1:w0.heap.size<=B)(h2:∀k,v.ownBlock=some k->w0.heap.size<=k):Ext w0 w':=
 ⟨h.os.trans h0.os,h.tape.trans h0.tape,h.output.trans h0.output,bX h0.size h.size,fun k hk=>(h.block k (bQ hk h0.size) (by omega) (fun e=>by have:=h2 k e;omega)).trans (h0.block hk)⟩
theorem aaH(p:bM)(again:Bool)(B base:Nat)(v:Value)(xs:List bM)(w:World)(hB:w.heap[B]? =some (.cells #[v] 62 (0,0)))(hO:Own eB base w v xs)(hb:B<base)(hbw:base<=w.heap.size)(hn:xs.length<=100000):
 Calls prog 32 #[.agg p.cells.toArray,.bool again,.pointer (some ⟨B,0,none⟩)] w fun e w'=>e=.returned (.tuple #[])/\pV B v w w'/\∃v',w'.heap[B]? =some (.cells #[v'] 62 (0,0))/\Own eB base w' v' (if again then xs else xs++[p]):=by
 have HO:=ah hO;have HB:=ah hB;have hBw:=ay hB;obtain⟨A,c,rfl,-,-⟩:=hO.form;have FN:=ah hbw;clear hO;go_enter func32,ntmps32
 cases again with
 |true=>
  go_wp2_with (refine aG eB (.tmp 0) rfl rfl p rfl fun w1 hx1 hz1 hk1 Dj=> ?_)
  refine bodyPost_end (results_none rfl _ _ _) rfl ?_;exact⟨rfl,⟨hx1.os,hx1.tape,hx1.output,hx1.size,fun k hk _ _=>hx1.block hk⟩,_,(hx1.block hBw).trans HB.out,by simpa using HO.out.ext hx1⟩
 |false=>
  have hcB:∀w1,Ext w w1->w1.cell? ⟨B,0,none⟩=some (.slice A xs.length c):=fun w1 he=>by
   rw[he.cell (p:=⟨B,0,none⟩) hBw];simp[World.cell?,HB.out]
  go_wp2_with (first|((with_reducible refine aG eB (.tmp 0) ?_ ?_ p ?_ ?_);rfl;rfl;rfl;intro w1 hx1 hz1 hk1 Dj;have hc1:=hcB w1 hx1;have hbl:=Dj.lt (by simp[eB,bM.cells]);have KC:=ah Dj;clear Dj hk1)|((with_reducible refine au eB (.tmp 3) ?_ ?_ ?_ w.heap.size 0 ?_ p ?_ ?_);rfl;rfl;rfl;rfl;exact KC.out)|((with_reducible refine gP eB (.tmp 8) ?_ ?_ p (.agg (eB.E p).toArray) ?_ ?_ ?_ ?_);rfl;rfl;rfl;rfl;decide;intro w2 hx2 hz2 hsl2;have arf:=ah hsl2;have lX:=hx1.trans hx2;clear hsl2)|(at_builtin;go_loud (refine lq eB rfl (.tmp 7) (.tmp 9) rfl 1 rfl (HO.out.ext lX) rfl arf.out (by simp;omega) (by have:=FN.out;have:=lX.size;omega) ?_);go_loud (intro v2 w3 hown3 hg3 hloc;have hblk3:=((hg3.block B (bQ hBw lX.size) (fun h=>by have:=(HO.out.lt B h.symm).1;omega)).trans (lX.block hBw)).trans HB.out);go_loud (obtain⟨Z2,hZ2⟩:∃Z2,xs++[p]=Z2:=⟨_,rfl⟩;rw[hZ2]at hown3;have HZ2:=ah hZ2;clear hZ2;obtain⟨A3,c3,hv3,-,-⟩:=hown3.form;subst hv3))|(refine aP rfl 62 (.tmp 2) (.tmp 10) rfl B 0 (.slice A3 Z2.length c3) rfl rfl [.slice A3 Z2.length c3] rfl sizeOf62 (by simp[Value.oneCell']) 62 _ hblk3 (by simp) ?_;intro w4 hw4 dP dQ dR hs4 eX))
  refine bodyPost_end (results_none rfl _ _ _) rfl ?_;have hsz:=lX.size;have hb2:=FN.out;refine⟨rfl,⟨dP.trans (hg3.os.trans lX.os),dQ.trans (hg3.tape.trans lX.tape),dR.trans (hg3.output.trans lX.output),by rw[hs4];exact bX lX.size hg3.size,fun k hk hkB hkv=>(hw4 k hkB).trans ((hg3.block k (bQ hk lX.size) (fun h=>hkv h.symm)).trans (lX.block hk))⟩,.slice A3 Z2.length c3,by rw[eX];simp,?_⟩;rw[HZ2.out];exact hown3.keep fun k hk=>hw4 k (fun h=>by subst h;have:=(hown3.lt k hk).1;omega)
def nY(acc:List bn)(a:bn):List bn:=if acc.any (fun b=>decide (b.number=a.number))then acc else acc++[a]
structure GZ (R0 W0:World) (B M:Nat) (ps:List (bM×bn)) (w:World):Prop where
 ext:Ext W0 w
 out:∃v,w.heap[B]? =some (.cells #[v] 62 (0,0))/\Own eB (M+1) w v (ps.map Prod.fst)
 map:∃l:List (Int×Bool),iG (fun x:Int=>Value.int .i64 x) (fun b:Bool=>Value.bool b) M w l/\∀n,(assoc l n).getD false=ps.any (fun p=>decide (p.2.number=n))
 rd:∀p∈ps,kS R0 p.2 p.1
theorem GZ.mono{R0 W0 w w':World}{B M:Nat}{ps:List (bM×bn)}(h:GZ R0 W0 B M ps w)(he:Ext w w'):GZ R0 W0 B M ps w':=by
 obtain⟨h1,⟨v,h2,h3⟩,⟨l,h4,h5⟩,h6⟩:=h;exact⟨h1.trans he,⟨v,(he.block (ay h2)).trans h2,h3.ext he⟩,⟨l,h4.ext he,h5⟩,h6⟩
def kP(gs:List jJ):List bn:=gs.flatMap jJ.acts
theorem aaI(gs:List jJ)(rs:List nX)(A:Option Addr)(c B:Nat)(R0 W0 w:World)(hR0:Ext R0 W0)(hs:Sl lW R0 A rs)(hall:fq (jZ R0) gs rs)(hok:rF gs 24)(h0:Ext W0 w)(hB0:W0.heap.size<=B)(hB:w.heap[B]? =some (.cells #[.slice none 0 0] 62 (0,0))):
 Calls prog 31 #[.slice A rs.length c,.func (.func 32) #[] #[.pointer (some ⟨B,0,none⟩)]] w fun e w'=>e=.returned (.tuple #[])/\∃M ps,GZ R0 W0 B M ps w'/\W0.heap.size<=M/\ps.map Prod.snd=(kP gs).foldl nY []/\ps.length<=64:=by
 have hlen:=hall.length;rw[hlen];have jo:=ah hall;have CS:=ah hR0;clear hR0;have fI:=ah hok;have h8:=hok.n;have hBw:=ay hB;have hw0:=h0.size;have H0:=ah h0;obtain⟨R,hR⟩:=aH ((kP gs).foldl nY []);rw[hR];have HR:=ah hR;clear hall hok hR h0;go_enter func31,ntmps31
 have hmm:= @run_makeMap prog;have afX:=iG.made (K:=fun x:Int=>Value.int .i64 x) (V:=fun b:Bool=>Value.bool b) w;have HI0:=ah (show GZ R0 W0 B w.heap.size [] (w.alloc (.map #[] 0))from⟨H0.out.trans ((Ext.refl w).alloc _),⟨_,(((Ext.refl w).alloc _).block hBw).trans hB,Own.nil _⟩,⟨[],afX,fun n=>by simp[assoc]⟩,by simp⟩);have hsz1:(w.alloc (.map #[] 0)).heap.size=w.heap.size+1:=by simp
 obtain⟨w1,hw1⟩:=aH (w.alloc (.map #[] 0));rw[hw1]at HI0 hsz1;have DX:=ah hw1;clear afX hw1;go_wp2;rw[DX.out]
 go_loopw [12] (fun vi wr=>∃(k:Nat) (ps:List (bM×bn)),k<=gs.length/\vi=.int .i64 (k:Nat)/\Hid (R=(kP (gs.drop k)).foldl nY (ps.map Prod.snd))/\Hid (ps.length<=8*k)/\Hid (GZ R0 W0 B w.heap.size ps wr)) (fun vi _=>gs.length-(intOf vi).toNat)
 case atStart=>exact⟨0,[],bI _,rfl,ah (by simpa using HR.out.symm),ah (by simp),HI0⟩
 case round=>
  obtain⟨k,ps,hk,rfl,Hr,Hl,HI⟩:=hrel;by_cases hlt:k<gs.length
  ·have f1:=eY k gs.length
   have mP:k<rs.length:=by omega
   have hext:=HI.out.ext;obtain⟨b,off,rfl,hb,hcs⟩:=(hs.ext (CS.out.trans hext)).at_ mP;have hgz:=(jo.out).get k hlt mP;have hgo:=fI.out.g _ (dW hlt);have Hdk:=ah (show kP (gs.drop k)=gs[k].acts++kP (gs.drop (k+1)) by rw[iW hlt];rfl);obtain⟨g,hg⟩:=aH (gs[k]);rw[hg]at hgz hgo Hdk;obtain⟨q,hq⟩:=aH (rs[k]);rw[hq]at hcs hgz;have jr:=ah (show At wr b (off+k*4) q.cells from hcs);obtain⟨-,-,-,ZR,haC,ras,adk,nL⟩:=hgz;have CG:=nL.length;have zi:=ah nL;have Ls:=ah ZR;have hn8:=hgo.n;clear hg hq hcs nL hgo ZR;go_wp2_with (first|((with_reducible refine au lW (.tmp 14) ?_ ?_ ?_ b (off+k*4) ?_ q ?_ ?_);rfl;rfl;rfl;rfl;exact jr.out)|(refine aL lW rfl rfl fun w2 hx2 hz2 hk2=> ?_)|((with_reducible refine aD lW (.tmp 6) (.tmp 15) ?_ ?_ wr wr.heap.size ?_ q ?_ _ _ hk2 ?_ hx2 (aI _) ?_);rfl;rfl;rfl;rfl;rfl;intro w3 hx3 hz3 hk3 dX ho3;have p3:=dX.one 3 (u:=.slice q.aA q.aN q.aC) rfl;simp only[bV]at p3;clear hz3 hk3 dX ho3 hz2 hk2 hx2))
   clear p3;have HI3:=ah (HI.out.mono hx3);clear HI hx3
   go_loopw [19] (fun vi wr=>∃(j:Nat) (ps:List (bM×bn)),j<=g.acts.length/\vi=.int .i64 (j:Nat)/\Hid (R=(g.acts.drop j++kP (gs.drop (k+1))).foldl nY (ps.map Prod.snd))/\Hid (ps.length<=8*k+j)/\Hid (GZ R0 W0 B w.heap.size ps wr)) (fun vi _=>g.acts.length-(intOf vi).toNat)
   case atStart=>exact⟨0,ps,bI _,rfl,ah (by rw[Hr.out,Hdk.out];rfl),ah (by have:=Hl.out;omega),HI3⟩
   case round=>
    obtain⟨j,ps2,hj,rfl,xU,Fz,HI2⟩:=hrel;by_cases hlt2:j<g.acts.length
    ·have hjq:j<q.aN:=by have:=Ls.out;omega
     have f2:=eY j q.aN;have CJ:j<ras.length:=by omega
     obtain⟨b2,off2,hA2,hb2,hds⟩:=(adk.ext (CS.out.trans HI2.out.ext)).at_ CJ;have Wz:=ah (show g.acts.drop j=g.acts[j]::g.acts.drop (j+1)from iW hlt2);have uo:=ah ((zi.out).get j hlt2 CJ);obtain⟨a,ha⟩:=aH (g.acts[j]);rw[ha]at uo Wz;obtain⟨p,hp⟩:=aH (ras[j]);rw[hp]at hds uo;have Ri:=ah (show At wr b2 (off2+j*7) p.cells from hds);obtain⟨vO,hvO,hoO⟩:=HI2.out.out;obtain⟨lm,hlm,adL⟩:=HI2.out.map;obtain⟨SEEN,hS⟩:=aH (ps2.any (fun z=>decide (z.2.number=p.number)));have HS:=ah hS;have arh:=ah adL;have ane:=ah (show((assoc lm p.number).map (fun b:Bool=>Value.bool b)).getD (.bool false)=.bool SEEN by rw[<-hS,<-adL];cases assoc lm p.number<;>rfl);have HvO:=ah hvO;have HoO:=ah hoO;have Hlm:=ah hlm;have hBl:=ay hvO;have hMl:=hlm.lt;have Hq:=ah hA2;clear ha hp hds hS adL hvO hoO hlm hA2;rw[Hq.out];go_wp2_with (first|((with_reducible refine au eB (.tmp 21) ?_ ?_ ?_ b2 (off2+j*7) ?_ p ?_ ?_);rfl;rfl;rfl;rfl;exact Ri.out)|(refine aL eB rfl rfl fun w2 hx2 hz2 hk2=> ?_)|((with_reducible refine aD eB (.tmp 8) (.tmp 22) ?_ ?_ wr wr.heap.size ?_ p ?_ _ _ hk2 ?_ hx2 (aI _) ?_);rfl;rfl;rfl;rfl;rfl;intro w3 hx3 hz3 hk3 dX ho3;have p0:=dX.zero (u:=.int .i64 p.number) rfl;have jq:=ah dX;have hl3:=ay hk3;have uS:=ah hk3;clear hz3 hk3 dX ho3 hz2 hk2 hx2)|((with_reducible refine au eB (.tmp 8) ?_ ?_ ?_ wr.heap.size 0 ?_ p ?_ ?_);rfl;rfl;rfl;rfl;exact jq.out)|((refine GX (K:=fun x:Int=>Value.int .i64 x) (V:=fun b:Bool=>Value.bool b) (.tmp 25) (.tmp 27) rfl jg underlying101 (.bool false) (Si _) rfl (Hlm.out.ext hx3) rfl p.number rfl (.bool SEEN) ane.out ?_)))
     have FP:=HI2.out.ext.trans hx3;have Hcb:=ah (aaH p SEEN B (w.heap.size+1) vO (ps2.map Prod.fst) w3 ((hx3.block hBl).trans HvO.out) (HoO.out.ext hx3) (by omega) (by have:=hx3.size;omega) (by have:=Fz.out;simp;omega));refine(Hcb.out).mono ?_;rintro e w4 ⟨rfl,hbv,v',hB4,hO4⟩;have hown:∀k,vO.ownBlock=some k->w.heap.size+1<=k/\k<wr.heap.size:=fun k hk=>HoO.out.lt k hk;have WA:=hbv.uZ FP hB0 (fun k hk=>by have:=(hown k hk).1;have:=H0.out.size;omega);have Pj:=(Hlm.out.ext hx3).keep (hbv.block w.heap.size (by have:=hx3.size;omega) (by omega) (fun h=>by have:=(hown _ h).1;omega));have hk4:=(hbv.block wr.heap.size hl3 (by omega) (fun h=>by have:=(hown _ h).2;omega)).trans uS.out;have p0':w4.cell? ⟨wr.heap.size,0,none⟩=some (.int .i64 p.number):=by simp[World.cell?,hk4,eB,bM.cells]
     have HB4:=ah hB4;have O5:=ah hO4;have HM4:=ah Pj;have HE4:=ah WA;clear hbv hB4 hO4 Pj WA hk4 FP Hcb hown p0;go_wp2_with (refine zq (K:=fun x:Int=>Value.int .i64 x) (V:=fun b:Bool=>Value.bool b) (.tmp 30) (.tmp 32) (.const (.bool true)) rfl jg underlying101 rfl HM4.out rfl p.number rfl true rfl ?_;intro w5 FQ hb5 hs5 nu ny nD;have Sq:=ah FQ;have Hb5:=ah hb5;have Hs5:=ah hs5;have Ho5:=ah (And.intro nu (And.intro ny nD));clear FQ hb5 hs5 nu ny nD)
     have hpn:=uo.out.number
     have hEI:∀G5:List (bM×bn),G5=(if SEEN then ps2 else ps2++[(p,a)])->GZ R0 W0 B w.heap.size G5 w5:=by
      intro G5 hps;refine⟨Ext.put HE4.out (b:=w.heap.size) (by have:=H0.out.size;omega) Hb5.out Ho5.out.1 Ho5.out.2.1 Ho5.out.2.2 Hs5.out,⟨v',(Hb5.out B (by omega)).trans HB4.out,?_⟩,⟨_,Sq.out,fun n=> ?_⟩,fun z hz=> ?_⟩
      ·have h4:=O5.out.keep (w':=w5) (fun k hk=>Hb5.out k (fun e=>by have:=(O5.out.lt k hk).1;omega))
       have e:G5.map Prod.fst=(if SEEN=true then ps2.map Prod.fst else ps2.map Prod.fst++[p]):=by rw[hps];cases SEEN<;>simp
       rw[e];exact h4
      ·rw[GU]
       have hs:=arh.out n;have hS:=HS.out;by_cases hn:n=p.number
       ·rw[bH hn]
        subst hn;rw[hps];cases SEEN with
        |true=>simp only[if_true,Option.getD_some];exact hS.symm
        |false=>simp[hpn]
       ·rw[aU hn,hs,hps]
        cases SEEN with
        |true=>simp
        |false=>
         have:¬a.number=n:=fun e=>hn (by rw[hpn,e]);simp[this]
      ·rw[hps]at hz
       cases SEEN with
       |true=>exact HI2.out.rd z hz
       |false=>
        simp only[Bool.false_eq_true,if_false,oo,kX]at hz;rcases hz with hz|rfl
        ·exact HI2.out.rd z hz
        ·exact uo.out
     have hadd:nY (ps2.map Prod.snd) a=(if SEEN then ps2 else ps2++[(p,a)]).map Prod.snd:=by
      unfold nY
      have e:(ps2.map Prod.snd).any (fun b=>decide (b.number=a.number))=SEEN:=by
       rw[<-HS.out,List.any_map,hpn];rfl
      rw[e];cases SEEN<;>simp
     obtain⟨G5,X7⟩:∃G5,G5=(if SEEN=true then ps2 else ps2++[(p,a)]):=⟨_,rfl⟩;have HEI:=ah (hEI G5 X7);have BN:=ah (show R=(g.acts.drop (j+1)++kP (gs.drop (k+1))).foldl nY (G5.map Prod.snd) by rw[xU.out,Wz.out,jE,List.foldl_cons,hadd,X7]);have Hl3:=ah (show G5.length<=8*k+(j+1) by rw[X7];have:=Fz.out;cases SEEN<;>simp<;>omega);clear hEI hadd X7 hpn;go_roundw
     case rel=>exact⟨j+1,G5,by omega,by go_num,BN,Hl3,HEI⟩
     case measure=>simp[intOf];omega
    ·have f2:decide ((j:Int)<(q.aN:Int))=false:=aY (by have:=Ls.out;omega)
     have f2':decide (j<q.aN)=false:=aY (by have:=Ls.out;omega);have hr2:=xU.out;rw[mH (by omega),jW]at hr2;have BN:=ah hr2;have Hl3:=ah (show ps2.length<=8*(k+1) by have:=Fz.out;omega);clear hr2;go_wp2;go_roundw
     case rel=>exact⟨k+1,ps2,by omega,by go_num,BN,Hl3,HI2⟩
     case measure=>simp[intOf];omega
  ·have f1:=fT k gs.length
   go_wp2;refine bodyPost_end (results_none rfl _ _ _) rfl ?_;have hr:=Hr.out;rw[mH (by omega)]at hr;exact⟨rfl,w.heap.size,ps,HI.out,by have:=H0.out.size;omega,by rw[hr];rfl,by have:=Hl.out;omega⟩
end Go.Proofs.YtgboomjahhnldaaGreatDoor
namespace Go.Proofs.YtgboomjahhnldaaGreatDoor.Ac
open Go.Proofs.Tryz
open Go.RowKit
def CU(b:Bool):Ty:=⟨fun v _=>∃z:Int,v=.int .i64 z/\decide (z<0)=b,fun _ _ _ _ h=>h⟩
structure EF (g:Nat) (lt:(bM×bn)->(bM×bn)->Bool) (S:(bM×bn)->Prop) (J:World->Prop) (fv:Value):Prop where
 keep:∀w w',J w->Kp g w w'->J w'
 call:∃bs:Array Value,fv=.func (.func 34) #[] bs/\∀x y w,S x->S y->J w->Calls prog 34 (#[.agg (bD.E x).toArray,.agg (bD.E y).toArray]++bs) w fun e w'=>∃z:Int,e=.returned (.int .i64 z)/\decide (z<0)=lt x y/\Ext w w'
section
variable {g cap n:Nat} {lt:(bM×bn)->(bM×bn)->Bool} {S:(bM×bn)->Prop} {J:World->Prop} {fv:Value} {ρ:Operand->Value} {o:Oper} {w:World} {xs:List (bM×bn)} {X Y:bM×bn}
theorem wU(C:EF g lt S J fv)(f x y:Operand)(ts:Array TypeId)(ho:o.op=.call {callee:=.value f,args:= #[x,y],argTypes:=ts})(hf:ρ f=fv)(hx:ρ x=.agg (bD.E X).toArray)(hy:ρ y=.agg (bD.E Y).toArray)(sX:S X)(sY:S Y)(hJ:J w):
 bL prog ρ o w (CU (lt X Y)).p:=by
 obtain⟨bs,rfl,hc⟩:=C.call
 have hr:(execOp ρ o).run prog w=.ok (.enter 34 (#[.agg (bD.E X).toArray,.agg (bD.E Y).toArray]++bs)) w:=by
  simp[execOp,ho,resolve,Deferred.ofValue,hf,invoke,hx,hy,call34]
 unfold bL;rw[hr];refine(hc X Y w sX sY hJ).mono ?_;rintro e w' ⟨z,rfl,hz,he⟩;exact⟨_,rfl,he,z,rfl,hz⟩
theorem iU(x i:Operand)(ho:o.op=.indexAddr 62 x i)(hx:ρ x=.slice (some ⟨g,0,none⟩) n cap)(k:Nat)(hi:ρ i=.int .i64 k)(hrw:Rw g cap n w xs)(hk:xs[k]? =some X):bL prog ρ o w (aK (bD.E X)).p:=by
 obtain⟨hl,hown⟩:=hrw;subst hl;obtain⟨A,c',hv,hc,hsl⟩:=hown.form;cases hv
 exact iq bD x i ho _ xs cap hx k hi hsl X hk
theorem jC(x:Operand)(ho:o.op=.load 67 x)(hp:(aK (bD.E X)).p (ρ x) w):bL prog ρ o w (Ty.is (.agg (bD.E X).toArray)).p:=
 bU 67 x ho isAgg67 7 sizeOf67 (bD.E X) (bD.hE X) hp rfl
theorem wV(t t':TypeId)(x y:Operand)(ho:o.op=.binOp .lss t x y t')(b:Bool)(hx:(CU b).p (ρ x) w)(hy:ρ y=.int .i64 0):bL prog ρ o w (Ty.is (.bool b)).p:=by
 obtain⟨z,hz,hb⟩:=hx;exact eF .lss t t' x y ho z 0 hz hy (fun w=>by rw[Vf,hb]) rfl
end
end Go.Proofs.YtgboomjahhnldaaGreatDoor.Ac
