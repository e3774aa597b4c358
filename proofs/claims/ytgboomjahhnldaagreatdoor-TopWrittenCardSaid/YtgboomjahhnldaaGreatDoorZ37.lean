/- A part of the proof of TopWritten, printed small: TCheck TEqS TEqW TEqU TEqI TRules. -/
import Derived.Test.YtgboomjahhnldaaGreatDoorZ36
import Derived.Test.YtgboomjahhnldaaGreatDoorZ27
import Derived.Test.YtgboomjahhnldaaGreatDoorZ23
import Derived.Test.YtgboomjahhnldaaGreatDoorZ26
import Derived.Test.YtgboomjahhnldaaGreatDoorZ35
set_option maxRecDepth 100000
set_option maxHeartbeats 25600000
set_option linter.all false
namespace Go.Proofs.YtgboomjahhnldaaGreatDoor
open Go.Proofs.Tryz Go.RowKit
theorem Nl(A:Option Addr)(c:Nat)(l:List ByteArray)(n:Int)(w:World)(hs:Sl bP w A l)(hn:l.length<=1000000):Calls prog 123 #[.slice A l.length c,.int .i64 n] w (lN w):=by
 have Hv:=ah (Vw A c l w hs hn);clear hs;obtain⟨b2,hb2⟩:∃b,decide (n<=(l.length:Int))=b:=⟨_,rfl⟩;go_enter func123,ntmps123
 go_wp2_with fail
 refine Hv.out.mono ?_;rintro e w2 ⟨b,rfl,hx2⟩;cases b with
 |true=>
  go_wp2;go_ret;exact⟨_,rfl,hx2⟩
 |false=>
  go_wp2;go_ret;exact⟨_,rfl,hx2⟩
theorem Nn(q:bE)(w:World):Calls prog 124 #[.agg q.cells.toArray] w (lN w):=by
 have hw:=fun wq=>Fb q.nth 0 256 wq;obtain⟨B,hB⟩:=aH ((decide (0<=q.nth)&&decide (q.nth<=256)));rw[hB]at hw;have Hw:=ah hw;clear hw hB;go_enter func124,ntmps124
 go_upto_region 1 with(refine aG aT (.tmp 0) rfl rfl q rfl fun wA aR bG bB aO=> ?_)
 have c4:=aO.one 4 (u:=.int .i64 q.nth) rfl;simp only[bV]at c4;have zF:=ah (Hw.out wA);clear bG bB aO Hw;go_wp2_with fail
 refine zF.out.mono ?_;rintro e w2 ⟨rfl,rfl⟩;go_wp2;go_ret;exact⟨_,rfl,aR⟩
theorem oz{W:World}{b:Nat}{q:bE}(h:At W b 0 (aT.E q)):W.cell? ⟨b,2,none⟩=some (.slice q.bA q.bN q.bC)/\W.cell? ⟨b,3,none⟩=some (.int .i64 q.wh)/\W.cell? ⟨b,4,none⟩=some (.int .i64 q.nth)/\W.cell? ⟨b,13,none⟩=some (.slice q.oA q.oN q.oC)/\W.cell? ⟨b,14,none⟩=some (.slice q.nA q.nN q.nC)/\W.cell? ⟨b,15,none⟩=some (.string q.label):=
 ⟨by simpa using h.one 2 (u:=.slice q.bA q.bN q.bC) rfl,by simpa using h.one 3 (u:=.int .i64 q.wh) rfl,by simpa using h.one 4 (u:=.int .i64 q.nth) rfl,by simpa using h.one 13 (u:=.slice q.oA q.oN q.oC) rfl,by simpa using h.one 14 (u:=.slice q.nA q.nN q.nC) rfl,by simpa using h.one 15 (u:=.string q.label) rfl⟩
theorem lN.v{w w':World}{e:Ending}(h:lN w e w'):mq False w e w':=by
 obtain⟨b,h1,h2⟩:=h;exact⟨b,h1,(fun h=>h.elim),h2⟩
theorem Y2(q:bE)(w:World):Calls prog 120 #[.agg q.cells.toArray] w (mq True w):=by
 go_enter func120,ntmps120
 go_upto_region 1 with(refine aG aT (.tmp 0) rfl rfl q rfl fun wA aR bG bB aO=> ?_)
 clear bG bB aO;go_wp2;go_ret;exact⟨_,rfl,(fun _=>rfl),aR⟩
section
variable {x:qo} {q:bE} {w:World}
theorem WT(hq:gF w x q)(hx:sM x)(n:Int)(wq:World)(he:Ext w wq):Calls prog 123 #[.slice q.oA q.oN q.oC,.int .i64 n] wq (lN wq):=by
 have h:=Nl q.oA q.oC x.old n wq (hq.oS.ext he) (by have:=hx.o;omega)
 rwa[<-hq.oN]at h
theorem Om(hq:gF w x q)(hx:sM x)(n:Int)(wq:World)(he:Ext w wq):Calls prog 123 #[.slice q.nA q.nN q.nC,.int .i64 n] wq (lN wq):=by
 have h:=Nl q.nA q.nC x.iE n wq (hq.nS.ext he) (by have:=hx.n;omega)
 rwa[<-hq.nN]at h
end
theorem Y3(x:qo)(q:bE)(w:World)(hq:gF w x q)(hx:sM x):Calls prog 122 #[.agg q.cells.toArray] w (mq False w):=by
 have Ho:=ah (WT hq hx 1);have Hn:=ah (Om hq hx 0);clear hq hx;go_enter func122,ntmps122
 go_upto_region 1 with(refine aG aT (.tmp 0) rfl rfl q rfl fun wA aR bG bB aO=> ?_)
 have hlA:=ay bB;obtain⟨c2,c3,c4,c13,c14,c15⟩:=oz aO;have J7:=ah (Ho.out wA aR);have jr:=ah aO;clear bG bB aO Ho;go_wp2_with fail
 refine J7.out.mono ?_;rintro e w2 ⟨b,rfl,hx2⟩;obtain⟨c2,c3,c4,c13,c14,c15⟩:=oz (jr.out.ext hx2 hlA);have lX:=aR.trans hx2;have sN:=ah (Hn.out w2 lX);have pU:=ah (jr.out.ext hx2 hlA);clear J7 Hn;cases b with
 |false=>
  go_wp2;go_ret;exact lN.v ⟨_,rfl,lX⟩
 |true=>
  go_wp2_with fail
  refine sN.out.mono ?_;rintro e w3 ⟨b,rfl,hx3⟩;have tC:=lX.trans hx3;have jq:=ah (pU.out.ext hx3 (bQ hlA hx2.size));have Hnt:=ah (Nn q w3);clear sN;cases b with
  |false=>
   go_wp2;go_ret;exact lN.v ⟨_,rfl,tC⟩
  |true=>
   go_wp2_with ((with_reducible refine au aT (.tmp 1) ?_ ?_ ?_ w.heap.size 0 ?_ q ?_ ?_);rfl;rfl;rfl;rfl;exact jq.out)
   refine Hnt.out.mono ?_;rintro e w4 ⟨b,rfl,hx4⟩;go_wp2;go_ret;exact lN.v ⟨_,rfl,tC.trans hx4⟩
theorem Y4(x:qo)(q:bE)(w:World)(hq:gF w x q)(hx:sM x):Calls prog 126 #[.agg q.cells.toArray] w (mq False w):=by
 have Ho:=ah (WT hq hx 0);have Hn:=ah (Om hq hx 1);clear hq hx;go_enter func126,ntmps126
 go_upto_region 1 with(refine aG aT (.tmp 0) rfl rfl q rfl fun wA aR bG bB aO=> ?_)
 have hlA:=ay bB;obtain⟨c2,c3,c4,c13,c14,c15⟩:=oz aO;have J7:=ah (Ho.out wA aR);have jr:=ah aO;clear bG bB aO Ho;go_wp2_with fail
 refine J7.out.mono ?_;rintro e w2 ⟨b,rfl,hx2⟩;obtain⟨c2,c3,c4,c13,c14,c15⟩:=oz (jr.out.ext hx2 hlA);have lX:=aR.trans hx2;have sN:=ah (Hn.out w2 lX);have pU:=ah (jr.out.ext hx2 hlA);clear J7 Hn;cases b with
 |false=>
  go_wp2;go_ret;exact lN.v ⟨_,rfl,lX⟩
 |true=>
  go_wp2_with fail
  refine sN.out.mono ?_;rintro e w3 ⟨b,rfl,hx3⟩;have tC:=lX.trans hx3;have hl3:=bQ (bQ hlA hx2.size) hx3.size;have jq:=ah (pU.out.ext hx3 (bQ hlA hx2.size));have Hnt:=ah (Nn q w3);clear sN;cases b with
  |false=>
   go_wp2;go_ret;exact lN.v ⟨_,rfl,tC⟩
  |true=>
   go_wp2_with ((with_reducible refine au aT (.tmp 1) ?_ ?_ ?_ w.heap.size 0 ?_ q ?_ ?_);rfl;rfl;rfl;rfl;exact jq.out)
   refine Hnt.out.mono ?_;rintro e w4 ⟨b,rfl,hx4⟩;obtain⟨c2,c3,c4,c13,c14,c15⟩:=oz (jq.out.ext hx4 hl3);have zX:=tC.trans hx4;cases b with
   |false=>
    go_wp2;go_ret;exact lN.v ⟨_,rfl,zX⟩
   |true=>
    by_cases h0:q.oN=0
    ·have d0:decide ((q.oN:Int)>0)=false:=aY (by omega)
     go_wp2;go_ret;exact lN.v ⟨_,rfl,zX⟩
    ·have d0:decide ((q.oN:Int)>0)=true:=bJ (by omega)
     have d0':decide (0<q.oN)=true:=bJ (by omega);go_wp2;go_ret;exact lN.v ⟨_,rfl,zX⟩
theorem Y5(x:qo)(q:bE)(w:World)(hq:gF w x q)(hx:sM x):Calls prog 128 #[.agg q.cells.toArray] w (mq False w):=by
 have Hn:=ah (Om hq hx 0);clear hq hx;go_enter func128,ntmps128
 go_upto_region 1 with(refine aG aT (.tmp 0) rfl rfl q rfl fun wA aR bG bB aO=> ?_)
 obtain⟨c2,c3,c4,c13,c14,c15⟩:=oz aO;have sN:=ah (Hn.out wA aR);clear bG bB aO Hn;go_wp2_with fail
 refine sN.out.mono ?_;rintro e w2 ⟨b,rfl,hx2⟩;go_wp2;go_ret;exact lN.v ⟨_,rfl,aR.trans hx2⟩
theorem Y6(x:qo)(q:bE)(w:World)(hq:gF w x q)(hx:sM x):Calls prog 130 #[.agg q.cells.toArray] w (mq False w):=by
 have Hv:=ah (fun wq=>CV q.label wq (by rw[hq.label];have:=hx.l;omega));clear hq hx;obtain⟨B,hB⟩:=aH (sj q.label.data.toList);rw[hB]at Hv;clear hB;go_enter func130,ntmps130
 go_upto_region 1 with(refine aG aT (.tmp 0) rfl rfl q rfl fun wA aR bG bB aO=> ?_)
 obtain⟨c2,c3,c4,c13,c14,c15⟩:=oz aO;have Ml:=ah (Hv.out wA);clear bG bB aO Hv;go_wp2_with fail
 refine Ml.out.mono ?_;rintro e w2 ⟨rfl,hx2⟩;go_wp2;go_ret;exact lN.v ⟨_,rfl,aR.trans hx2⟩
theorem Y7(x:qo)(q:bE)(w:World)(hq:gF w x q)(hx:sM x):Calls prog 133 #[.agg q.cells.toArray] w (mq False w):=by
 have Hv:=ah (fun wq (he:Ext w wq)=>by
  have h:=AY q.bA q.bC x.oV wq (hq.bS.ext he) (by have:=hx.b;omega) (fun s hs=>by have:=hx.bs_ s hs;omega)
  rwa[<-hq.bN]at h)
 clear hq hx;obtain⟨B,hB⟩:=aH (yc x.oV);rw[hB]at Hv;have hw:=fun wq=>Qh q.wh wq;obtain⟨C,hC⟩:=aH ((decide (0<=q.wh)&&decide (q.wh<=3)));rw[hC]at hw;have Hw:=ah hw;clear hB hC hw;go_enter func133,ntmps133
 go_upto_region 1 with(refine aG aT (.tmp 0) rfl rfl q rfl fun wA aR bG bB aO=> ?_)
 obtain⟨c2,c3,c4,c13,c14,c15⟩:=oz aO;have zF:=ah (Hw.out wA);have Ml:=ah (Hv.out wA aR);clear bG bB aO Hw Hv;go_wp2_with fail
 refine zF.out.mono ?_;rintro e w2 ⟨rfl,rfl⟩;cases C with
 |false=>
  go_wp2;go_ret;exact lN.v ⟨_,rfl,aR⟩
 |true=>
  go_wp2_with fail
  refine Ml.out.mono ?_;rintro e w3 ⟨rfl,hx3⟩;go_wp2;go_ret;exact lN.v ⟨_,rfl,aR.trans hx3⟩
theorem ah9(x y:GStep)(W:World):(binOp .neq 75 (.agg (dG.E x).toArray) (.agg (dG.E y).toArray)).run prog W=.ok (.bool (!decide (x=y))) W:=by
 have u:=underlying75;have h:=rW x.l y.l;obtain⟨k,l⟩:=x;obtain⟨k2,l2⟩:=y;simp only[dG,GStep.cells]at*;by_cases hk:k=k2
 ·by_cases hl:l=l2
  ·subst hk;subst hl
   go_simp
  ·simp only[GStep.mk.injEq,hk,hl,and_false,decide_false,Bool.not_false]
   have hb:(l.toList==l2.toList)=false:=by rw[h];simp[hl]
   go_simp
 ·simp only[GStep.mk.injEq,hk,false_and,decide_false,Bool.not_false]
  have hb:(k==k2)=false:=by simp[hk]
  go_simp
theorem J8(A B:Option Addr)(c d:Nat)(xs ys:List GStep)(w:World)(hx:Sl dG w A xs)(hy:Sl dG w B ys)(hn:xs.length<=1000000):
 Calls prog 142 #[.slice A xs.length c,.slice B ys.length d] w (mq (xs=ys) w):=by
 by_cases hl:xs.length=ys.length
 ·have hle:((xs.length:Int) !=(ys.length:Int))=false:=by simp[hl]
  have Hl:=ah hl;have Tv:=ah hx;have HSy:=ah hy;clear hl hx hy;go_enter func142,ntmps142
  go_wp2
  go_loopw [5,13] (fun u5 i wr=>∃k:Nat,k<=xs.length/\i=.int .i64 k/\Ext w wr) (fun _ i _=>xs.length-(intOf i).toNat)
  case atStart=>exact⟨0,bI _,rfl,Ext.refl _⟩
  case round=>
   obtain⟨k,hk,rfl,hext⟩:=hrel;by_cases hlt:k<xs.length
   ·have f1:=eY k xs.length
    have hlt':k<ys.length:=by rw[<-Hl.out];exact hlt
    have Hsx:=ah (fun wq (he:Ext wr wq)=>Tv.out.ext (hext.trans he));have Hsy:=ah (fun wq (he:Ext wr wq)=>HSy.out.ext (hext.trans he));obtain⟨s,hs⟩:=aH (xs[k]);obtain⟨s2,hs2⟩:∃s,ys[k]=s:=⟨_,rfl⟩;have HX:=ah (show xs[k]? =some s from by rw[fP hlt,hs]);have HY:=ah (show ys[k]? =some s2 from by rw[fP hlt',hs2]);obtain⟨BB,Me⟩:=aH ((!decide (s=s2)));have Pm:=ah Me;clear hs hs2 Me;go_upto_region 6 with fail
    refine iw (by kernel_rfl) (fun i=>match i with|0=>Ty.is (.slice A xs.length c)|1=>Ty.is (.int .i64 (k:Nat))|2=>aK (dG.E s)|3=>Ty.is (.agg (dG.E s).toArray)|4=>Ty.is (.slice B ys.length d)|5=>Ty.is (.int .i64 (k:Nat))|6=>aK (dG.E s2)|7=>Ty.is (.agg (dG.E s2).toArray)|8=>Ty.is (.bool BB)|_=>Ty.any) (by kernel_rfl) rfl ?_;intro v;refine⟨?_,?_,?_,?_,?_,?_,?_,?_,?_,?_⟩
    ·exact fun wq hq _=>ak rfl (aF (.tmp 0) rfl rfl rfl)
    ·exact fun wq hq _=>ak rfl (aF (.tmp 5) rfl rfl rfl)
    ·rintro wq hq ⟨h0,h1,-⟩
     change v 0=_ at h0;change v 1=_ at h1;refine ak rfl ?_;exact iq dG (.tmp 16) (.tmp 17) rfl _ xs c h0 k h1 (Hsx.out wq hq) s HX.out
    ·rintro wq hq ⟨h0,-⟩;exact ak rfl (bU 75 (.tmp 18) rfl isAgg75 2 sizeOf75 (dG.E s) rfl h0 rfl)
    ·exact fun wq hq _=>ak rfl (aF (.tmp 1) rfl rfl rfl)
    ·exact fun wq hq _=>ak rfl (aF (.tmp 5) rfl rfl rfl)
    ·rintro wq hq ⟨h0,h1,-⟩
     change v 4=_ at h0;change v 5=_ at h1;refine ak rfl ?_;exact iq dG (.tmp 20) (.tmp 21) rfl _ ys d h0 k h1 (Hsy.out wq hq) s2 HY.out
    ·rintro wq hq ⟨h0,-⟩;exact ak rfl (bU 75 (.tmp 22) rfl isAgg75 2 sizeOf75 (dG.E s2) rfl h0 rfl)
    ·rintro wq hq ⟨h0,h1,-⟩;exact ak rfl (tT .neq 75 75 (.tmp 19) (.tmp 23) rfl _ _ h0 h1 (by kernel_rfl) (fun w=>by rw[ah9,Pm.out]) rfl)
    ·intro wq hq hT
     have k8:=hT 8 (by decide);change v 8=_ at k8;clear hT;simp only[List.drop_succ_cons,List.drop_zero,gH,dK,List.set_cons_succ,List.set_cons_zero,Nat.reduceAdd];rw[k8];have sP:=hext.trans hq;clear hq;cases BB with
     |true=>
      go_wp2;go_ret;refine⟨_,rfl,fun h=> ?_,sP⟩;have h1:=HX.out;rw[h,HY.out]at h1;have h2:=Pm.out;rw[lM h1]at h2;simp at h2
     |false=>
      go_wp2;go_roundw
      case rel=>exact⟨k+1,by omega,by go_num,sP⟩
      case measure=>simp[intOf];omega
   ·have f1:=fT k xs.length
    go_wp2;go_ret;exact⟨_,rfl,(fun _=>rfl),hext⟩
 ·have hle:((xs.length:Int) !=(ys.length:Int))=true:=by simp;omega
  go_enter func142,ntmps142
  go_wp2;go_ret;exact⟨_,rfl,(fun h=>absurd (by rw[h]) hl),Ext.refl _⟩
theorem aeY(x y:aJ)(W:World):(binOp .neq 48 (.agg (aQ.E x).toArray) (.agg (aQ.E y).toArray)).run prog W=.ok (.bool (!decide (x=y))) W:=ahM W x y
theorem J9(A B:Option Addr)(c d:Nat)(xs ys:List aJ)(w:World)(hx:Sl aQ w A xs)(hy:Sl aQ w B ys)(hn:xs.length<=1000000):
 Calls prog 194 #[.slice A xs.length c,.slice B ys.length d] w (mq (xs=ys) w):=by
 by_cases hl:xs.length=ys.length
 ·have hle:((xs.length:Int) !=(ys.length:Int))=false:=by simp[hl]
  have Hl:=ah hl;have Tv:=ah hx;have HSy:=ah hy;clear hl hx hy;go_enter func194,ntmps194
  go_wp2
  go_loopw [5,13] (fun u5 i wr=>∃k:Nat,k<=xs.length/\i=.int .i64 k/\Ext w wr) (fun _ i _=>xs.length-(intOf i).toNat)
  case atStart=>exact⟨0,bI _,rfl,Ext.refl _⟩
  case round=>
   obtain⟨k,hk,rfl,hext⟩:=hrel;by_cases hlt:k<xs.length
   ·have f1:=eY k xs.length
    have hlt':k<ys.length:=by rw[<-Hl.out];exact hlt
    have Hsx:=ah (fun wq (he:Ext wr wq)=>Tv.out.ext (hext.trans he));have Hsy:=ah (fun wq (he:Ext wr wq)=>HSy.out.ext (hext.trans he));obtain⟨s,hs⟩:=aH (xs[k]);obtain⟨s2,hs2⟩:∃s,ys[k]=s:=⟨_,rfl⟩;have HX:=ah (show xs[k]? =some s from by rw[fP hlt,hs]);have HY:=ah (show ys[k]? =some s2 from by rw[fP hlt',hs2]);obtain⟨BB,Me⟩:=aH ((!decide (s=s2)));have Pm:=ah Me;clear hs hs2 Me;go_upto_region 6 with fail
    refine iw (by kernel_rfl) (fun i=>match i with|0=>Ty.is (.slice A xs.length c)|1=>Ty.is (.int .i64 (k:Nat))|2=>aK (aQ.E s)|3=>Ty.is (.agg (aQ.E s).toArray)|4=>Ty.is (.slice B ys.length d)|5=>Ty.is (.int .i64 (k:Nat))|6=>aK (aQ.E s2)|7=>Ty.is (.agg (aQ.E s2).toArray)|8=>Ty.is (.bool BB)|_=>Ty.any) (by kernel_rfl) rfl ?_;intro v;refine⟨?_,?_,?_,?_,?_,?_,?_,?_,?_,?_⟩
    ·exact fun wq hq _=>ak rfl (aF (.tmp 0) rfl rfl rfl)
    ·exact fun wq hq _=>ak rfl (aF (.tmp 5) rfl rfl rfl)
    ·rintro wq hq ⟨h0,h1,-⟩
     change v 0=_ at h0;change v 1=_ at h1;refine ak rfl ?_;exact iq aQ (.tmp 16) (.tmp 17) rfl _ xs c h0 k h1 (Hsx.out wq hq) s HX.out
    ·rintro wq hq ⟨h0,-⟩;exact ak rfl (bU 48 (.tmp 18) rfl isAgg48 4 sizeOf48 (aQ.E s) rfl h0 rfl)
    ·exact fun wq hq _=>ak rfl (aF (.tmp 1) rfl rfl rfl)
    ·exact fun wq hq _=>ak rfl (aF (.tmp 5) rfl rfl rfl)
    ·rintro wq hq ⟨h0,h1,-⟩
     change v 4=_ at h0;change v 5=_ at h1;refine ak rfl ?_;exact iq aQ (.tmp 20) (.tmp 21) rfl _ ys d h0 k h1 (Hsy.out wq hq) s2 HY.out
    ·rintro wq hq ⟨h0,-⟩;exact ak rfl (bU 48 (.tmp 22) rfl isAgg48 4 sizeOf48 (aQ.E s2) rfl h0 rfl)
    ·rintro wq hq ⟨h0,h1,-⟩;exact ak rfl (tT .neq 48 48 (.tmp 19) (.tmp 23) rfl _ _ h0 h1 (by kernel_rfl) (fun w=>by rw[aeY,Pm.out]) rfl)
    ·intro wq hq hT
     have k8:=hT 8 (by decide);change v 8=_ at k8;clear hT;simp only[List.drop_succ_cons,List.drop_zero,gH,dK,List.set_cons_succ,List.set_cons_zero,Nat.reduceAdd];rw[k8];have sP:=hext.trans hq;clear hq;cases BB with
     |true=>
      go_wp2;go_ret;refine⟨_,rfl,fun h=> ?_,sP⟩;have h1:=HX.out;rw[h,HY.out]at h1;have h2:=Pm.out;rw[lM h1]at h2;simp at h2
     |false=>
      go_wp2;go_roundw
      case rel=>exact⟨k+1,by omega,by go_num,sP⟩
      case measure=>simp[intOf];omega
   ·have f1:=fT k xs.length
    go_wp2;go_ret;exact⟨_,rfl,(fun _=>rfl),hext⟩
 ·have hle:((xs.length:Int) !=(ys.length:Int))=true:=by simp;omega
  go_enter func194,ntmps194
  go_wp2;go_ret;exact⟨_,rfl,(fun h=>absurd (by rw[h]) hl),Ext.refl _⟩
theorem uid{W:World}{b:Nat}{r:aB}(h:At W b 0 (aj.E r)):At W b 0 (aM.E r.id):=fun j y hy=>h j y (by
 have hk:j<3:=(List.getElem?_eq_some_iff.1 hy).1
 match j,hk with
 |0,_=>exact hy
 |1,_=>exact hy
 |2,_=>exact hy)
theorem Y8(us vs:List av)(rs ss:List aB)(A B:Option Addr)(c d:Nat)(w:World)(hx:Sl aj w A rs)(hy:Sl aj w B ss)(hu:ReadsAll w us rs)(hv:ReadsAll w vs ss)(hn:rs.length<=1000000)(ih:∀k (_:k<us.length) (v:av) (r s:aB) (wq:World),Reads wq us[k] r->Reads wq v s->dI v->Calls prog 144 #[.agg r.cells.toArray,.agg s.cells.toArray] wq (mq (us[k]=v) wq))(hok:∀v∈vs,dI v):
 Calls prog 195 #[.slice A rs.length c,.slice B ss.length d,.func (.func 144) #[] #[]] w (mq (us=vs) w):=by
 have CO:=hu.length;have hvl:=hv.length;by_cases hl:rs.length=ss.length
 ·have hle:((rs.length:Int) !=(ss.length:Int))=false:=by simp[hl]
  have Hl:=ah hl;have Hx:=ah hx;have Hy:=ah hy;have Hu:=ah hu;have Hv:=ah hv;have Fy:=ah CO;have Hvl:=ah hvl;have LV:=ah ih;have fI:=ah hok;clear hl hx hy hu hv CO hvl ih hok;go_enter func195,ntmps195
  go_wp2
  go_loopw [7,17] (fun u7 i wr=>∃k:Nat,k<=rs.length/\i=.int .i64 k/\Ext w wr) (fun _ i _=>rs.length-(intOf i).toNat)
  case atStart=>exact⟨0,bI _,rfl,Ext.refl _⟩
  case round=>
   obtain⟨k,hk,rfl,hext⟩:=hrel;by_cases hlt:k<rs.length
   ·have f1:=eY k rs.length
    have hlt':k<ss.length:=by rw[<-Hl.out];exact hlt
    have FW:k<us.length:=by rw[<-Fy.out];exact hlt
    have hkv:k<vs.length:=by rw[<-Hvl.out];exact hlt'
    obtain⟨b,off,hA,hbb,hcs⟩:=(Hx.out.ext hext).at_ hlt;obtain⟨b2,off2,hB,asB,hcs2⟩:=(Hy.out.ext hext).at_ hlt';have Hq:=ah (ReadsAll.get Hu.out k FW hlt);have UO:=ah (ReadsAll.get Hv.out k hkv hlt');obtain⟨q,hqq⟩:=aH (rs[k]);obtain⟨q2,ami⟩:∃q,ss[k]=q:=⟨_,rfl⟩;rw[hqq]at hcs Hq;rw[ami]at hcs2 UO;have jD:=ah (show At wr b (off+k*8) (aj.E q)from hcs);have amj:=ah (show∀W,Ext wr W->At W b2 (off2+k*8) (aj.E q2)from fun W he=>(show At wr b2 (off2+k*8) (aj.E q2)from hcs2).ext he asB);have HA:=ah hA;have HB:=ah hB;have iY:=ah (fun W (he:Ext w W)=>LV.out k FW vs[k] q q2 W (Reads.ext he _ _ Hq.out) (Reads.ext he _ _ UO.out) (fI.out _ (dW hkv)));have Hxt:=ah hext;clear hcs hcs2 hA hB hqq ami hext;rw[HA.out,HB.out];go_upto_region 6 with(first|((with_reducible refine au aj (.tmp 20) ?_ ?_ ?_ b (off+k*8) ?_ q ?_ ?_);rfl;rfl;rfl;rfl;exact jD.out)|(refine aL aj rfl rfl fun wG dL fF dM=> ?_)|(refine aD aj (.tmp 8) (.tmp 21) rfl rfl wr wr.heap.size rfl q rfl _ _ dM rfl dL (aI _) fun w3 hx3 hz3 hk3 dX ho3=> ?_))
    have iR:=ah hx3;have jq:=ah (fun W (he:Ext w3 W)=>dX.ext he (ay hk3));have adG:=ah (amj.out w3 hx3);clear dL fF dM hx3 hz3 hk3 dX ho3 amj;go_upto_region 7 with(first|((with_reducible refine au aj (.tmp 24) ?_ ?_ ?_ b2 (off2+k*8) ?_ q2 ?_ ?_);rfl;rfl;rfl;rfl;exact adG.out)|(refine aL aj rfl rfl fun wH mO yj om=> ?_)|(refine aD aj (.tmp 9) (.tmp 25) rfl rfl w3 w3.heap.size rfl q2 rfl _ _ om rfl mO (aI _) fun w4 hx4 yI hk4 IL ho4=> ?_))
    have N9:=ah IL;have anI:=ah (jq.out w4 hx4);have JM:=ah (Hxt.out.trans (iR.out.trans hx4));have anJ:=ah (iY.out w4 JM.out);clear mO yj om hx4 yI hk4 IL ho4 iY;go_wp2_with (first|((with_reducible refine au aj (.tmp 8) ?_ ?_ ?_ wr.heap.size 0 ?_ q ?_ ?_);rfl;rfl;rfl;rfl;exact anI.out)|((with_reducible refine au aj (.tmp 9) ?_ ?_ ?_ w3.heap.size 0 ?_ q2 ?_ ?_);rfl;rfl;rfl;rfl;exact N9.out))
    refine anJ.out.mono ?_;rintro e w5 ⟨b,rfl,hb,hx5⟩;have mg:=ah (JM.out.trans hx5);have Hb:=ah hb;clear hb hx5;cases b with
    |false=>
     go_wp2;go_ret;refine⟨_,rfl,fun h=> ?_,mg.out⟩;have:=Hb.out (by simp only[h]);cases this
    |true=>
     go_wp2;go_roundw
     case rel=>exact⟨k+1,by omega,by go_num,mg.out⟩
     case measure=>simp[intOf];omega
   ·have f1:=fT k rs.length
    go_wp2;go_ret;exact⟨_,rfl,(fun _=>rfl),hext⟩
 ·have hle:((rs.length:Int) !=(ss.length:Int))=true:=by simp;omega
  go_enter func195,ntmps195
  go_wp2;go_ret;exact⟨_,rfl,(fun h=>absurd (by rw[CO,hvl,h]) hl),Ext.refl _⟩
def EqAt(N:Nat):Prop:=∀(u v:av) (r s:aB) (w:World),SizeOf.sizeOf u<=N->Reads w u r->Reads w v s->dI u->dI v->Calls prog 144 #[.agg r.cells.toArray,.agg s.cells.toArray] w (mq (u=v) w)
theorem aeZ(N:Nat)(ih:EqAt N):EqAt (N+1):=by
 intro u v r s w hN hr hs hou hov;obtain⟨i1,k1,l1,hn1,-,hS1,wn1,-,wS1,kn1,-,rs,kS1,kA1,kl1⟩:=hr.j5;obtain⟨i2,k2,l2,hn2,-,hS2,wn2,-,wS2,kn2,-,ss,kS2,kA2,kl2⟩:=hs.j5;have hH:=hou.all.head;have HI:=ah (show u=v->r.id=s.id from fun h=>by rw[i1,i2,h]);have HK:=ah (show u=v->r.kind=s.kind from fun h=>by rw[k1,k2,h]);have HL:=ah (show u=v->r.label=s.label from fun h=>by rw[l1,l2,h]);have Hh:=ah (fun wq (he:Ext w wq)=>J9 r.hA s.hA r.hc s.hc u.head v.head wq (hS1.ext he) (hS2.ext he) (by have:=hH.2.1;omega));have Hw:=ah (fun wq (he:Ext w wq)=>J9 r.wA s.wA r.wc s.wc u.words v.words wq (wS1.ext he) (wS2.ext he) (by have:=hH.2.2.1;omega));have Hk:=ah (fun wq (he:Ext w wq)=>Y8 u.kids v.kids rs ss r.kA s.kA r.kc s.kc wq (kS1.ext he) (kS2.ext he) (ReadsAll.ext he _ _ kA1) (ReadsAll.ext he _ _ kA2) (by have:=hH.2.2.2.1;omega) (fun k hk v r s wq hr hs ho=>ih _ _ _ _ _ (qO hN hk) hr hs (hou.kid (dW hk)) ho) (fun v hv=>hov.kid hv));rw[<-hn1,<-hn2]at Hh;rw[<-wn1,<-wn2]at Hw;rw[kl1,kl2,<-kn1,<-kn2]at Hk;clear i1 k1 l1 hn1 hS1 wn1 wS1 kn1 kS1 kA1 kl1 i2 k2 l2 hn2 hS2 wn2 wS2 kn2 kS2 kA2 kl2 hH hN hr hs hou hov ih;go_enter func144,ntmps144
 go_upto_region 1 with(first|(refine aG aj (.tmp 0) rfl rfl r rfl fun wA aR bG bB aO=> ?_)|(refine aG aj (.tmp 1) rfl rfl s rfl fun wB eH ji hkB eG=> ?_))
 have HX:=ah (aR.trans eH);have dO:=ah (fun W (he:Ext wB W)=>aO.ext (eH.trans he) (ay bB));have tL:=ah (show∀W,Ext wB W->At W (w.heap.size+1) 0 (aj.E s)from fun W he=>by rw[<-bG];exact eG.ext he (ay hkB));clear aR bG bB aO eH ji hkB eG;obtain⟨c3,c4,c5,c6,c7⟩:=o8 (dO.out wB (Ext.refl _));obtain⟨d3,d4,d5,d6,d7⟩:=o8 (tL.out wB (Ext.refl _));have iT:=ah (uid (dO.out wB (Ext.refl _)));have Ol:=ah (uid (tL.out wB (Ext.refl _)));by_cases e1:r.id=s.id
 ·have hq:=fun W=>(EY r.id s.id W).trans (by rw[bJ e1])
  have O8:=ah (Hh.out wB HX.out);clear e1;go_wp2_with (first|((with_reducible refine au aM (.tmp 5) ?_ ?_ ?_ w.heap.size 0 ?_ r.id ?_ ?_);rfl;rfl;rfl;rfl;exact iT.out)|((with_reducible refine au aM (.tmp 7) ?_ ?_ ?_ (w.heap.size+1) 0 ?_ s.id ?_ ?_);rfl;rfl;rfl;rfl;exact Ol.out))
  ·refine O8.out.mono ?_
   rintro e w2 ⟨b,rfl,hb,hx2⟩;have iF:=ah (HX.out.trans hx2);have Hb:=ah (show u=v->b=true from fun h=>hb (by rw[h]));cases b with
   |false=>
    go_wp2;go_ret;exact⟨_,rfl,Hb.out,iF.out⟩
   |true=>
    obtain⟨-,-,-,c6,c7⟩:=o8 (dO.out w2 hx2);obtain⟨-,-,-,d6,d7⟩:=o8 (tL.out w2 hx2);have zF:=ah (Hw.out w2 iF.out);have eD:=ah hx2;clear hb hx2;go_wp2_with fail
    refine zF.out.mono ?_;rintro e w3 ⟨b,rfl,hb,hx3⟩;have iR:=ah (iF.out.trans hx3);have Hb:=ah (show u=v->b=true from fun h=>hb (by rw[h]));cases b with
    |false=>
     go_wp2;go_ret;exact⟨_,rfl,Hb.out,iR.out⟩
    |true=>
     obtain⟨-,-,-,-,c7⟩:=o8 (dO.out w3 (eD.out.trans hx3));obtain⟨-,-,-,-,d7⟩:=o8 (tL.out w3 (eD.out.trans hx3));have DC:=ah (Hk.out w3 iR.out);clear hb hx3;go_wp2_with fail
     refine DC.out.mono ?_;rintro e w4 ⟨b,rfl,hb,hx4⟩;have JM:=ah (iR.out.trans hx4);have Hb:=ah (show u=v->b=true from fun h=>hb (by rw[h]));go_wp2;go_ret;exact⟨_,rfl,Hb.out,JM.out⟩
  ·rename_i hl
   go_ret;exact⟨_,rfl,(fun h=>absurd (by rw[HL.out h]) hl),HX.out⟩
  ·rename_i hk
   go_ret;exact⟨_,rfl,(fun h=>absurd (HK.out h) hk),HX.out⟩
 ·have hq:=fun W=>(EY r.id s.id W).trans (by rw[aY e1])
  go_wp2_with (first|((with_reducible refine au aM (.tmp 5) ?_ ?_ ?_ w.heap.size 0 ?_ r.id ?_ ?_);rfl;rfl;rfl;rfl;exact iT.out)|((with_reducible refine au aM (.tmp 7) ?_ ?_ ?_ (w.heap.size+1) 0 ?_ s.id ?_ ?_);rfl;rfl;rfl;rfl;exact Ol.out))
  go_ret;exact⟨_,rfl,(fun h=>absurd (HI.out h) e1),HX.out⟩
theorem WU:∀N,EqAt N
 |0=>fun _ _ _ _ _ h=>(xI h).elim
 |N+1=>aeZ N (WU N)
theorem aia(u v:av)(r s:aB)(w:World)(hr:Reads w u r)(hs:Reads w v s)(hou:dI u)(hov:dI v):Calls prog 144 #[.agg r.cells.toArray,.agg s.cells.toArray] w (mq (u=v) w):=WU _ u v r s w (aI _) hr hs hou hov
theorem ae0(A B:Option Addr)(n c d:Nat)(w:World):Calls prog 145 #[.slice A n c,.slice B 0 d,.func (.func 74) #[] #[]] w (mq (n=0) w):=by
 by_cases hn:n=0
 ·subst hn
  go_enter func145,ntmps145
  go_wp2
  go_loopw [7,17] (fun u7 i wr=>i=.int .i64 0/\wr=w) (fun _ _ _=>0)
  case atStart=>exact⟨rfl,rfl⟩
  case round=>
   obtain⟨rfl,rfl⟩:=hrel;go_wp2;go_ret;exact⟨_,rfl,(fun _=>rfl),Ext.refl _⟩
 ·have hle:((n:Int) !=0)=true:=by simp;omega
  go_enter func145,ntmps145
  go_wp2;go_ret;exact⟨_,rfl,(fun h=>absurd h hn),Ext.refl _⟩
theorem WV(A B:Option Addr)(c d:Nat)(xs ys:List ByteArray)(w:World)(hx:Sl bP w A xs)(hy:Sl bP w B ys)(hn:xs.length<=9223372036854775807):Calls prog 143 #[.slice A xs.length c,.slice B ys.length d] w (mq (xs=ys) w):=by
 refine(Ip A B c d xs ys w hx hy hn).mono ?_;rintro e w' ⟨rfl,m,rfl⟩;exact⟨_,rfl,(fun h=>bJ h),(Ext.refl w).drewN m⟩
theorem kU{W:World}{b:Nat}{q:bE}(h:At W b 0 (aT.E q)):(W.cell? ⟨b,0,none⟩=some (.int .i64 q.kind)/\W.cell? ⟨b,1,none⟩=some (.slice q.aA q.aN q.aC)/\W.cell? ⟨b,2,none⟩=some (.slice q.bA q.bN q.bC)/\W.cell? ⟨b,3,none⟩=some (.int .i64 q.wh)/\W.cell? ⟨b,4,none⟩=some (.int .i64 q.nth))/\(W.cell? ⟨b,13,none⟩=some (.slice q.oA q.oN q.oC)/\W.cell? ⟨b,14,none⟩=some (.slice q.nA q.nN q.nC)/\W.cell? ⟨b,15,none⟩=some (.string q.label)/\W.cell? ⟨b,16,none⟩=some (.string q.fr))/\
 (W.cell? ⟨b,17,none⟩=some (.int .i64 q.sk)/\W.cell? ⟨b,18,none⟩=some (.int .i64 q.sd)/\W.cell? ⟨b,19,none⟩=some (.string q.se)/\W.cell? ⟨b,20,none⟩=some (.int .i64 q.act)/\W.cell? ⟨b,21,none⟩=some (.int .i64 q.item)/\W.cell? ⟨b,22,none⟩=some (.int .i64 q.day)/\W.cell? ⟨b,23,none⟩=some (.string q.ev)/\W.cell? ⟨b,24,none⟩=some (.slice q.yA q.yN q.yC)):=by
 have g:=fun k (u:Value) (hu:(aT.E q)[k]? =some u)=>h.one k hu;simp only[bV]at g;exact⟨⟨g 0 _ rfl,g 1 _ rfl,g 2 _ rfl,g 3 _ rfl,g 4 _ rfl⟩,⟨g 13 _ rfl,g 14 _ rfl,g 15 _ rfl,g 16 _ rfl⟩,g 17 _ rfl,g 18 _ rfl,g 19 _ rfl,g 20 _ rfl,g 21 _ rfl,g 22 _ rfl,g 23 _ rfl,g 24 _ rfl⟩
theorem aib(a b:Int)(s:ByteArray)(a' b':Int)(s':ByteArray)(W:World):(binOp .eql 39 (.agg #[.int .i64 a,.int .i64 b,.string s]) (.agg #[.int .i64 a',.int .i64 b',.string s'])).run prog W=.ok (.bool (decide (a=a'/\b=b'/\s=s'))) W:=by
 have u:=underlying39;have h:=rW s s';by_cases ha:a=a'
 ·by_cases hb:b=b'
  ·by_cases hs:s=s'
   ·subst ha;subst hb;subst hs
    go_simp
   ·have hb':(s.toList==s'.toList)=false:=by rw[h];simp[hs]
    simp only[ha,hb,hs,and_false,decide_false]
    go_simp
  ·have hb':(b==b')=false:=by simp[hb]
   simp only[ha,hb,false_and,and_false,decide_false]
   go_simp
 ·have hb':(a==a')=false:=by simp[ha]
  simp only[ha,false_and,decide_false]
  go_simp
theorem Y9(x z:qo)(q p:bE)(w:World)(hx:gF w x q)(hz:gF w z p)(hox:sM x)(hou:dI x.unit)(hov:dI z.unit)(hp:p.yN=0):
 Calls prog 74 #[.agg q.cells.toArray,.agg p.cells.toArray] w (mq (x=z/\q.yN=0) w):=by
 obtain⟨V,hV⟩:∃V:Prop,(x=z/\q.yN=0)=V:=⟨_,rfl⟩;have HE:=ah (show V->q.kind=p.kind/\q.wh=p.wh/\q.nth=p.nth/\q.act=p.act/\q.item=p.item/\q.day=p.day from by rw[<-hV];rintro⟨rfl,-⟩;exact⟨hx.kind.trans hz.kind.symm,hx.wh.trans hz.wh.symm,hx.nth.trans hz.nth.symm,hx.act.trans hz.act.symm,hx.item.trans hz.item.symm,hx.day.trans hz.day.symm⟩);have HS:=ah (show V->q.label=p.label/\q.fr=p.fr/\q.ev=p.ev/\(q.sk=p.sk/\q.sd=p.sd/\q.se=p.se)from by rw[<-hV];rintro⟨rfl,-⟩;exact⟨hx.label.trans hz.label.symm,hx.fr.trans hz.fr.symm,hx.ev.trans hz.ev.symm,hx.sk.trans hz.sk.symm,hx.sd.trans hz.sd.symm,hx.se.trans hz.se.symm⟩);have HX:=ah (show V->x=z/\q.yN=0 from by rw[<-hV];exact id);have Ha:=ah (fun wq (he:Ext w wq)=>J8 q.aA p.aA q.aC p.aC x.at_ z.at_ wq (hx.aS.ext he) (hz.aS.ext he) (by have:=hox.a;omega));have Hb:=ah (fun wq (he:Ext w wq)=>J8 q.bA p.bA q.bC p.bC x.oV z.oV wq (hx.bS.ext he) (hz.bS.ext he) (by have:=hox.b;omega));have Ho:=ah (fun wq (he:Ext w wq)=>WV q.oA p.oA q.oC p.oC x.old z.old wq (hx.oS.ext he) (hz.oS.ext he) (by have:=hox.o;omega));have Hn:=ah (fun wq (he:Ext w wq)=>WV q.nA p.nA q.nC p.nC x.iE z.iE wq (hx.nS.ext he) (hz.nS.ext he) (by have:=hox.n;omega));have Hu:=ah (fun wq (he:Ext w wq)=>aia x.unit z.unit q.u p.u wq (Reads.ext he _ _ hx.unit) (Reads.ext he _ _ hz.unit) hou hov);rw[<-hx.aN,<-hz.aN]at Ha;rw[<-hx.bN,<-hz.bN]at Hb;rw[<-hx.oN,<-hz.oN]at Ho;rw[<-hx.nN,<-hz.nN]at Hn;have Hy:=ah (fun wq=>ae0 q.yA p.yA q.yN q.yC p.yC wq);rw[<-hp]at Hy;have Hp:=ah hp;rw[hV];clear hx hz hox hou hov hV hp;go_enter func74,ntmps74
 go_upto_region 1 with(first|(refine aG aT (.tmp 0) rfl rfl q rfl fun wA aR bG bB aO=> ?_)|(refine aG aT (.tmp 1) rfl rfl p rfl fun wB eH ji hkB eG=> ?_))
 have HXB:=ah (aR.trans eH);have dO:=ah (fun W (he:Ext wB W)=>aO.ext (eH.trans he) (ay bB));have tL:=ah (show∀W,Ext wB W->At W (w.heap.size+1) 0 (aT.E p)from fun W he=>by rw[<-bG];exact eG.ext he (ay hkB));clear aR bG bB aO eH ji hkB eG;go_cut [5] (fun s5 wx=>wx=wB/\∃bb:Bool,s5=.bool bb/\Hid (V->bb=true))
 case first=>
  obtain⟨⟨c0,-,-,c3,c4⟩,-,-,-,-,c20,c21,zD,-⟩:=kU (dO.out wB (Ext.refl _));obtain⟨⟨d0,-,-,d3,d4⟩,-,-,-,-,d20,d21,d22,-⟩:=kU (tL.out wB (Ext.refl _));go_wp2
  all_goals
   go_meet
   case rel=>exact⟨rfl,_,rfl,fun h=>by have hh:=HE.out h;first|rfl|(exfalso;omega)|(simp;omega)⟩
 case rest=>
  obtain⟨rfl,b5,rfl,H5⟩:=hcut;go_upto_region 2 with fail
  go_cut [6] (fun s6 wx=>wx=wc/\∃bb:Bool,s6=.bool bb/\Hid (V->bb=true))
  case first=>
   obtain⟨-,⟨-,-,c15,c16⟩,c17,c18,c19,-,-,-,c23,-⟩:=kU (dO.out wc (Ext.refl _));obtain⟨-,⟨-,-,d15,d16⟩,d17,d18,d19,-,-,-,d23,-⟩:=kU (tL.out wc (Ext.refl _));obtain⟨B,hB⟩:∃B:Bool,decide (q.sk=p.sk/\q.sd=p.sd/\q.se=p.se)=B:=⟨_,rfl⟩;have hq:=fun W=>(aib q.sk q.sd q.se p.sk p.sd p.se W).trans (by rw[hB]);have HB:=ah (show V->B=true from fun h=>by rw[<-hB];exact bJ (HS.out h).2.2.2);clear hB;go_wp2
   all_goals
    go_meet
    case rel=>exact⟨rfl,_,rfl,fun h=>by
     have hh:=HS.out h
     first|rfl|exact HB.out h|(rename_i hn;exact absurd (by first|rw[hh.1]|rw[hh.2.1]|rw[hh.2.2.1]) hn)⟩
  case rest=>
   obtain⟨rfl,b6,rfl,H6⟩:=hcut;go_upto_region 3 with fail
   go_cut [7] (fun s7 wx=>Ext wc wx/\∃bb:Bool,s7=.bool bb/\Hid (V->bb=true))
   case first=>
    obtain⟨⟨-,c1,c2,-,-⟩,⟨c13,c14,-,-⟩,-⟩:=kU (dO.out wc (Ext.refl _));obtain⟨⟨-,d1,d2,-,-⟩,⟨Gi,Dx,-,-⟩,-⟩:=kU (tL.out wc (Ext.refl _));have Hc:=ah (Ha.out wc HXB.out);go_wp2_with fail
    refine Hc.out.mono ?_;rintro e w2 ⟨b,rfl,hb,hx2⟩;have Hv:=ah (show V->b=true from fun h=>hb (by rw[(HX.out h).1]));have eD:=ah hx2;clear hb hx2 Hc c1 c2 c13 c14 d1 d2 Gi Dx;cases b with
    |false=>
     go_wp2
     go_meet
     case rel=>exact⟨eD.out,_,rfl,Hv.out⟩
    |true=>
     obtain⟨⟨-,c1,c2,-,-⟩,⟨c13,c14,-,-⟩,-⟩:=kU (dO.out w2 eD.out);obtain⟨⟨-,d1,d2,-,-⟩,⟨Gi,Dx,-,-⟩,-⟩:=kU (tL.out w2 eD.out);have Hc:=ah (Hb.out w2 (HXB.out.trans eD.out));go_wp2_with fail
     refine Hc.out.mono ?_;rintro e w3 ⟨b,rfl,hb,hx3⟩;have Hv:=ah (show V->b=true from fun h=>hb (by rw[(HX.out h).1]));have eU:=ah (eD.out.trans hx3);clear hb hx3 Hc c1 c2 c13 c14 d1 d2 Gi Dx;cases b with
     |false=>
      go_wp2
      go_meet
      case rel=>exact⟨eU.out,_,rfl,Hv.out⟩
     |true=>
      obtain⟨-,⟨c13,c14,-,-⟩,-⟩:=kU (dO.out w3 eU.out);obtain⟨-,⟨Gi,Dx,-,-⟩,-⟩:=kU (tL.out w3 eU.out);have Hc:=ah (Ho.out w3 (HXB.out.trans eU.out));go_wp2_with fail
      refine Hc.out.mono ?_;rintro e w4 ⟨b,rfl,hb,hx4⟩;have Hv:=ah (show V->b=true from fun h=>hb (by rw[(HX.out h).1]));have mM:=ah (eU.out.trans hx4);clear hb hx4 Hc c13 c14 Gi Dx;cases b with
      |false=>
       go_wp2
       go_meet
       case rel=>exact⟨mM.out,_,rfl,Hv.out⟩
      |true=>
       obtain⟨-,⟨-,c14,-,-⟩,-⟩:=kU (dO.out w4 mM.out);obtain⟨-,⟨-,Dx,-,-⟩,-⟩:=kU (tL.out w4 mM.out);have Hc:=ah (Hn.out w4 (HXB.out.trans mM.out));go_wp2_with fail
       refine Hc.out.mono ?_;rintro e w5 ⟨b,rfl,hb,hx5⟩;have Hv:=ah (show V->b=true from fun h=>hb (by rw[(HX.out h).1]));have mG:=ah (mM.out.trans hx5);clear hb hx5 Hc c14 Dx;go_wp2
       go_meet
       case rel=>exact⟨mG.out,_,rfl,Hv.out⟩
   case rest=>
    obtain⟨hxc,b7,rfl,H7⟩:=hcut;have HXC:=ah (HXB.out.trans hxc);have oZ:=ah (nH (dO.out wc hxc));have ad2:=ah (nH (tL.out wc hxc));have jr:=ah (fun W he=>dO.out W (hxc.trans he));have amk:=ah (fun W he=>tL.out W (hxc.trans he));have Hc:=ah (Hu.out wc HXC.out);clear hxc Hu Ha Hb Ho Hn dO tL HE HS;cases b5 with
    |false=>
     go_wp2;go_ret;exact⟨_,rfl,H5.out,HXC.out⟩
    |true=>
     cases b6 with
     |false=>
      go_wp2;go_ret;exact⟨_,rfl,H6.out,HXC.out⟩
     |true=>
      cases b7 with
      |false=>
       go_wp2;go_ret;exact⟨_,rfl,H7.out,HXC.out⟩
      |true=>
       go_wp2_with (first|((with_reducible refine au aj (.tmp 108) ?_ ?_ ?_ w.heap.size 5 ?_ q.u ?_ ?_);rfl;rfl;rfl;rfl;exact oZ.out)|((with_reducible refine au aj (.tmp 110) ?_ ?_ ?_ (w.heap.size+1) 5 ?_ p.u ?_ ?_);rfl;rfl;rfl;rfl;exact ad2.out))
       refine Hc.out.mono ?_;rintro e w2 ⟨b,rfl,hb,hx2⟩;have Hv:=ah (show V->b=true from fun h=>hb (by rw[(HX.out h).1]));have eD:=ah (HXC.out.trans hx2);obtain⟨-,-,-,-,-,-,-,-,-,c24⟩:=kU (jr.out w2 hx2);obtain⟨-,-,-,-,-,-,-,-,-,d24⟩:=kU (amk.out w2 hx2);have sQ:=ah (Hy.out w2);clear hb hx2 Hc jr amk;cases b with
       |false=>
        go_wp2;go_ret;exact⟨_,rfl,Hv.out,eD.out⟩
       |true=>
        go_wp2_with fail
        refine sQ.out.mono ?_;rintro e w3 ⟨b,rfl,hb,hx3⟩;go_wp2;go_ret;exact⟨_,rfl,(fun h=>hb (by rw[(HX.out h).2,Hp.out])),eD.out.trans hx3⟩
theorem Za(x:qo)(q:bE)(w:World)(hq:gF w x q)(hx:sM x)(hT:kN w):Calls prog 116 #[.agg q.cells.toArray] w (mq (x.wh=0/\gG x.unit/\x.unit.id=q8) w):=by
 have Hu:=ah (fun wq (he:Ext w wq)=>YC x.unit q.u wq (Reads.ext he _ _ hq.unit) (Bu (by decide) (by decide) hx.u) (hT.ext he));obtain⟨V,hV⟩:∃V:Prop,(x.wh=0/\gG x.unit/\x.unit.id=q8)=V:=⟨_,rfl⟩;have HV:=ah (show V->q.wh=0/\gG x.unit/\x.unit.id=q8 from by rw[<-hV];exact fun h=>⟨hq.wh.trans h.1,h.2⟩);have hw:=fun wq=>Qh q.wh wq;obtain⟨C,hC⟩:=aH ((decide (0<=q.wh)&&decide (q.wh<=3)));have HC:=ah (show V->C=true from fun h=>by rw[<-hC,(HV.out h).1];decide);rw[hC]at hw;have Hw:=ah hw;rw[hV];clear hC hw hV hq hx hT;go_enter func116,ntmps116
 go_upto_region 1 with(refine aG aT (.tmp 0) rfl rfl q rfl fun wA aR bG bB aO=> ?_)
 obtain⟨c2,c3,c4,c13,c14,c15⟩:=oz aO;have jr:=ah (nH aO);have Hx:=ah aR;have zF:=ah (Hw.out wA);have Hu2:=ah (Hu.out wA aR);clear aR bG bB aO Hw Hu;go_wp2_with fail
 refine zF.out.mono ?_;rintro e w2 ⟨rfl,rfl⟩;cases C with
 |false=>
  go_wp2;go_ret;exact⟨_,rfl,HC.out,Hx.out⟩
 |true=>
  go_wp2_with ((with_reducible refine au aj (.tmp 7) ?_ ?_ ?_ w.heap.size 5 ?_ q.u ?_ ?_);rfl;rfl;rfl;rfl;exact jr.out)
  refine Hu2.out.mono ?_;rintro e w3 ⟨b,rfl,hb,hx3⟩;have Hb:=ah (show V->b=true from fun h=>hb (HV.out h).2);clear hb;go_wp2;go_ret;exact⟨_,rfl,Hb.out,Hx.out.trans hx3⟩
def mD(p:Value×Value):Value:=.agg #[p.1,p.2]
def QS(x y:Value):List (Int×(Value×Value)):=[(0,(dZ 115,dZ 116)),(1,(dZ 119,dZ 120)),(2,(dZ 121,dZ 122)),(3,(dZ 125,dZ 126)),(4,(dZ 127,dZ 128)),(5,(dZ 129,dZ 130)),(6,(dZ 132,dZ 133)),(7,(x,y)),(8,(x,y)),(9,(x,y)),(10,(dZ 134,dZ 135)),(11,(dZ 137,dZ 138))]
structure Ae (w:World):Prop where
 lt:0<w.heap.size
 ex:∃x y,w.cell? ⟨0,0,none⟩=some x/\w.cell? ⟨0,1,none⟩=some y
theorem Ae.ext{w w':World}(h:Ae w)(he:Ext w w'):Ae w':=by
 obtain⟨x,y,h1,h2⟩:=h.ex;exact⟨bQ h.lt he.size,x,y,(he.cell (p:=⟨_,0,none⟩) h.lt).trans h1,(he.cell (p:=⟨_,1,none⟩) h.lt).trans h2⟩
def aic(w:World)(e:Ending)(w':World):Prop:=∃B x y,e=.returned (.map (some B))/\iG (fun x:Int=>Value.int .i64 x) mD B w' (QS x y)/\Ext w w'
theorem acI(w:World)(hO:Ae w):Calls prog 70 #[] w (aic w):=by
 obtain⟨hG,x,y,g0,g1⟩:=hO;have hmm:= @run_makeMap prog;have hx0:Ext w (w.alloc (.map #[] 0)):=(Ext.refl w).alloc _;go_enter func70,ntmps70
 go_wp2_with (first|(refine fG (K:=fun x:Int=>Value.int .i64 x) (V:=mD) (.tmp 1) (.const (.int .i64 0)) (.tmp 2) rfl jg underlying137 rfl (iG.made w) rfl 0 rfl (dZ 115,dZ 116) rfl ?_;intro w0 hM0 hb0 hs0 hos0 UL UM;have aeO:=Ext.put hx0 (b:=w.heap.size) (aI _) hb0 hos0 UL UM hs0;clear hb0 hos0 UL UM hs0)|(refine fG (K:=fun x:Int=>Value.int .i64 x) (V:=mD) (.tmp 1) (.const (.int .i64 1)) (.tmp 3) rfl jg underlying137 rfl hM0 rfl 1 rfl (dZ 119,dZ 120) rfl ?_;intro w1 hM1 hb1 hs1 BA BD BF;have aeP:=Ext.put aeO (b:=w.heap.size) (aI _) hb1 BA BD BF hs1;clear hb1 BA BD BF hs1)|(refine fG (K:=fun x:Int=>Value.int .i64 x) (V:=mD) (.tmp 1) (.const (.int .i64 2)) (.tmp 4) rfl jg underlying137 rfl hM1 rfl 2 rfl (dZ 121,dZ 122) rfl ?_;intro w2 hM2 hb2 hs2 uD uE uF;have aeQ:=Ext.put aeP (b:=w.heap.size) (aI _) hb2 uD uE uF hs2;clear hb2 uD uE uF hs2)|(refine fG (K:=fun x:Int=>Value.int .i64 x) (V:=mD) (.tmp 1) (.const (.int .i64 3)) (.tmp 5) rfl jg underlying137 rfl hM2 rfl 3 rfl (dZ 125,dZ 126) rfl ?_;intro w3 hM3 hb3 hs3 gQ gT gU;have aeR:=Ext.put aeQ (b:=w.heap.size) (aI _) hb3 gQ gT gU hs3;clear hb3 gQ gT gU hs3)|(refine fG (K:=fun x:Int=>Value.int .i64 x) (V:=mD) (.tmp 1) (.const (.int .i64 4)) (.tmp 6) rfl jg underlying137 rfl hM3 rfl 4 rfl (dZ 127,dZ 128) rfl ?_;intro w4 Pj hb4 hs4 dP dQ dR;have aeS:=Ext.put aeR (b:=w.heap.size) (aI _) hb4 dP dQ dR hs4;clear hb4 dP dQ dR hs4)|(refine fG (K:=fun x:Int=>Value.int .i64 x) (V:=mD) (.tmp 1) (.const (.int .i64 5)) (.tmp 7) rfl jg underlying137 rfl Pj rfl 5 rfl (dZ 129,dZ 130) rfl ?_;intro w5 FQ hb5 hs5 nu ny nD;have aeT:=Ext.put aeS (b:=w.heap.size) (aI _) hb5 nu ny nD hs5;clear hb5 nu ny nD hs5)|(refine fG (K:=fun x:Int=>Value.int .i64 x) (V:=mD) (.tmp 1) (.const (.int .i64 6)) (.tmp 8) rfl jg underlying137 rfl FQ rfl 6 rfl (dZ 132,dZ 133) rfl ?_;intro w6 hM6 hb6 hs6 uI uJ uK;have UN:=Ext.put aeT (b:=w.heap.size) (aI _) hb6 uI uJ uK hs6;have c0:=(UN.cell (p:=⟨0,0,none⟩) hG).trans g0;have c1:=(UN.cell (p:=⟨0,1,none⟩) hG).trans g1;clear hb6 uI uJ uK hs6)|(refine fG (K:=fun x:Int=>Value.int .i64 x) (V:=mD) (.tmp 1) (.const (.int .i64 7)) (.tmp 9) rfl jg underlying137 rfl hM6 rfl 7 rfl (x,y) rfl ?_;intro w7 hM7 OY hs7 BI BJ BK;have ae1:=Ext.put UN (b:=w.heap.size) (aI _) OY BI BJ BK hs7;have c0:=(ae1.cell (p:=⟨0,0,none⟩) hG).trans g0;have c1:=(ae1.cell (p:=⟨0,1,none⟩) hG).trans g1;clear OY BI BJ BK hs7)|(refine fG (K:=fun x:Int=>Value.int .i64 x) (V:=mD) (.tmp 1) (.const (.int .i64 8)) (.tmp 10) rfl jg underlying137 rfl hM7 rfl 8 rfl (x,y) rfl ?_;intro w8 hM8 hb8 DK Ev Ew Ey;have ae2:=Ext.put ae1 (b:=w.heap.size) (aI _) hb8 Ev Ew Ey DK;have c0:=(ae2.cell (p:=⟨0,0,none⟩) hG).trans g0;have c1:=(ae2.cell (p:=⟨0,1,none⟩) hG).trans g1;clear hb8 Ev Ew Ey DK)|(refine fG (K:=fun x:Int=>Value.int .i64 x) (V:=mD) (.tmp 1) (.const (.int .i64 9)) (.tmp 11) rfl jg underlying137 rfl hM8 rfl 9 rfl (x,y) rfl ?_;intro w9 hM9 JG sD uL uM uN;have asC:=Ext.put ae2 (b:=w.heap.size) (aI _) JG uL uM uN sD;clear JG uL uM uN sD)|(refine fG (K:=fun x:Int=>Value.int .i64 x) (V:=mD) (.tmp 1) (.const (.int .i64 10)) (.tmp 12) rfl jg underlying137 rfl hM9 rfl 10 rfl (dZ 134,dZ 135) rfl ?_;intro uT asD aml amm ahp ahq ahr;have anK:=Ext.put asC (b:=w.heap.size) (aI _) aml ahp ahq ahr amm;clear aml ahp ahq ahr amm)|(refine fG (K:=fun x:Int=>Value.int .i64 x) (V:=mD) (.tmp 1) (.const (.int .i64 11)) (.tmp 13) rfl jg underlying137 rfl asD rfl 11 rfl (dZ 137,dZ 138) rfl ?_;intro Ng asE amn amo ahs aht ahu;have anL:=Ext.put anK (b:=w.heap.size) (aI _) amn ahs aht ahu amo;clear amn ahs aht ahu amo))
 go_ret;exact⟨_,x,y,rfl,asE,anL⟩
end Go.Proofs.YtgboomjahhnldaaGreatDoor
