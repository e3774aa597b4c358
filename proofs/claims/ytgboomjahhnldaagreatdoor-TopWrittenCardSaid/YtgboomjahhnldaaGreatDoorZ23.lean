/- A part of the proof of TopWritten, printed small: Alone8W TValU TStripU. -/
import Derived.Test.YtgboomjahhnldaaGreatDoorZ22
import Derived.Test.YtgboomjahhnldaaGreatDoorZ21
import Derived.Test.YtgboomjahhnldaaGreatDoorZ07
import Derived.Test.YtgboomjahhnldaaGreatDoorZ08
import Derived.Test.YtgboomjahhnldaaGreatDoorZ06
import Derived.Test.YtgboomjahhnldaaGreatDoorZ09
import Derived.Test.YtgboomjahhnldaaGreatDoorZ11
set_option maxRecDepth 100000
set_option maxHeartbeats 25600000
set_option linter.all false
namespace Go.Proofs.YtgboomjahhnldaaGreatDoor
open Go.Proofs.Tryz Go.RowKit
theorem World.xZ(w:World)(cs:Array Value)(t:TypeId){o:Obj}{k:Nat}{v:Value}(hk:cs[k]? =some v:=by rfl):((w.alloc o).alloc (.cells cs t)).cell? ⟨w.heap.size+1,k,none⟩=some v:=by
 have h:=heap_alloc_new (w.alloc o) (.cells cs t);rw[show(w.alloc o).heap.size=w.heap.size+1 by simp]at h;unfold World.cell?;rw[h];exact hk
def qU(u:av):Prop:=(∀x∈u.head,x.t≠⟨#[]⟩)/\∀x∈u.words,x.t≠⟨#[]⟩
structure gG (u:av):Prop where
 kind:u.kind=2
 label:sj u.label.data.toList=true
 head:u.head=[]
 words:u.words=[]
 kids:u.kids=[]
theorem akb(u:av)(r:aB)(w:World)(hr:Reads w u r)(hok:dI u)(hT:kN w):Calls prog 241 #[.agg r.cells.toArray] w (EM (qU u) (gG u) w):=by
 unfold qU;obtain⟨hid,hkd,hlb,hhn,xH,mU,hwn,hwc,hws,hkn,hkc,rs,hrs,hall,hrl⟩:=hr.j5;obtain⟨o1,o2,o3,o4,o5,o6⟩:=hok.all.head;obtain⟨V,hVV⟩:∃V:Prop,gG u=V:=⟨_,rfl⟩
 have HV:=ah (show V->sF r.kind≠⟨#[]⟩/\r.kind≠0/\sj r.label.data.toList=true/\u.head=[]/\u.words=[]/\rs.length=0 from by
  rw[<-hVV];intro h;refine⟨?_,?_,?_,h.head,h.words,?_⟩
  ·rw[hkd,h.kind];decide
  ·rw[hkd,h.kind];decide
  ·rw[hlb];exact h.label
  ·rw[hrl,h.kids];rfl)
 rw[hVV];clear hVV;have hb:=rE.new r w;have hx0:Ext w (w.alloc (.cells r.cells.toArray 30)):=(Ext.refl w).alloc _;rw[<-hlb]at o1;rw[<-hrl]at hkn hkc o4;obtain⟨hd,hhd⟩:=aH (u.head);obtain⟨wd,hwd⟩:=aH (u.words);rw[hhd]at hhn xH mU o2 HV⊢;rw[hwd]at hwn hwc hws o3 HV⊢;obtain⟨ra,ri,rn,rk,rl,fU,hn,hc,wA,wn,wc,kA,kn,kc⟩:=r;dsimp only at hkn hkc hrs hhn xH mU hwn hwc hws o1 HV;subst hkn hhn hwn;simp only[aB.cells]at hb hx0⊢;obtain⟨wb,hwb⟩:=aH (w.alloc (.cells #[.int .i64 ra,.int .i64 ri,.int .i64 rn,.int .i64 rk,.string rl,.slice fU hd.length hc,.slice wA wd.length wc,.slice kA rs.length kc] 30));rw[hwb]at hb hx0;have jv:=ah hx0;have pK:=ah (hrs.ext hx0);have Hhs:=ah (mU.ext hx0);have BG:=ah (hws.ext hx0);have ad1:=ah (hT.ext hx0);have jh:=ah hb;have lH:=ah hwb;obtain⟨hb0,c0,c1,c2,c3,c4,c5,c6,c7⟩:=hb;dsimp only at c0 c1 c2 c3 c4 c5 c6 c7;have HkN:=ah (fun wq (he:Ext wb wq)=>Gj rk wq (ad1.out.ext he));have Ig:=ah (fun wq=>CV rl wq (by omega));have Hr1:=ah (fun wq (he:Ext wb wq)=>agi fU hc hd wq (Hhs.out.ext he) (by omega));have xU:=ah (fun wq (he:Ext wb wq)=>agi wA wc wd wq (BG.out.ext he) (by omega));clear hid hkd hlb xH mU hwc hws hkc hrs hall hrl hr hok hT hx0 o5 o6 hhd hwd;have hmm:= @run_makeMap prog;go_enter func241,ntmps241
 by_cases hk0:rk=0
 ·subst hk0
  by_cases he:rl=⟨#[]⟩
  case neg=>
   obtain⟨hne,hne2⟩:=Ic he;clear he;go_wp2;go_ret;exact⟨_,rfl,(fun h=>by cases h),(fun h=>((HV.out h).2.1 rfl).elim),jv.out⟩
  subst he;by_cases hz:hd.length+wd.length>0
  ·have d3:decide ((hd.length:Int)+(wd.length:Int)>0)=true:=bJ (by omega)
   have d4:decide (0<(hd.length:Int)+(wd.length:Int))=true:=bJ (by omega);go_wp2;go_ret;exact⟨_,rfl,(fun h=>by cases h),(fun h=>((HV.out h).2.1 rfl).elim),jv.out⟩
  ·have HE:=ah (show hd=[]/\wd=[]from⟨kM (by omega),kM (by omega)⟩)
   have d3:decide ((hd.length:Int)+(wd.length:Int)>0)=false:=aY (by omega);have d4:decide (0<(hd.length:Int)+(wd.length:Int))=false:=aY (by omega);clear hz;go_wp2;clear hmm hwb;have KH:=ah (show Ext wb wb from Ext.refl _);obtain⟨B,hB⟩:=aH (wb.heap.size);have Hm:=ah (rM.made (K:=fun x:vX=>Value.agg x.cells.toArray) wb);have Pv:=ah ((Ext.refl wb).alloc (.map #[] 0));obtain⟨wm,Pw⟩:=aH (wb.alloc (.map #[] 0));rw[hB]at Hm⊢;rw[Pw]at Hm Pv⊢;have HB0:=ah hB;clear hB Pw
   go_loopw [49] (fun vk wr=>∃k:Nat,k<=rs.length/\vk=.int .i64 (k:Nat)/\Hid (Ext wb wr)/\Hid (rM (fun x:vX=>Value.agg x.cells.toArray) B wr)) (fun vk _=>rs.length-(intOf vk).toNat)
   case atStart=>exact⟨0,bI _,rfl,Pv,Hm⟩
   case round=>
    obtain⟨k,hk,rfl,HX,HM⟩:=hrel;have hx0:=KH.out.trans HX.out;obtain⟨hb0,c0,c1,c2,c3,c4,c5,c6,c7⟩:=jh.out.ext hx0;dsimp only at c0 c1 c2 c3 c4 c5 c6 c7;by_cases hlt:k<rs.length
    ·obtain⟨q,hq⟩:=aH (rs[k])
     obtain⟨b,off,lI,hbk,u0,u1,u2,u3,u4,u5,u6,u7⟩:=qb (pK.out.ext hx0) hlt hq;subst lI;have hxa:Ext wr ((wr.alloc (.cells #[.int .i64 q.a,.int .i64 q.i,.int .i64 q.n,.int .i64 q.kind,.string q.label,.slice q.hA q.hn q.hc,.slice q.wA q.wn q.wc,.slice q.kA q.kn q.kc] 30)).alloc (.cells #[.int .i64 q.kind,.string q.label] 296)):=((Ext.refl _).alloc _).alloc _;have Mj:=ah (HM.out.ext hxa);have Hxa:=ah hxa;have zV:=ah (yS 0 q.kind _ (ad1.out.ext (hx0.trans hxa)));have d1:=eY k rs.length;clear hq hxa hx0;obtain⟨q1,hq1⟩:=aH (q.kind);obtain⟨q2,hq2⟩:=aH (q.label);rw[hq1]at u3 Mj zV Hxa;rw[hq2]at u4 Mj zV Hxa;clear hq1 hq2;go_wp2_with fail
     refine(zV.out).mono ?_;rintro e w2 ⟨bb,rfl,hx2⟩;have JK:=ah (Mj.out.ext hx2)
     have qH:w2.cell? ⟨wr.heap.size+1,0,none⟩=some (.int .i64 q1):=by
      refine(hx2.cell (p:=⟨wr.heap.size+1,0,none⟩) (by simp)).trans ?_;exact World.xZ _ _ _
     have FR:w2.cell? ⟨wr.heap.size+1,1,none⟩=some (.string q2):=by
      refine(hx2.cell (p:=⟨wr.heap.size+1,1,none⟩) (by simp)).trans ?_;exact World.xZ _ _ _
     have iF:=ah ((HX.out.trans Hxa.out).trans hx2);clear u0 u1 u2 u3 u4 u5 u6 u7 c0 c1 c2 c3 c4 c5 c6 c7 hb0 zV;cases bb with
     |false=>
      go_wp2;go_ret;exact⟨_,rfl,(fun h=>by cases h),(fun h=>((HV.out h).2.1 rfl).elim),(jv.out.trans KH.out).trans iF.out⟩
     |true=>
      obtain⟨z,hz⟩:=JK.out.look kCl ⟨q1,q2⟩;obtain⟨w3,hset,OB,hw3,hs3,gQ,gT,gU⟩:=JK.out.set kCl ⟨q1,q2⟩ true;have GY:=ah hs3;have ZT:=ah OB;have Hw3:=ah hw3;have Tm:=ah (And.intro gQ (And.intro gT gU));simp only[vX.cells]at hz hset;clear OB hw3 hs3 gQ gT gU;cases z with
      |true=>
       clear hset;go_wp2;go_ret;exact⟨_,rfl,(fun h=>by cases h),(fun h=>((HV.out h).2.1 rfl).elim),(jv.out.trans KH.out).trans iF.out⟩
      |false=>
       go_wp2;go_roundw
       case rel=>exact⟨k+1,by omega,by go_num,ah (Ext.put iF.out (Nat.le_of_eq HB0.out) Hw3.out Tm.out.1 Tm.out.2.1 Tm.out.2.2 GY.out),ZT⟩
       case measure=>simp[intOf];omega
    ·have d1:=fT k rs.length
     by_cases h64:rs.length<=64
     ·have d2:decide ((rs.length:Int)<=64)=true:=bJ (by omega)
      go_wp2;go_ret;exact⟨_,rfl,(fun _=>⟨by rw[HE.out.1];simp,by rw[HE.out.2];simp⟩),(fun h=>((HV.out h).2.1 rfl).elim),jv.out.trans hx0⟩
     ·have d2:decide ((rs.length:Int)<=64)=false:=aY (by omega)
      go_wp2;go_ret;exact⟨_,rfl,(fun h=>by cases h),(fun h=>((HV.out h).2.1 rfl).elim),jv.out.trans hx0⟩
 ·have e0:(rk==0)=false:=by simpa using hk0
  clear hk0;obtain⟨S,hS⟩:=aH (sF rk);rw[hS]at HkN HV;clear hS;have akf:=ah (HkN.out wb (Ext.refl _));clear HkN;go_wp2_with fail
  refine(akf.out).mono ?_;rintro e w1 ⟨rfl,hw1⟩;have hw1:=hw1.symm;subst hw1;by_cases he:S=⟨#[]⟩
  ·subst he
   go_wp2;go_ret;exact⟨_,rfl,(fun h=>by cases h),(fun h=>((HV.out h).1 rfl).elim),jv.out⟩
  obtain⟨hne,hne2⟩:=Ic he;have Ml:=ah (Ig.out wb);clear he Ig akf;go_wp2_with fail
  refine(Ml.out).mono ?_;rintro e w2 ⟨rfl,hx2⟩;obtain⟨M,hM⟩:=aH (sj rl.data.toList);rw[hM]at HV⊢;clear hM Ml hb0 c0 c1 c2 c3 c4 c5 c6 c7;obtain⟨hb0,c0,c1,c2,c3,c4,c5,c6,c7⟩:=jh.out.ext hx2;dsimp only at c0 c1 c2 c3 c4 c5 c6 c7;cases M with
  |false=>
   go_wp2;go_ret;exact⟨_,rfl,(fun h=>by cases h),(fun h=>(HV.out h).2.2.1),jv.out.trans hx2⟩
  |true=>
  have akg:=ah (Hr1.out w2 hx2);clear Hr1;go_wp2_with fail
  refine(akg.out).mono ?_;rintro e w3 ⟨b3,rfl,hs3,hv3,hx3⟩;have Rt:=ah hs3;have HV3:=ah (show V->b3=true from fun h=>hv3 (HV.out h).2.2.2.1);clear hs3 hv3;have tC:=hx2.trans hx3;clear akg hb0 c0 c1 c2 c3 c4 c5 c6 c7 hx2 hx3;obtain⟨hb0,c0,c1,c2,c3,c4,c5,c6,c7⟩:=jh.out.ext tC;dsimp only at c0 c1 c2 c3 c4 c5 c6 c7;cases b3 with
  |false=>
   go_wp2;go_ret;exact⟨_,rfl,(fun h=>by cases h),HV3.out,jv.out.trans tC⟩
  |true=>
  have akh:=ah (xU.out w3 tC);clear xU;go_wp2_with fail
  refine(akh.out).mono ?_;rintro e w4 ⟨b4,rfl,hs4,hv4,hx4⟩;have HS4:=ah hs4;have HV4:=ah (show V->b4=true from fun h=>hv4 (HV.out h).2.2.2.2.1);clear hs4 hv4;have zX:=tC.trans hx4;clear akh hb0 c0 c1 c2 c3 c4 c5 c6 c7 tC hx4;obtain⟨hb0,c0,c1,c2,c3,c4,c5,c6,c7⟩:=jh.out.ext zX;dsimp only at c0 c1 c2 c3 c4 c5 c6 c7;cases b4 with
  |false=>
   go_wp2;go_ret;exact⟨_,rfl,(fun h=>by cases h),HV4.out,jv.out.trans zX⟩
  |true=>
  have arC:=ah zX;clear zX;go_wp2;clear hmm hwb;have KH:=ah (show Ext wb w4 from arC.out);obtain⟨B,hB⟩:=aH (w4.heap.size);have Hm:=ah (rM.made (K:=fun x:vX=>Value.agg x.cells.toArray) w4);have Pv:=ah ((Ext.refl w4).alloc (.map #[] 0));obtain⟨wm,Pw⟩:=aH (w4.alloc (.map #[] 0));rw[hB]at Hm⊢;rw[Pw]at Hm Pv⊢;have HB0:=ah hB;clear hB Pw
  go_loopw [49] (fun vk wr=>∃k:Nat,k<=rs.length/\vk=.int .i64 (k:Nat)/\Hid (Ext w4 wr)/\Hid (rM (fun x:vX=>Value.agg x.cells.toArray) B wr)) (fun vk _=>rs.length-(intOf vk).toNat)
  case atStart=>exact⟨0,bI _,rfl,Pv,Hm⟩
  case round=>
   obtain⟨k,hk,rfl,HX,HM⟩:=hrel;have hx0:=KH.out.trans HX.out;obtain⟨hb0,c0,c1,c2,c3,c4,c5,c6,c7⟩:=jh.out.ext hx0;dsimp only at c0 c1 c2 c3 c4 c5 c6 c7;by_cases hlt:k<rs.length
   ·obtain⟨q,hq⟩:=aH (rs[k])
    obtain⟨b,off,lI,hbk,u0,u1,u2,u3,u4,u5,u6,u7⟩:=qb (pK.out.ext hx0) hlt hq;subst lI;have hxa:Ext wr ((wr.alloc (.cells #[.int .i64 q.a,.int .i64 q.i,.int .i64 q.n,.int .i64 q.kind,.string q.label,.slice q.hA q.hn q.hc,.slice q.wA q.wn q.wc,.slice q.kA q.kn q.kc] 30)).alloc (.cells #[.int .i64 q.kind,.string q.label] 296)):=((Ext.refl _).alloc _).alloc _;have Mj:=ah (HM.out.ext hxa);have Hxa:=ah hxa;have zV:=ah (yS rk q.kind _ (ad1.out.ext (hx0.trans hxa)));have d1:=eY k rs.length;have HN:=ah (show ¬V from fun h=>by have:=(HV.out h).2.2.2.2.2;omega);clear hq hxa hx0;obtain⟨q1,hq1⟩:=aH (q.kind);obtain⟨q2,hq2⟩:=aH (q.label);rw[hq1]at u3 Mj zV Hxa;rw[hq2]at u4 Mj zV Hxa;clear hq1 hq2;go_wp2_with fail
    refine(zV.out).mono ?_;rintro e w2 ⟨bb,rfl,hx2⟩;have JK:=ah (Mj.out.ext hx2)
    have qH:w2.cell? ⟨wr.heap.size+1,0,none⟩=some (.int .i64 q1):=by
     refine(hx2.cell (p:=⟨wr.heap.size+1,0,none⟩) (by simp)).trans ?_;exact World.xZ _ _ _
    have FR:w2.cell? ⟨wr.heap.size+1,1,none⟩=some (.string q2):=by
     refine(hx2.cell (p:=⟨wr.heap.size+1,1,none⟩) (by simp)).trans ?_;exact World.xZ _ _ _
    have iF:=ah ((HX.out.trans Hxa.out).trans hx2);clear u0 u1 u2 u3 u4 u5 u6 u7 c0 c1 c2 c3 c4 c5 c6 c7 hb0 zV;cases bb with
    |false=>
     go_wp2;go_ret;exact⟨_,rfl,(fun h=>by cases h),(fun h=>(HN.out h).elim),(jv.out.trans KH.out).trans iF.out⟩
    |true=>
     obtain⟨z,hz⟩:=JK.out.look kCl ⟨q1,q2⟩;obtain⟨w3,hset,OB,hw3,hs3,gQ,gT,gU⟩:=JK.out.set kCl ⟨q1,q2⟩ true;have GY:=ah hs3;have ZT:=ah OB;have Hw3:=ah hw3;have Tm:=ah (And.intro gQ (And.intro gT gU));simp only[vX.cells]at hz hset;clear OB hw3 hs3 gQ gT gU;cases z with
     |true=>
      clear hset;go_wp2;go_ret;exact⟨_,rfl,(fun h=>by cases h),(fun h=>(HN.out h).elim),(jv.out.trans KH.out).trans iF.out⟩
     |false=>
      go_wp2;go_roundw
      case rel=>exact⟨k+1,by omega,by go_num,ah (Ext.put iF.out (Nat.le_of_eq HB0.out) Hw3.out Tm.out.1 Tm.out.2.1 Tm.out.2.2 GY.out),ZT⟩
      case measure=>simp[intOf];omega
   ·have d1:=fT k rs.length
    by_cases h64:rs.length<=64
    ·have d2:decide ((rs.length:Int)<=64)=true:=bJ (by omega)
     go_wp2;go_ret;exact⟨_,rfl,(fun _=>⟨Rt.out (by trivial),HS4.out (by trivial)⟩),(fun _=>rfl),jv.out.trans hx0⟩
    ·have d2:decide ((rs.length:Int)<=64)=false:=aY (by omega)
     have HN:=ah (show ¬V from fun h=>by have:=(HV.out h).2.2.2.2.2;omega);go_wp2;go_ret;exact⟨_,rfl,(fun h=>by cases h),(fun h=>(HN.out h).elim),jv.out.trans hx0⟩
theorem Tn(u:av)(r:aB)(w:World)(hr:Reads w u r)(hok:dI u)(hT:kN w):Calls prog 211 #[.agg r.cells.toArray] w (EM (∀x∈bO u,qU x) (gG u/\u.id=q8) w):=by
 obtain⟨V,hV⟩:∃V:Prop,(gG u/\u.id=q8)=V:=⟨_,rfl⟩;have hpre:V->bO u=[u]:=by rw[<-hV];rintro⟨h,-⟩;rw[jy,h.kids,eO]
 obtain⟨S,hS⟩:∃S:Bool,S=true↔V:=by
  by_cases h:V
  ·exact⟨true,by simp[h]⟩
  ·exact⟨false,by simp[h]⟩
 have Tp:V->∀acc x rest,bO u=acc++x::rest->gG x:=fun h acc x rest he=>by
  rw[hpre h]at he;have hb:gG u:=by rw[<-hV]at h;exact h.1
  match acc,he with
  |[],he=>rw[jW,List.cons.injEq]at he;rw[<-he.1];exact hb
  |a::acc,he=>simp at he
 have H1:=ah (fun wq (he:Ext w wq)=>Gz (F:=241) (cs:= #[]) (fun _ _=>rfl) (W0:=wq) (S:=S) (Inv:=fun p acc wr=>p=(fun _=>false)/\Ext wq wr/\∀x∈acc,qU x) (all:=bO u) (fun _ _ _ h=>h.2.1) (fun _ _ _ _ h he=>⟨h.1,h.2.1.trans he,h.2.2⟩) (fun p _ _ h j hj=>by rw[h.1]at hj;cases hj)
  (fun p acc x rx w' hox hrx hin hI=>(akb x rx w' (Reads.ext hI.2.1 x rx hrx) hox (hT.ext (he.trans hI.2.1))).mono fun e w2 ⟨b,he,hs,hv,hx2⟩=>⟨b,p,he,aZ.ext hx2,hI.2.1.trans hx2,fun hb=>⟨hI.1,hI.2.1.trans hx2,fun y hy=>by
    rw[oo,kX]at hy;rcases hy with hy|rfl
    ·exact hI.2.2 y hy
    ·exact hs hb⟩,fun h=>hv (by obtain⟨rest,hin⟩:=hin;exact Tp (hS.1 h) acc x rest hin)⟩)
  _ u r (fun _=>false) [] wq (aI _) (Reads.ext he u r hr) hok ⟨[],by simp⟩ ⟨rfl,Ext.refl _,by simp⟩)
 have HC:=ah (show V->cntF u=1 from fun h=>by rw[<-nW,hpre h];rfl);have HI:=ah (show V->(bO u).map av.id=[q8]from fun h=>by rw[hpre h];rw[<-hV]at h;simp[h.2]);have HS:=ah (show V->S=true from hS.2);obtain⟨P,hP⟩:∃P:Prop,(∀x∈bO u,qU x)=P:=⟨_,rfl⟩;have HP:=ah (show(∀x∈[]++bO u,qU x)->P from by rw[<-hP];exact id);rw[hV,hP];clear hV hpre hS Tp hP;have H2:=ah (fun wq (he:Ext w wq)=>O0 u r wq (Reads.ext he u r hr) hok);have H3:=ah (fun wq (he:Ext w wq)=>GD u r wq (Reads.ext he u r hr) hok);have H4:=ah (fun wq (he:Ext w wq)=>arA u r wq (Reads.ext he u r hr) hok);have hcn:=hok.cnt;have hb:=rE.new r w;have he1:Ext w (w.alloc (.cells r.cells.toArray 30)):=(Ext.refl w).alloc _;obtain⟨cn,Tq⟩:∃n,cntF u=n:=⟨_,rfl⟩;rw[Tq]at H2 H3 hcn HC;obtain⟨ra,ri,rn,rk,rl,fU,hn,hc,wA,wn,wc,kA,kn,kc⟩:=r;simp only[aB.cells]at hb he1 H1 H2 H3 H4⊢;obtain⟨wb,hwb⟩:=aH (w.alloc (.cells #[.int .i64 ra,.int .i64 ri,.int .i64 rn,.int .i64 rk,.string rl,.slice fU hn hc,.slice wA wn wc,.slice kA kn kc] 30));rw[hwb]at hb he1;have lH:=ah hwb;have jh:=ah hb;have H1b:=ah (H1.out wb he1);clear Tq hwb hb H1 hr hok hT;go_enter func211,ntmps211
 go_wp2_with fail
 rw[lH.out];refine(H1b.out).mono ?_;rintro e w2 ⟨b,p2,rfl,-,hx2,hI2,hS2⟩;have ZN:=ah (show b=true->P from fun h=>HP.out (hI2 h).2.2);have HS2:=ah (show V->b=true from fun h=>hS2 (HS.out h));clear hI2 hS2;cases b with
 |false=>
  go_wp2;go_ret;exact⟨_,rfl,(fun h=>by cases h),HS2.out,he1.trans hx2⟩
 |true=>
 obtain⟨hb0,q0,q1,q2,q3,q4,q5,q6,q7⟩:=jh.out.ext hx2;dsimp only at q0 q1 q2 q3 q4 q5 q6 q7;have H2b:=ah (H2.out w2 (he1.trans hx2));clear H1b;go_wp2_with fail
 refine(H2b.out).mono ?_;rintro e w3 ⟨d,rfl,hdc,hx3⟩;have HD:=ah (show V->d<=1 from fun h=>by have:=HC.out h;omega);clear hdc;by_cases hd:d<=8
 case neg=>
  have d1:decide ((d:Int)<=8)=false:=aY (by omega);have HN:=ah (show V->False from fun h=>by have:=HD.out h;omega);clear hd;go_wp2;go_ret;exact⟨_,rfl,(fun h=>by cases h),(fun h=>(HN.out h).elim),he1.trans (hx2.trans hx3)⟩
 have d1:decide ((d:Int)<=8)=true:=bJ (by omega);have tC:=hx2.trans hx3;clear q0 q1 q2 q3 q4 q5 q6 q7 hb0 H2b hd;obtain⟨hb0,q0,q1,q2,q3,q4,q5,q6,q7⟩:=jh.out.ext tC;dsimp only at q0 q1 q2 q3 q4 q5 q6 q7;have H3b:=ah (H3.out w3 (he1.trans tC));go_wp2_with fail
 refine(H3b.out).mono ?_;rintro e w4 ⟨rfl,hx4⟩;have d2:decide ((cn:Int)<=1024)=true:=bJ (by omega);have zX:=tC.trans hx4;clear q0 q1 q2 q3 q4 q5 q6 q7 hb0 H3b;obtain⟨hb0,q0,q1,q2,q3,q4,q5,q6,q7⟩:=jh.out.ext zX;dsimp only at q0 q1 q2 q3 q4 q5 q6 q7;have H4b:=ah (H4.out w4 (he1.trans zX));go_wp2_with fail
 refine(H4b.out).mono ?_;rintro e w5 ⟨b,rfl,-,hv5,hx5⟩;have HV5:=ah (show V->b=true from fun h=>hv5 (HI.out h));clear hv5;go_wp2;go_ret;exact⟨b,rfl,(fun _=>ZN.out (by trivial)),HV5.out,he1.trans (zX.trans hx5)⟩
def Ak(base:Nat)(w:World)(A:Option Addr)(n c:Nat)(ts:List ByteArray):Prop:=∃xs:List aJ,xs.length=n/\Own aQ base w (.slice A n c) xs/\xs.map aJ.t=ts
theorem Ak.keep{base n c:Nat}{w w':World}{A:Option Addr}{ts:List ByteArray}(h:Ak base w A n c ts)(hs:∀g,(Value.slice A n c).ownBlock=some g->w'.heap[g]? =w.heap[g]?):Ak base w' A n c ts:=by
 obtain⟨xs,h1,h2,h3⟩:=h;exact⟨xs,h1,h2.keep hs,h3⟩
theorem Ak.ext{base n c:Nat}{w w':World}{A:Option Addr}{ts:List ByteArray}(h:Ak base w A n c ts)(he:Ext w w'):Ak base w' A n c ts:=by
 obtain⟨xs,h1,h2,h3⟩:=h;exact⟨xs,h1,h2.ext he,h3⟩
theorem Ak.at_{base n c k:Nat}{w:World}{A:Option Addr}{ts:List ByteArray}(h:Ak base w A n c ts)(hk:k<n):∃g cur,A=some ⟨g,0,none⟩/\base<=g/\w.heap[g]? =some (.cells cur aQ.e (0,0))/\k*4+4<=cur.size:=by
 obtain⟨xs,h1,h2,h3⟩:=h;rcases h2.2 with⟨hv,h0⟩|⟨g',cap,cur,hv,hg,hh,hn,hc,hcs,ht⟩
 ·omega
 ·cases hv
  refine⟨g',cur,rfl,hg,hh,?_⟩;have e:aQ.m=4:=rfl;rw[hcs,e];omega
theorem Ak.clear{base n c g k:Nat}{w w':World}{A:Option Addr}{ts:List ByteArray}{cur:Array Value}(h:Ak base w A n c ts)(hcur:w.heap[g]? =some (.cells cur aQ.e (0,0)))(hb:k*4+4<=cur.size)(hw:∀j,j≠g->w'.heap[j]? =w.heap[j]?)
 (hg:w'.heap[g]? =some (.cells (cur.toList.take (k*4+1)++[Value.int .i64 0,Value.int .i64 0,Value.int .i64 0]++cur.toList.drop (k*4+1+3)).toArray aQ.e (0,0))):Ak base w' A n c ts:=by
 obtain⟨xs,h1,h2,h3⟩:=h;rcases h2.2 with⟨hv,h0⟩|⟨g',cap,cur',hv,hgb,hh,hn,hc,hcs,ht⟩
 ·exact⟨xs,h1,⟨h2.1,.inl ⟨hv,h0⟩⟩,h3⟩
 ·cases hv
  by_cases hgg:g'=g
  ·subst hgg
   rw[hcur]at hh;cases hh
   by_cases hk:k<xs.length
   ·obtain⟨avX,hc2,-,hp⟩:=Own.patch (D:=aQ) (f:=1) (vs:=[.int .i64 0,.int .i64 0,.int .i64 0]) (r':=⟨xs[k].t,0,0,0⟩) h2 hk rfl (by decide)
    rw[hcur]at hc2;cases hc2
    refine⟨xs.set k ⟨xs[k].t,0,0,0⟩,by simp,hp w' hg,?_⟩;rw[List.map_set,<-h3];apply List.ext_getElem?;intro i;rw[List.getElem?_set];by_cases hi:k=i
    ·subst hi
     simp[hk]
    ·rw[aU hi]
   ·refine⟨xs,h1,⟨h2.1,.inr ⟨g',c,_,rfl,hgb,hg,hn,hc,?_,?_⟩⟩,h3⟩
    ·rw[<-hcs]
     simp only[List.size_toArray,eu,fu,jV,lK,iX,List.length_nil];omega
    ·rw[<-ht]
     have e:aQ.m=4:=rfl;rw[e,dV,Ee (by have:=lK (xs:=cur);rw[fu];omega),List.take_take,jF (by omega)]
  ·exact⟨xs,h1,h2.keep fun j hj=>hw j (fun e=>hgg (by rw[<-e];simpa[Value.ownBlock]using hj)),h3⟩
structure zI (u v:av):Prop where
 id:v.id=q8
 kind:v.kind=u.kind
 label:v.label=u.label
 head:v.head.map aJ.t=u.head.map aJ.t
 words:v.words.map aJ.t=u.words.map aJ.t
 len:v.kids.length=u.kids.length
 all:iD Lj v
 cnt:cntF v=cntF u
theorem o8{W:World}{b:Nat}{r:aB}(h:At W b 0 (aj.E r)):W.cell? ⟨b,3,none⟩=some (.int .i64 r.kind)/\W.cell? ⟨b,4,none⟩=some (.string r.label)/\W.cell? ⟨b,5,none⟩=some (.slice r.hA r.hn r.hc)/\W.cell? ⟨b,6,none⟩=some (.slice r.wA r.wn r.wc)/\W.cell? ⟨b,7,none⟩=some (.slice r.kA r.kn r.kc):=
 ⟨by simpa using h.one 3 (u:=.int .i64 r.kind) rfl,by simpa using h.one 4 (u:=.string r.label) rfl,by simpa using h.one 5 (u:=.slice r.hA r.hn r.hc) rfl,by simpa using h.one 6 (u:=.slice r.wA r.wn r.wc) rfl,by simpa using h.one 7 (u:=.slice r.kA r.kn r.kc) rfl⟩
theorem Tt{w:World}{b:Nat}{cs:List Value}{t:TypeId}{fr:Nat×Nat}(h:w.heap[b]? =some (.cells cs.toArray t fr)):At w b 0 cs:=fun j y hy=>by
 simp only[World.cell?,h,bV];simpa using hy
structure Ih (w:World) (r:aB) (th tw:List ByteArray) (ks:List av) (rs:List aB) (p:Nat->Bool) (wr:World):Prop where
 ext:Ext w wr
 box:wr.heap[w.heap.size]? =some (.cells r.cells.toArray 30 (0,0))
 res:wr.heap[w.heap.size+1]? =some (.cells aj.z.cells 30 (0,0))
 head:Ak (w.heap.size+2) wr r.hA r.hn r.hc th
 words:Ak (w.heap.size+2) wr r.wA r.wn r.wc tw
 kids:ReadsAll (mask p wr) ks rs
 row:Own aj (w.heap.size+2) wr (.slice r.kA r.kn r.kc) rs
theorem Ih.grow{w wr wx:World}{r:aB}{th tw:List ByteArray}{ks:List av}{rs:List aB}{p:Nat->Bool}(h:Ih w r th tw ks rs p wr)(he:Ext wr wx):Ih w r th tw ks rs p wx:=
 ⟨h.ext.trans he,(he.block (ay h.box)).trans h.box,(he.block (ay h.res)).trans h.res,h.head.ext he,h.words.ext he,ReadsAll.cin (aZ.ext he) _ _ h.kids,h.row.ext he⟩
theorem Ih.clear{w wr wx:World}{r:aB}{th tw:List ByteArray}{ks:List av}{rs:List aB}{p:Nat->Bool}{g k:Nat}{cur:Array Value}(h:Ih w r th tw ks rs p wr)(hcur:wr.heap[g]? =some (.cells cur aQ.e (0,0)))(hb:k*4+4<=cur.size)(hgb:w.heap.size+2<=g)(hp:p g=true)(hk:(Value.slice r.kA r.kn r.kc).ownBlock≠some g)
 (h1:∀j,j≠g->wx.heap[j]? =wr.heap[j]?) (h2:wx.os=wr.os) (h3:wx.tape=wr.tape) (h4:wx.output=wr.output) (h5:wx.heap.size=wr.heap.size)
 (h6:wx.heap[g]? =some (.cells (cur.toList.take (k*4+1)++[Value.int .i64 0,Value.int .i64 0,Value.int .i64 0]++cur.toList.drop (k*4+1+3)).toArray aQ.e (0,0))):Ih w r th tw ks rs p wx:=
 ⟨h.ext.put (by omega) h1 h2 h3 h4 h5,(h1 _ (by omega)).trans h.box,(h1 _ (by omega)).trans h.res,h.head.clear hcur hb h1 h6,h.words.clear hcur hb h1 h6,
  ReadsAll.cin (aZ.keep (by omega) fun j hj ni=>⟨h1 j (fun e=>by rw[e,hp]at ni;cases ni),ni⟩) _ _ h.kids,h.row.keep fun j hj=>h1 j (fun e=>hk (by rw[<-e];exact hj))⟩
def NZ(N:Nat):Prop:=∀(u:av) (r:aB) (w:World),SizeOf.sizeOf u<=N->Reads w u r->dI u->Calls prog 235 #[.agg r.cells.toArray] w fun e w'=>∃(v:av) (r':aB),e=.returned (.agg r'.cells.toArray)/\Ext w w'/\Reads (mask (fresh w.heap.size) w') v r'/\zI u v
def aa9(p:Nat->Bool)(u:av):Ty:=⟨fun x w=>∃(v:av) (r':aB),x=.agg r'.cells.toArray/\zI u v/\Reads (mask p w) v r',fun _ _ _ he ⟨v,r',h1,h2,h3⟩=>⟨v,r',h1,h2,Reads.cin (aZ.ext he) _ _ h3⟩⟩
theorem WG:∀(us vs:List av),vs.length=us.length->(∀i (h:i<vs.length) (h2:i<us.length),cntF vs[i]=cntF us[i])->bZ vs=bZ us
 |[],[],_,_=>rfl
 |u::us,v::vs,hl,h=>by
  rw[bZ,bZ,WG us vs (by simpa using hl) (fun i h1 h2=>h (i+1) (by simpa using h1) (by simpa using h2))];have:=h 0 (by simp) (by simp);simp only[List.getElem_cons_zero]at this;rw[this]
 |[],_::_,hl,_=>by simp at hl
 |_::_,[],hl,_=>by simp at hl
theorem Pz{p:av->Prop}:∀(vs:List av),(∀i (h:i<vs.length),iD p vs[i])->gJ p vs
 |[],_=>by rw[gJ];trivial
 |v::vs,h=>by
  rw[gJ];exact⟨h 0 (by simp),Pz vs fun i hi=>h (i+1) (by simpa using hi)⟩
theorem Mq{xs ys:List aJ}(h:xs.map aJ.t=ys.map aJ.t)(hy:∀y∈ys,y.t.size<=100):∀x∈xs,x.t.size<=100:=fun x hx=>by
 have h1:x.t∈ys.map aJ.t:=by rw[<-h];exact List.mem_map_of_mem hx
 obtain⟨y,hy1,hy2⟩:=List.mem_map.1 h1;rw[<-hy2];exact hy y hy1
theorem abb{u:av}{hl wl:List aJ}{vs:List av}(hok:dI u)(h1:hl.map aJ.t=u.head.map aJ.t)(h2:wl.map aJ.t=u.words.map aJ.t)(h3:vs.length=u.kids.length)(h4:∀i (h:i<vs.length) (h2:i<u.kids.length),zI u.kids[i] vs[i]):zI u (.mk 0 0 0 u.kind u.label hl wl vs):=by
 obtain⟨o1,o2,o3,o4,o5,o6⟩:=hok.all.head;have e1:hl.length=u.head.length:=by have:=nI List.length h1;simpa using this
 have e2:wl.length=u.words.length:=by have:=nI List.length h2;simpa using this
 refine⟨rfl,rfl,rfl,h1,h2,h3,?_,?_⟩
 ·rw[iD]
  exact⟨⟨o1,by simpa[av.head,e1]using o2,by simpa[av.words,e2]using o3,by simpa[av.kids,h3]using o4,Mq h1 o5,Mq h2 o6⟩,Pz vs fun i hi=>(h4 i hi (by omega)).all⟩
 ·have h5:cntF u=1+bZ u.kids:=by cases u;rw[cntF];rfl
  rw[h5,cntF,WG u.kids vs h3 fun i h h2=>(h4 i h h2).cnt]
theorem Own.some{P:Program}{α:Type}{D:El P α}{base n c:Nat}{w:World}{A:Option Addr}{xs:List α}(h:Own D base w (.slice A n c) xs)(h0:0<xs.length):∃g,A=some ⟨g,0,none⟩/\n=xs.length/\base<=g:=by
 rcases h.2 with⟨hv,h1⟩|⟨g,cap,cur,hv,hg,-⟩
 ·omega
 ·cases hv
  exact⟨g,rfl,rfl,hg⟩
theorem Yn(N:Nat)(ih:NZ N):NZ (N+1):=by
 intro u r w hN hr hok;have Hc:=ah (fun wq (he:Ext w wq)=>Ju u r wq (Reads.ext he u r hr) hok.LB);have uG:=ah (fun k (h:k<u.kids.length)=>ih u.kids[k]);have qE:=ah (fun k (h:k<u.kids.length)=>qO hN h);have fI:=ah hok;clear hN hr hok ih;go_enter func235,ntmps235
 go_upto_region 1 with(first|(refine aG aj (.tmp 0) rfl rfl r rfl fun wA aR bG bB aO=> ?_)|(refine aL aj rfl rfl fun wC dD jK fE=> ?_))
 have HX:=ah (aR.trans dD);have oZ:=ah (aO.ext dD (ay bB));have HzC:=ah (show wC.heap.size=w.heap.size+2 by omega);have sG:=ah (show wC.heap[w.heap.size+1]? =some (.cells aj.z.cells aj.e (0,0))from by rw[<-bG];exact fE);have HkA:=ah (dD.block (ay bB)|>.trans bB);have sQ:=ah (Hc.out wC HX.out);rw[bG];clear aR bG bB aO dD jK fE Hc;go_wp2_with ((with_reducible refine au aj (.tmp 1) ?_ ?_ ?_ w.heap.size 0 ?_ r ?_ ?_);rfl;rfl;rfl;rfl;exact oZ.out)
 refine sQ.out.mono ?_;rintro e w1 ⟨r1,rfl,hC⟩;obtain⟨rs,p,hkn,hrl,hrow,hall,hp1,hp3,hph,hpw,hpk⟩:=hC.kids;have aki:=(hC.ext.block (ay HkA.out)).trans HkA.out;have akj:=(hC.ext.block (ay sG.out)).trans sG.out;have hX1:=HX.out.trans hC.ext;have yV:=ah (show Own aj (w.heap.size+2) w1 (.slice r1.kA r1.kn r1.kc) rs from by rw[<-HzC.out];exact hrow);have jo:=ah hall;have uQ:=ah (fun j (hj:j<w.heap.size+2)=>hp1 j (by rw[HzC.out];exact hj));have Gl:=ah hp3;have Hph:=ah hph;have DI:=ah hpw;have Mh:=ah hpk;have Hrl:=ah hrl;have FD:=ah hkn;have Hth:=ah (show Ak (w.heap.size+2) w1 r1.hA r1.hn r1.hc (u.head.map aJ.t)from⟨u.head,hC.head.1.symm,by rw[<-HzC.out];exact hC.head.2,rfl⟩);have Htw:=ah (show Ak (w.heap.size+2) w1 r1.wA r1.wn r1.wc (u.words.map aJ.t)from⟨u.words,hC.words.1.symm,by rw[<-HzC.out];exact hC.words.2,rfl⟩);have Hf:=ah hC.j5;have Hlen:=ah (And.intro hC.head.1 hC.words.1);clear hrow hall hp1 hp3 hph hpw hpk hrl hkn hC
 go_upto_region 3 with(first|(refine aD aj (.tmp 1) (.tmp 8) rfl rfl w w.heap.size rfl r1 rfl _ _ aki rfl hX1 (aI _) fun wS j4 hzS kL N7 hoS=> ?_)|
  (refine aP rfl 26 (.tmp 10) (.tmp 9) rfl w.heap.size 0 (.agg #[.int .i64 0,.int .i64 0,.int .i64 0]) rfl rfl [.int .i64 0,.int .i64 0,.int .i64 0] rfl sizeOf26 (by simp[Value.oneCell']) _ _ kL (by simp[aj,aB.cells]) ?_;intro w3 hw3 gQ gT gU hs3 jw))
 obtain⟨r2,hr2⟩:∃r2:aB,{r1 with a:=0,i:=0,n:=0}=r2:=⟨_,rfl⟩
 have EP:w3.heap[w.heap.size]? =some (.cells r2.cells.toArray 30 (0,0)):=by
  rw[jw,<-hr2];simp[aj,aB.cells]
 have HS:=ah (show Ih w r2 (u.head.map aJ.t) (u.words.map aJ.t) u.kids rs p w3 from by
  have hne:∀j,j≠w.heap.size->w3.heap[j]? =w1.heap[j]? :=fun j hj=>(hw3 j hj).trans (hoS j hj);have avY:w3.heap.size=w1.heap.size:=hs3.trans hzS;have hgr:∀j,w.heap.size+2<=j->w3.heap[j]? =w1.heap[j]? :=fun j hj=>hne j (by omega);refine⟨j4.put (aI _) hw3 gQ gT gU hs3,EP,(hne _ (by omega)).trans akj,?_,?_,?_,?_⟩
  ·rw[<-hr2]
   exact Hth.out.keep fun g hg=>hgr g (by obtain⟨xs,-,h2,-⟩:=Hth.out;exact(h2.lt g hg).1)
  ·rw[<-hr2]
   exact Htw.out.keep fun g hg=>hgr g (by obtain⟨xs,-,h2,-⟩:=Htw.out;exact(h2.lt g hg).1)
  ·exact ReadsAll.cin (aZ.keep (by omega) fun j hj ni=>⟨hne j (fun e=>by rw[e,uQ.out _ (by omega)]at ni;cases ni),ni⟩) _ _ jo.out
  ·rw[<-hr2]
   exact yV.out.keep fun g hg=>hgr g (yV.out.lt g hg).1)
 have ND:=ah (show∀j,p j=true->j<w3.heap.size from fun j hj=>by have:=Gl.out j hj;rw[hs3,hzS];exact this);have Hph:=ah (show∀g,(Value.slice r2.hA r2.hn r2.hc).ownBlock=some g->p g=true from by rw[<-hr2];exact Hph.out);have DI:=ah (show∀g,(Value.slice r2.wA r2.wn r2.wc).ownBlock=some g->p g=true from by rw[<-hr2];exact DI.out);have Mh:=ah (show∀g,(Value.slice r2.kA r2.kn r2.kc).ownBlock=some g->p g=true/\(Value.slice r2.hA r2.hn r2.hc).ownBlock≠some g/\(Value.slice r2.wA r2.wn r2.wc).ownBlock≠some g from by rw[<-hr2];exact Mh.out);have FD:=ah (show r2.kn=rs.length from by rw[<-hr2];exact FD.out);have Hf:=ah (show r2.kind=u.kind/\r2.label=u.label from by rw[<-hr2];exact Hf.out);have Hlen:=ah (show r2.hn=u.head.length/\r2.wn=u.words.length from by rw[<-hr2];exact Hlen.out);have arD:=ah (show r2.id=q8 from by rw[<-hr2];rfl);obtain⟨-,-,c5,c6,-⟩:=o8 (Tt EP);clear jw hw3 gQ gT gU hs3 j4 hzS kL N7 hoS aki akj hX1 EP hr2 Hth Htw jo yV Gl sQ HX oZ sG HkA HzC;go_wp2;have uw:Ext w3 (w3.alloc (.cells #[.slice r2.hA r2.hn r2.hc,.slice r2.wA r2.wn r2.wc] 27)):=(Ext.refl _).alloc _;have Ca:=heap_alloc_new w3 (.cells #[.slice r2.hA r2.hn r2.hc,.slice r2.wA r2.wn r2.wc] 27);obtain⟨wL,hwL⟩:=aH (w3.alloc (.cells #[.slice r2.hA r2.hn r2.hc,.slice r2.wA r2.wn r2.wc] 27));obtain⟨L,hL⟩:=aH (w3.heap.size);rw[hwL]at uw Ca⊢;rw[hL]at Ca ND⊢;have Gy:=ah (HS.out.grow uw);have WH:=ah Ca
 have HR:=ah (show∀j:Nat,j<2->∃(A:Option Addr) (n c:Nat) (ts:List ByteArray),n<=1000/\(#[Value.slice r2.hA r2.hn r2.hc,.slice r2.wA r2.wn r2.wc]:Array Value)[j]? =some (.slice A n c)/\(∀wr,Ih w r2 (u.head.map aJ.t) (u.words.map aJ.t) u.kids rs p wr->Ak (w.heap.size+2) wr A n c ts)/\∀g,(Value.slice A n c).ownBlock=some g->p g=true/\g<L/\(Value.slice r2.kA r2.kn r2.kc).ownBlock≠some g from fun j hj=>by
  match j,hj with
  |0,_=>exact⟨_,_,_,_,by have h1:=Hlen.out.1;have h2:=fI.out.all.head.2.1;omega,rfl,fun wr h=>h.head,fun g hg=>⟨Hph.out g hg,ND.out g (Hph.out g hg),fun e=>(Mh.out g e).2.1 hg⟩⟩
  |1,_=>exact⟨_,_,_,_,by have h1:=Hlen.out.2;have h2:=fI.out.all.head.2.2.1;omega,rfl,fun wr h=>h.words,fun g hg=>⟨DI.out g hg,ND.out g (DI.out g hg),fun e=>(Mh.out g e).2.2 hg⟩⟩)
 obtain⟨akm,ags⟩:∃z,(#[Value.slice r2.hA r2.hn r2.hc,.slice r2.wA r2.wn r2.wc]:Array Value)=z:=⟨_,rfl⟩;rw[ags]at HR WH;clear uw Ca hwL hL HS c5 c6 ags
 go_loopw [4,5,17] (fun u4 u5 vk wr=>∃j:Nat,j<=2/\vk=.int .i64 (j:Nat)/\Hid (Ih w r2 (u.head.map aJ.t) (u.words.map aJ.t) u.kids rs p wr)/\Hid (wr.heap[L]? =some (.cells akm 27 (0,0)))) (fun _ _ vk _=>2-(intOf vk).toNat)
 case atStart=>exact⟨0,by omega,rfl,Gy,WH⟩
 case round=>
  obtain⟨j,hj,rfl,HSr,HLr⟩:=hrel;by_cases hlt:j<2
  ·have f1:=eY j 2
   obtain⟨A,n,c,ts,hnb,hcell,hT,hD⟩:=HR.out j hlt;have cL:wr.cell? ⟨L,j,none⟩=some (.slice A n c):=by simp[World.cell?,HLr.out,hcell]
   have HT:=ah hT;have HD:=ah hD;clear hT hD hcell;go_wp2
   go_loopw [5,23] (fun u5 vk wx=>∃k:Nat,k<=n/\vk=.int .i64 (k:Nat)/\Hid (Ih w r2 (u.head.map aJ.t) (u.words.map aJ.t) u.kids rs p wx)/\Hid (wx.heap[L]? =some (.cells akm 27 (0,0)))) (fun _ vk _=>n-(intOf vk).toNat)
   case atStart=>exact⟨0,bI _,rfl,HSr,HLr⟩
   case round=>
    obtain⟨k,hk,rfl,Tv,HLx⟩:=hrel;by_cases hlk:k<n
    ·have f2:=eY k n
     obtain⟨g,cur,hA,hgb,hcur,hb⟩:=(HT.out _ Tv.out).at_ hlk;subst hA;obtain⟨hpg,hgL,hkg⟩:=HD.out g rfl;clear cL;go_wp2_with (refine aP rfl 46 (.tmp 30) (.tmp 28) rfl g (k*4+1) (.agg #[.int .i64 0,.int .i64 0,.int .i64 0]) rfl rfl [.int .i64 0,.int .i64 0,.int .i64 0] rfl sizeOf46 (by simp[Value.oneCell']) _ cur hcur (by simp;omega) ?_;intro w4 h1 h2 h3 h4 h5 h6)
     go_roundw
     case rel=>exact⟨k+1,by omega,by go_num,ah (Tv.out.clear hcur hb hgb hpg hkg h1 h2 h3 h4 h5 h6),ah ((h1 L (by omega)).trans HLx.out)⟩
     case measure=>simp[intOf];omega
    ·have f2:=fT k n
     go_wp2;go_roundw
     case rel=>exact⟨j+1,by omega,by go_num,Tv,HLx⟩
     case measure=>simp[intOf];omega
  ·have f1:=fT j 2
   obtain⟨-,-,-,-,c7⟩:=o8 (Tt HSr.out.box);go_wp2;have hrn:rs.length<=1000:=by have:=Hrl.out;have:=fI.out.all.head.2.2.2.1;omega
   rw[FD.out]
   go_loopw [6,36] (fun u6 vk wx=>∃(k:Nat) (vs:List av) (xs:List aB),k<=rs.length/\vk=.int .i64 (k:Nat)/\Hid (vs.length=k/\xs.length=rs.length/\∀i (h:i<vs.length) (h2:i<u.kids.length),zI u.kids[i] vs[i])/\Hid (Ih w r2 (u.head.map aJ.t) (u.words.map aJ.t) (vs++u.kids.drop k) xs p wx)/\Hid (L<=wx.heap.size)) (fun _ vk _=>rs.length-(intOf vk).toNat)
   case atStart=>exact⟨0,[],rs,bI _,rfl,ah ⟨rfl,rfl,fun i h=>by simp at h⟩,by rw[List.drop_zero,jW];exact HSr,ah (Nat.le_of_lt (ay HLr.out))⟩
   case round=>
    obtain⟨k,vs,xs,hk,rfl,Hv,yJ,HLk⟩:=hrel;by_cases hlk:k<rs.length
    ·have f2:=eY k rs.length
     have hlx:k<xs.length:=by rw[Hv.out.2.1];exact hlk
     have FW:k<u.kids.length:=by rw[<-Hrl.out];exact hlk
     obtain⟨g,bB,hkn,hgb⟩:=yJ.out.row.some (by omega);have Tw:=ah (show Value.slice r2.kA r2.kn r2.kc=.slice (some ⟨g,0,none⟩) xs.length r2.kc from by rw[bB,hkn]);have yV:=ah (show Own aj (w.heap.size+2) wr (.slice (some ⟨g,0,none⟩) xs.length r2.kc) xs from by rw[<-Tw.out];exact yJ.out.row)
     have pK:=ah (show Sl aj wr (some ⟨g,0,none⟩) xs from by
      obtain⟨A',c',hv,-,hs⟩:=yV.out.form;cases hv
      exact hs)
     have hpg:p g=true:=(Mh.out g (by rw[Tw.out];rfl)).1;have arE:(Value.slice r2.hA r2.hn r2.hc).ownBlock≠some g:=(Mh.out g (by rw[Tw.out];rfl)).2.1;have arF:(Value.slice r2.wA r2.wn r2.wc).ownBlock≠some g:=(Mh.out g (by rw[Tw.out];rfl)).2.2;obtain⟨q,hq⟩:=aH (xs[k]);have Hq:=ah (show xs[k]? =some q from by rw[fP hlx,hq]);obtain⟨ku,Tx⟩:=aH (u.kids[k]);have arG:=ah Tx
     have hrd:Reads (mask p wr) ku q:=by
      have h1:=ReadsAll.get yJ.out.kids k (by rw[eu,jV,Hv.out.1];omega) hlx;rw[List.getElem_append_right (by rw[Hv.out.1];exact aI _),List.getElem_drop,hq]at h1;rw[<-Tx];have e:k+(k-vs.length)=k:=by rw[Hv.out.1];omega
      simpa only[e]using h1
     have hsub:=qE.out k FW;have hrec:=uG.out k FW;rw[Tx]at hsub hrec;have akp:dI ku:=by rw[<-Tx];exact fI.out.kid (dW FW)
     have iY:=ah (fun W (he:Ext wr W)=>hrec q W hsub (Reads.cin (aZ.iV p W) _ _ (Reads.cin (aZ.ext he) _ _ hrd)) akp);have jh:=ah (show∀wq,Ext wr wq->(aK [.int .i64 r2.a,.int .i64 r2.i,.int .i64 r2.n,.int .i64 r2.kind,.string r2.label,.slice r2.hA r2.hn r2.hc,.slice r2.wA r2.wn r2.wc,.slice r2.kA r2.kn r2.kc]).p (.pointer (some ⟨w.heap.size,0,none⟩)) wq from fun wq he=>⟨w.heap.size,0,rfl,bQ (ay yJ.out.box) he.size,fun j y hy=>Tt ((he.block (ay yJ.out.box)).trans yJ.out.box) j y hy⟩);have arH:=ah (show∀j,p j=true->j<wr.heap.size from fun j hj=>bQ (ND.out j hj) HLk.out);clear bB hkn hq Tx hrd hsub hrec akp;go_upto_region 15 with fail
     refine iJ 10 (fun i=>match i with|0=>aK [.slice r2.kA r2.kn r2.kc]|1=>Ty.is (.slice r2.kA r2.kn r2.kc)|2=>Ty.is (.int .i64 (k:Nat))|3=>aK [.slice r2.kA r2.kn r2.kc]|4=>Ty.is (.slice r2.kA r2.kn r2.kc)|5=>Ty.is (.int .i64 (k:Nat))|6=>aK (aj.E q)|7=>Ty.is (.agg (aj.E q).toArray)|8=>aa9 p ku|9=>Ty.is (.pointer (some ⟨g,k*8,none⟩))|_=>Ty.any) (by kernel_rfl) (by kernel_rfl) (by kernel_rfl) (by decide) rfl ?_;intro v;refine⟨?_,?_,?_,?_,?_,?_,?_,?_,?_,?_,?_⟩
     ·exact fun wq hq _=>ak rfl (dB 30 5 (.tmp 1) rfl _ underlying30 _ rfl 1 sizeOf28 (by decide) [.int .i64 r2.a,.int .i64 r2.i,.int .i64 r2.n,.int .i64 r2.kind,.string r2.label,.slice r2.hA r2.hn r2.hc,.slice r2.wA r2.wn r2.wc,.slice r2.kA r2.kn r2.kc] ((jh.out _ hq)))
     ·rintro wq hq ⟨h0,-⟩;exact ak rfl (bW 28 (.tmp 39) rfl isAgg28 (c:=.slice r2.kA r2.kn r2.kc) h0 rfl)
     ·exact fun wq hq _=>ak rfl (aF (.tmp 6) rfl rfl rfl)
     ·exact fun wq hq _=>ak rfl (dB 30 5 (.tmp 1) rfl _ underlying30 _ rfl 1 sizeOf28 (by decide) [.int .i64 r2.a,.int .i64 r2.i,.int .i64 r2.n,.int .i64 r2.kind,.string r2.label,.slice r2.hA r2.hn r2.hc,.slice r2.wA r2.wn r2.wc,.slice r2.kA r2.kn r2.kc] ((jh.out _ hq)))
     ·rintro wq hq ⟨h0,-⟩;exact ak rfl (bW 28 (.tmp 42) rfl isAgg28 (c:=.slice r2.kA r2.kn r2.kc) h0 rfl)
     ·exact fun wq hq _=>ak rfl (aF (.tmp 6) rfl rfl rfl)
     ·rintro wq hq ⟨h0,h1,-⟩
      change v 4=_ at h0;change v 5=_ at h1;refine ak rfl ?_;exact iq aj (.tmp 43) (.tmp 44) rfl _ xs r2.kc (h0.trans Tw.out) k h1 (pK.out.ext hq) q Hq.out
     ·rintro wq hq ⟨h0,-⟩;exact ak rfl (bU 30 (.tmp 45) rfl isAgg30 8 sizeOf30 (aj.E q) rfl h0 rfl)
     ·rintro wq hq ⟨h0,-⟩
      change v 7=_ at h0;refine ak rfl ?_;refine fC 235 call235 _ _ rfl rfl [_] ⟨h0,trivial⟩ ?_;refine(iY.out wq hq).mono ?_;rintro e w' ⟨v',r',rfl,hx',hr',hs'⟩;exact⟨_,rfl,hx',v',r',rfl,hs',Reads.cin (aZ.weaken _ fun j hj=>bJ (bQ (arH.out j hj) hq.size)) _ _ hr'⟩
     ·rintro wq hq ⟨h0,h1,h2,h3,h4,h5,h6,h7,h8,h9,h10,-⟩
      change v 1=_ at h0;change v 2=_ at h1;refine ak rfl ?_;exact Gw aj (.tmp 40) (.tmp 41) rfl g xs.length r2.kc k (h0.trans Tw.out) h1 hlx rfl
     ·intro wq hq hT
      have k8:=hT 8 (by decide);change (aa9 p ku).p (v 8) wq at k8;have k9:=hT 9 (by decide);change v 9=_ at k9;clear hT;simp only[List.drop_succ_cons,List.drop_zero,gH,dK,List.set_cons_succ,List.set_cons_zero,Nat.reduceAdd];generalize v 8=x8 at k8⊢;rw[k9];obtain⟨v',r',rfl,hs',hr'⟩:=k8;have WI:=ah (yJ.out.grow hq);have hrow':=yV.out.ext hq;have Hr':=ah hr';have Tz:=ah hs';have Hz:=ah (bX HLk.out hq.size);clear hr' hs' k9 hq;go_wp2_with (refine nU aj rfl (.tmp 48) (.tmp 47) rfl g r2.kc k (k*8) r' (.agg r'.cells.toArray) rfl rfl rfl rfl hrow' hlx ?_;intro w5 h1 h2 h3 h4 h5 hown5)
      go_roundw
      case rel=>
       refine⟨k+1,vs++[v'],xs.set k r',by omega,by go_num,ah ⟨by simp[Hv.out.1],by simp[Hv.out.2.1],?_⟩,ah ?_,ah (by rw[h5];exact Hz.out)⟩
       ·intro i hi hi2
        by_cases hiv:i<vs.length
        ·rw[List.getElem_append_left hiv]
         exact Hv.out.2.2 i hiv hi2
        ·have hik:i=k:=by have:=Hv.out.1;simp at hi;omega
         subst hik;rw[List.getElem_append_right (by omega)];rw[arG.out];simpa using Tz.out
       ·refine⟨WI.out.ext.put (by omega) h1 h2 h3 h4 h5,(h1 _ (by omega)).trans WI.out.box,(h1 _ (by omega)).trans WI.out.res,WI.out.head.keep fun j hj=>h1 j (fun e=>arE (by rw[<-e];exact hj)),WI.out.words.keep fun j hj=>h1 j (fun e=>arF (by rw[<-e];exact hj)),?_,?_⟩
        ·have h7:=ReadsAll.set k WI.out.kids Hr'.out
         rw[iW FW,List.set_append_right _ _ (by rw[Hv.out.1];exact aI _),show k-vs.length=0 from by rw[Hv.out.1];omega,List.set_cons_zero]at h7;rw[dV];exact ReadsAll.cin (aZ.keep (by omega) fun j hj ni=>⟨h1 j (fun e=>by rw[e,hpg]at ni;cases ni),ni⟩) _ _ h7
        ·rw[Tw.out]
         exact hown5
      case measure=>simp[intOf];omega
    ·have f2:=fT k rs.length
     have ad2:=ah (Tt yJ.out.box);have oJ:=yJ.out.res;have oK:=yJ.out.ext;go_wp2_with (first|((with_reducible refine au aj (.tmp 1) ?_ ?_ ?_ w.heap.size 0 ?_ r2 ?_ ?_);rfl;rfl;rfl;rfl;exact ad2.out)|((refine aD aj (.tmp 2) (.tmp 50) ?_ ?_ w (w.heap.size+1) ?_ r2 ?_ _ _ oJ ?_ oK (Nat.le_succ _) ?_);rfl;rfl;rfl;rfl;rfl;intro wG dL fF dM lZ jS))
     refine bodyPost_ret (kJ rfl _ _ (w.heap.size+1) r2 rfl dM) rfl ?_;have hkl:k=u.kids.length:=by have:=Hrl.out;omega
     obtain⟨hl,hl1,hl2,hl3⟩:=yJ.out.head;obtain⟨wl,wl1,wl2,wl3⟩:=yJ.out.words;have hks:=yJ.out.kids;have hrow:=yJ.out.row;rw[mH (by omega),kY]at hks;obtain⟨hv1,hv2,hv3⟩:=Hv.out;have hgo:∀j,j≠w.heap.size+1->wG.heap[j]? =wr.heap[j]? :=jS;refine⟨.mk 0 0 0 u.kind u.label hl wl vs,r2,rfl,dL,?_,?_⟩
     ·obtain⟨_,_,e1,ec1,-,es1⟩:=(hl2.keep (w':=wG) fun j hj=>hgo j (by have:=(hl2.lt j hj).1;omega)).kG (p:=fresh w.heap.size) (fun g hg _=>by simp[fresh];omega)
      obtain⟨_,_,e2,ec2,-,es2⟩:=(wl2.keep (w':=wG) fun j hj=>hgo j (by have:=(wl2.lt j hj).1;omega)).kG (p:=fresh w.heap.size) (fun g hg _=>by simp[fresh];omega);obtain⟨_,_,e3,ec3,-,es3⟩:=(hrow.keep (w':=wG) fun j hj=>hgo j (by have:=(hrow.lt j hj).1;omega)).kG (p:=fresh w.heap.size) (fun g hg _=>by simp[fresh];omega);simp only[Value.slice.injEq]at e1 e2 e3;obtain⟨a1,a2,a3⟩:=e1;obtain⟨b1,b2,b3⟩:=e2;obtain⟨c1,c2,c3⟩:=e3;have hi:=arD.out;simp only[aB.id,q8,bf.mk.injEq]at hi;rw[Reads];refine⟨⟨hi.1,hi.2.1,hi.2.2,Hf.out.1,Hf.out.2⟩,⟨a2,by rw[a3];exact ec1,by rw[a1];exact es1⟩,⟨b2,by rw[b3];exact ec2,by rw[b1];exact es2⟩,by omega,by rw[c3];omega,xs,by rw[c1];exact es3,?_⟩
      exact ReadsAll.cin (aZ.keep (by omega) fun j hj ni=>⟨hgo j (fun e=>by rw[e,uQ.out _ (by omega)]at ni;cases ni),by
       have hn:¬j<w.heap.size+2:=fun h=>by rw[uQ.out j h]at ni;cases ni
       simp[fresh];omega⟩) _ _ hks
     ·exact abb fI.out hl3 wl3 (by omega) hv3
theorem PD:∀N,NZ N
 |0=>fun _ _ _ h=>(xI h).elim
 |N+1=>Yn N (PD N)
theorem Mr(u:av)(r:aB)(w:World)(hr:Reads w u r)(hok:dI u):Calls prog 235 #[.agg r.cells.toArray] w fun e w'=>∃(v:av) (r':aB),e=.returned (.agg r'.cells.toArray)/\Ext w w'/\Reads (mask (fresh w.heap.size) w') v r'/\zI u v:=PD _ u r w (aI _) hr hok
end Go.Proofs.YtgboomjahhnldaaGreatDoor
