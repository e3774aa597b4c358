/- A part of the proof of TopWritten, printed small: TApply TFill TTrim TBegin. -/
import Derived.Test.YtgboomjahhnldaaGreatDoorZ35
import Derived.Test.YtgboomjahhnldaaGreatDoorZ21
import Derived.Test.YtgboomjahhnldaaGreatDoorZ15
import Derived.Test.YtgboomjahhnldaaGreatDoorZ12
import Derived.Shelf.Strings.SlTrimAscii
import Derived.Test.YtgboomjahhnldaaGreatDoorZ22
set_option maxRecDepth 100000
set_option maxHeartbeats 25600000
set_option linter.all false
namespace Go.Proofs.YtgboomjahhnldaaGreatDoor
open Go.Proofs.Tryz Go.RowKit
def mq(V:Prop)(w:World)(e:Ending)(w':World):Prop:=∃b:Bool,e=.returned (.bool b)/\(V->b=true)/\Ext w w'
structure ach (V:Prop) (ds:List dn) (n:Nat) (u:av) (dd:dn) (w:World) (u':av):Prop where
 book:gD ds (n+30) u'
 ins:V->dd.it.x.kind=0->Oj u dd w->u'=u.dJ [(gK dd.act dd.item dd.it.x.unit 1 0).1]
 rep:V->dd.it.x.kind=1->∀x,iO u dd.it.x.at_=[x]->x.id≠u.id->∃p j,pF x.id u p j/\u'=fZ p.id (fun y=>y.dJ (y.kids.eraseIdx j)) u
theorem VP{W:World}{b:Nat}{q:dY}(h:At W b 0 (bF.E q)):W.cell? ⟨b,3,none⟩=some (.int .i64 q.it.kind)/\W.cell? ⟨b,4,none⟩=some (.slice q.it.aA q.it.aN q.it.aC)/\W.cell? ⟨b,5,none⟩=some (.slice q.it.bA q.it.bN q.it.bC):=
 ⟨by simpa using h.one 3 (u:=.int .i64 q.it.kind) rfl,by simpa using h.one 4 (u:=.slice q.it.aA q.it.aN q.it.aC) rfl,by simpa using h.one 5 (u:=.slice q.it.bA q.it.bN q.it.bC) rfl⟩
theorem aci(x y:bf)(W:World):(binOp .neq 26 (.agg (aM.E x).toArray) (.agg (aM.E y).toArray)).run prog W=.ok (.bool (!decide (x=y))) W:=afC W x.a x.i x.n y.a y.i y.n
theorem acj{id:bf}{u:av}(h:cZ id u≠[]):∃x,findF id u=some x:=by
 unfold findF;cases hl:(cZ id u).getLast? with
 |none=>exact absurd (List.getLast?_eq_none_iff.1 hl) h
 |some x=>exact⟨x,rfl⟩
theorem acn(V:Prop)(d:Nat->Bool)(ds:List dn)(n:Nat)(u:av)(r:aB)(dd:dn)(q:dY)(w:World)(hD:lG d w)(hr:Reads (mask d w) u r)(hI:gD ds n u)(hn:n+30<=1000)(hdd:dd∈ds)(hq:fH w dd q)(hi:lu dd.it)(hT:kN w)
 (hV:∀wq,Ext w wq->Calls prog 53 #[.agg q.it.cells.toArray] wq (mq V wq)):
 Calls prog 41 #[.agg r.cells.toArray,.agg q.cells.toArray] w (uj d (fun u' _=>ach V ds n u dd w u') w):=by
 have jN:=ah (fun wq (he:Ext w wq) (hb:w.heap.size<=w.heap.size+2)=>Reads.cin (aZ.dark (d:=d) he hb) u r hr);have HD:=ah hD;have HI:=ah hI;have hok:dI u:=hI.ok (by omega);have fI:=ah hok;have yL:=Reads.cin (aZ.iV d w) u r hr;have hone:=hq.it.one;have Uu:=ah (fun wq (he:Ext w wq)=>Reads.ext he u r yL);have Hfa:=ah (fun wq (he:Ext w wq)=>uW u r dd.it.x.at_ q.it.aA q.it.aC wq (Reads.ext he u r yL) hok (hone.aS.ext he) hone.aC (by have:=hi.one.a;omega) (fun s hs=>by have:=hi.one.as_ s hs;omega));have Hfb:=ah (fun wq (he:Ext w wq)=>uW u r dd.it.x.oV q.it.bA q.it.bC wq (Reads.ext he u r yL) hok (hone.bS.ext he) hone.bC (by have:=hi.one.b;omega) (fun s hs=>by have:=hi.one.bs_ s hs;omega));rw[<-hone.aN]at Hfa;rw[<-hone.bN]at Hfb;have E9:=ah (fun(id:bf) wq (he:Ext w wq)=>CY u r id wq (Reads.ext he _ _ yL) hok);have qE:=ah (Ik u dd.it.x.at_);have Hq:=ah (fun wq (he:Ext w wq)=>hq.ext he);have HT:=ah hT;have Hi:=ah hi;have FU:=ah hdd;have HV:=ah hV;have DF:=ah (show q.it.kind=dd.it.x.kind from hone.kind);have amc:=ah (show r.id=u.id from yL.j5.1);have Hn:=ah hn;clear hD hr hok hq hi yL hT hone hdd hV hI hn;go_enter func41,ntmps41
 go_upto_region 1 with(first|(refine aG aj (.tmp 0) rfl rfl r rfl fun wA aR bG bB aO=> ?_)|(refine aG bF (.tmp 1) rfl rfl q rfl fun wB eH ji hkB eG=> ?_)|(refine aL aj rfl rfl fun wC dD jK fE=> ?_))
 have hzz:wA.heap.size=w.heap.size+1/\wB.heap.size=w.heap.size+2:=⟨bG,by omega⟩;have HX:=ah (aR.trans (eH.trans dD));have dO:=ah (fun W (he:Ext wC W)=>aO.ext (eH.trans (dD.trans he)) (ay bB));have mo:=ah (show∀W,Ext wC W->At W (w.heap.size+1) 0 (bF.E q)from fun W he=>by rw[<-hzz.1];exact eG.ext (dD.trans he) (ay hkB));have jI:=ah (show wC.heap[w.heap.size+2]? =some (.cells aj.z.cells aj.e (0,0))from by rw[<-hzz.2];exact fE);have CZ:w.heap.size+2<wC.heap.size:=ay jI.out;have iT:=ah (show∀W,Ext wC W->At W w.heap.size 0 (aM.E r.id)from fun W he j y hy=>dO.out W he j y (uh hy));have nG:=ah (show∀W,Ext wC W->At W (w.heap.size+1) 3 (aT.E q.it)from fun W he=>II (mo.out W he));have C8:=ah (fun W (he:Ext wC W)=>VP (mo.out W he));have jh:=ah (show∀wq,Ext wC wq->(aK [.int .i64 q.act,.int .i64 q.item,.int .i64 q.day,.int .i64 q.it.kind,.slice q.it.aA q.it.aN q.it.aC,.slice q.it.bA q.it.bN q.it.bC,.int .i64 q.it.wh,.int .i64 q.it.nth,.int .i64 q.it.u.a,.int .i64 q.it.u.i,.int .i64 q.it.u.n,.int .i64 q.it.u.kind,.string q.it.u.label,.slice q.it.u.hA q.it.u.hn q.it.u.hc,.slice q.it.u.wA q.it.u.wn q.it.u.wc,.slice q.it.u.kA q.it.u.kn q.it.u.kc,.slice q.it.oA q.it.oN q.it.oC,.slice q.it.nA q.it.nN q.it.nC,.string q.it.label,.string q.it.fr,.int .i64 q.it.sk,.int .i64 q.it.sd,.string q.it.se,.int .i64 q.it.act,.int .i64 q.it.item,.int .i64 q.it.day,.string q.it.ev,.slice q.it.yA q.it.yN q.it.yC]).p (.pointer (some ⟨w.heap.size+1,0,none⟩)) wq from fun wq he=>⟨w.heap.size+1,0,rfl,bQ (by omega) he.size,fun j u hu=>mo.out wq he j u hu⟩);clear aR bG bB aO eH ji hkB eG dD jK fE hzz;refine iw (by kernel_rfl) (fun i=>match i with|0=>ahm|1=>aK [.int .i64 q.it.kind,.slice q.it.aA q.it.aN q.it.aC,.slice q.it.bA q.it.bN q.it.bC,.int .i64 q.it.wh,.int .i64 q.it.nth,.int .i64 q.it.u.a,.int .i64 q.it.u.i,.int .i64 q.it.u.n,.int .i64 q.it.u.kind,.string q.it.u.label,.slice q.it.u.hA q.it.u.hn q.it.u.hc,.slice q.it.u.wA q.it.u.wn q.it.u.wc,.slice q.it.u.kA q.it.u.kn q.it.u.kc,.slice q.it.oA q.it.oN q.it.oC,.slice q.it.nA q.it.nN q.it.nC,.string q.it.label,.string q.it.fr,.int .i64 q.it.sk,.int .i64 q.it.sd,.string q.it.se,.int .i64 q.it.act,.int .i64 q.it.item,.int .i64 q.it.day,.string q.it.ev,.slice q.it.yA q.it.yN q.it.yC]|2=>aK [.int .i64 q.it.kind]|3=>Ty.is (.int .i64 q.it.kind)|4=>Ty.is (QO q.it.kind)|5=>Ty.is (QO q.it.kind)|6=>Ty.is (((F6 q.it.kind).map dZ).getD .nilFunc)|7=>Ty.is (.bool (F6 q.it.kind).isSome)|8=>Ty.is (((F6 q.it.kind).map dZ).getD .nilFunc)|9=>Ty.is (.bool (F6 q.it.kind).isSome)|_=>Ty.any) (by kernel_rfl) rfl ?_;intro v;refine⟨?_,?_,?_,?_,?_,?_,?_,?_,?_,?_,?_⟩
 ·intro wq hq hd
  refine ak rfl ?_;refine fC 52 call52 _ _ rfl rfl [] trivial ?_;refine(acg wq).mono ?_;rintro e w' ⟨B,rfl,h1,h2⟩;exact⟨_,rfl,h2,B,rfl,h1⟩
 ·exact fun wq hq _=>ak rfl (dB 44 3 (.tmp 3) rfl _ underlying44 _ rfl 25 sizeOf42 (by decide) [.int .i64 q.act,.int .i64 q.item,.int .i64 q.day,.int .i64 q.it.kind,.slice q.it.aA q.it.aN q.it.aC,.slice q.it.bA q.it.bN q.it.bC,.int .i64 q.it.wh,.int .i64 q.it.nth,.int .i64 q.it.u.a,.int .i64 q.it.u.i,.int .i64 q.it.u.n,.int .i64 q.it.u.kind,.string q.it.u.label,.slice q.it.u.hA q.it.u.hn q.it.u.hc,.slice q.it.u.wA q.it.u.wn q.it.u.wc,.slice q.it.u.kA q.it.u.kn q.it.u.kc,.slice q.it.oA q.it.oN q.it.oC,.slice q.it.nA q.it.nN q.it.nC,.string q.it.label,.string q.it.fr,.int .i64 q.it.sk,.int .i64 q.it.sd,.string q.it.se,.int .i64 q.it.act,.int .i64 q.it.item,.int .i64 q.it.day,.string q.it.ev,.slice q.it.yA q.it.yN q.it.yC] ((jh.out _ hq)))
 ·rintro wq hq ⟨h0,-⟩;exact ak rfl (dB 42 0 (.tmp 16) rfl _ underlying42 _ rfl 1 sizeOf3 (by decide) [.int .i64 q.it.kind,.slice q.it.aA q.it.aN q.it.aC,.slice q.it.bA q.it.bN q.it.bC,.int .i64 q.it.wh,.int .i64 q.it.nth,.int .i64 q.it.u.a,.int .i64 q.it.u.i,.int .i64 q.it.u.n,.int .i64 q.it.u.kind,.string q.it.u.label,.slice q.it.u.hA q.it.u.hn q.it.u.hc,.slice q.it.u.wA q.it.u.wn q.it.u.wc,.slice q.it.u.kA q.it.u.kn q.it.u.kc,.slice q.it.oA q.it.oN q.it.oC,.slice q.it.nA q.it.nN q.it.nC,.string q.it.label,.string q.it.fr,.int .i64 q.it.sk,.int .i64 q.it.sd,.string q.it.se,.int .i64 q.it.act,.int .i64 q.it.item,.int .i64 q.it.day,.string q.it.ev,.slice q.it.yA q.it.yN q.it.yC] (h0))
 ·rintro wq hq ⟨h0,-⟩;exact ak rfl (bW 3 (.tmp 17) rfl isAgg3 (c:=.int .i64 q.it.kind) h0 rfl)
 ·rintro wq hq ⟨h0,h1,-⟩;exact ak rfl (aeV (.tmp 15) (.tmp 18) rfl h0 (q.it.kind) h1)
 ·rintro wq hq ⟨h0,-⟩;exact ak rfl (aF (.tmp 19) rfl h0 rfl)
 ·rintro wq hq ⟨h0,-⟩;exact ak rfl (jm (.tmp 14) 0 rfl _ h0 rfl rfl)
 ·rintro wq hq ⟨h0,-⟩;exact ak rfl (jm (.tmp 14) 1 rfl _ h0 rfl rfl)
 ·rintro wq hq ⟨h0,h1,h2,h3,h4,h5,h6,h7,h8,-⟩;exact ak rfl (jY (.tmp 20) rfl h0 rfl)
 ·rintro wq hq ⟨h0,h1,h2,h3,h4,h5,h6,h7,h8,h9,h10,-⟩;exact ak rfl (jY (.tmp 21) rfl h0 rfl)
 ·intro wq hq hT
  have k8:=hT 8 (by decide);change v 8=_ at k8;have k9:=hT 9 (by decide);change v 9=_ at k9;clear hT;simp only[List.drop_succ_cons,List.drop_zero,gH,dK,List.set_cons_succ,List.set_cons_zero,Nat.reduceAdd];rw[k8];rw[k9];have Eb:=ah (HX.out.trans hq);have Hq1:=ah hq;have hlq:w.heap.size+2<wq.heap.size:=bQ CZ hq.size;clear hq jh;obtain⟨O,hO⟩:=aH (F6 q.it.kind);rw[hO];have HO:=ah (show F6 dd.it.x.kind=O by rw[<-DF.out];exact hO);clear hO k8 k9;cases O with
  |none=>
   have vH:=ah (dO.out wq Hq1.out);have oJ:=(Hq1.out.block (ay jI.out)).trans jI.out;have oK:=Eb.out;simp only[Option.map_none,Option.getD_none,Option.isSome_none];go_wp2_with (first|((with_reducible refine au aj (.tmp 2) ?_ ?_ ?_ w.heap.size 0 ?_ r ?_ ?_);rfl;rfl;rfl;rfl;exact vH.out)|((refine aD aj (.tmp 4) (.tmp 30) ?_ ?_ w (w.heap.size+2) ?_ r ?_ _ _ oJ ?_ oK (by omega) ?_);rfl;rfl;rfl;rfl;rfl;intro wG dL fF dM lZ jS))
   refine bodyPost_ret (dA rfl _ _ (w.heap.size+2) r rfl dM) rfl ?_;exact⟨u,r,_,rfl,dL,Reads.cin (aZ.light fF jS) _ _ (jN.out _ Eb.out (by omega)),HI.out.mono (by omega),(fun _ hk _=>by have h:=HO.out;rw[hk]at h;cases h),(fun _ hk _ _ _=>by have h:=HO.out;rw[hk]at h;cases h)⟩
  |some F=>
   have hF:=al8 HO.out;simp only[Option.map_some,Option.getD_some,Option.isSome_some,dZ];have vH:=ah (dO.out wq Hq1.out);have yD:=ah (nG.out wq Hq1.out);have HV2:=ah (HV.out wq Eb.out);clear HV;go_wp2_with (first|((with_reducible refine au aT (.tmp 25) ?_ ?_ ?_ (w.heap.size+1) 3 ?_ q.it ?_ ?_);rfl;rfl;rfl;rfl;exact yD.out))
   refine HV2.out.mono ?_;rintro e w1 ⟨b,rfl,hb,hx1⟩;have Hb:=ah hb;have HX1:=ah (Eb.out.trans hx1);have UO:=ah (Hq1.out.trans hx1);have hl1:w.heap.size+2<w1.heap.size:=bQ hlq hx1.size;clear hb hx1 vH yD HV2;have YZ:=ah (dO.out w1 UO.out);have amd:=ah ((UO.out.block (ay jI.out)).trans jI.out);obtain⟨c3,c4,c5⟩:=C8.out w1 UO.out;cases b with
   |false=>
    have oJ:=amd.out;have oK:=HX1.out;go_wp2_with (first|((with_reducible refine au aj (.tmp 2) ?_ ?_ ?_ w.heap.size 0 ?_ r ?_ ?_);rfl;rfl;rfl;rfl;exact YZ.out)|((refine aD aj (.tmp 4) (.tmp 30) ?_ ?_ w (w.heap.size+2) ?_ r ?_ _ _ oJ ?_ oK (by omega) ?_);rfl;rfl;rfl;rfl;rfl;intro wG dL fF dM lZ jS))
    refine bodyPost_ret (dA rfl _ _ (w.heap.size+2) r rfl dM) rfl ?_;exact⟨u,r,_,rfl,dL,Reads.cin (aZ.light fF jS) _ _ (jN.out _ HX1.out (by omega)),HI.out.mono (by omega),(fun hv _ _=>by have:=Hb.out hv;cases this),(fun hv _ _ _ _=>by have:=Hb.out hv;cases this)⟩
   |true=>
    have Hf1:=ah (Hfa.out w1 HX1.out);clear Hfa Hb;go_wp2_with (first|((with_reducible refine au aj (.tmp 2) ?_ ?_ ?_ w.heap.size 0 ?_ r ?_ ?_);rfl;rfl;rfl;rfl;exact YZ.out))
    refine Hf1.out.mono ?_;rintro e w2 ⟨id,E,rfl,hE0,hE1,hx2⟩;have Ap:=ah hE0;have IB:=ah hE1;have eD:=ah hx2;have hl2:w.heap.size+2<w2.heap.size:=bQ hl1 hx2.size;clear hE0 hE1 hx2 Hf1 YZ c3 c4 c5;go_upto_region 5 with(first|(refine aL aM rfl rfl fun wE jT o9 jO=> ?_)|((with_reducible refine aD aM (.tmp 8) (.tmp 37) ?_ ?_ w2 w2.heap.size ?_ id ?_ _ _ jO ?_ jT (aI _) ?_);rfl;rfl;rfl;rfl;rfl;intro wF iZ wX zM pq Am;skip))
    have eU:=ah (eD.out.trans iZ);have iR:=ah (HX1.out.trans eU.out);have Hq3:=ah (UO.out.trans eU.out);have Ol:=ah (fun W (he:Ext wF W)=>pq.ext he (ay zM));have hl3:w.heap.size+2<wF.heap.size:=bQ hl2 iZ.size;have uO:=ah ((Hq3.out.block (ay jI.out)).trans jI.out);have mK:=ah (dO.out wF Hq3.out);have aho:=ah (Ol.out wF (Ext.refl _));clear jT o9 jO iZ wX zM pq Am amd;by_cases hE:E=0
    ·obtain⟨y0,hy0,hyi⟩:=Ap.out hE
     have d0:(E !=0)=false:=by simp[hE]
     have Hy0:=ah hy0;have Hyi:=ah hyi
     have hsome:∃x,findF id u=some x/\x.id=id:=by
      have hmem:y0∈bO u:=qE.out y0 (by rw[hy0];exact List.mem_cons_self ..);have hne:=tF id u ⟨y0,hmem,hyi⟩;obtain⟨x,hx⟩:=acj hne;exact⟨x,hx,(rC id u _ hx).1⟩
     obtain⟨x,Qg,hxi⟩:=hsome;have Hxf:=ah Qg;have WO:=ah hxi;have l8:=ah (by have h:=E9.out id wF iR.out;rw[Qg]at h;exact h);clear hE hy0 hyi Qg hxi Ap IB;go_wp2_with (first|((with_reducible refine au aj (.tmp 2) ?_ ?_ ?_ w.heap.size 0 ?_ r ?_ ?_);rfl;rfl;rfl;rfl;exact mK.out)|((with_reducible refine au aM (.tmp 8) ?_ ?_ ?_ w2.heap.size 0 ?_ id ?_ ?_);rfl;rfl;rfl;rfl;exact aho.out))
     refine l8.out.mono ?_;rintro e w4 ⟨hx4,xr,rfl,hrx⟩;have S9:=ah hrx;have mM:=ah hx4;clear hx4 hrx l8 mK aho;go_upto_region 8 with(first|(refine aL aj rfl rfl fun wG dL fF dM=> ?_)|((with_reducible refine aD aj (.tmp 10) (.tmp 47) ?_ ?_ w4 w4.heap.size ?_ xr ?_ _ _ dM ?_ dL (aI _) ?_);rfl;rfl;rfl;rfl;rfl;intro wH mO yj om su Cm;skip))
     have mG:=ah (mM.out.trans mO);have mg:=ah (iR.out.trans mG.out);have JQ:=ah (Hq3.out.trans mG.out);have qV:=ah (fun W (he:Ext wH W)=>su.ext he (ay om));have hl5:w.heap.size+2<wH.heap.size:=bQ hl3 mG.out.size
     have asA:=ah (show Reads (mask (oL d (w.heap.size+2)) wH) x xr from Reads.cin (aZ.qM mO (fun k hk hp=>by
      cases hd:oL d (w.heap.size+2) k with
      |false=>rfl
      |true=>
       simp[fresh]at hp;rcases EZ hd with h1|h1
       ·have h2:=HD.out.lt k h1
        have h3:=iR.out.size;omega
       ·omega)) _ _ S9.out)
     have um:=ah (dO.out wH JQ.out);have zx:=ah (iT.out wH JQ.out);have Ni:=ah (Ol.out wH mG.out);have Y0:=ah (qV.out wH (Ext.refl _));have Y1:=ah (mo.out wH JQ.out);have Ct:=ah ((JQ.out.block (ay jI.out)).trans jI.out);obtain⟨c3,c4,c5⟩:=C8.out wH JQ.out;clear dL fF dM mO yj om su Cm uO Ol qV;have aeW:=ah (show xr.id=id by rw[S9.out.j5.1];exact WO.out);by_cases hR:id=r.id/\¬q.it.kind=0
     ·have hneq:∀W,(binOp .neq 26 (.agg (aM.E id).toArray) (.agg (aM.E r.id).toArray)).run prog W=.ok (.bool false) W:=fun W=>by rw[aci,bJ hR.1];rfl
      have hkz:(q.it.kind==0)=false:=by simp[hR.2]
      have hno:∀x1,iO u dd.it.x.at_=[x1]->x1.id≠u.id->False:=fun x1 h1 h2=>by
       rw[Hy0.out]at h1;simp only[List.cons.injEq,and_true]at h1;subst h1;exact h2 (by rw[Hyi.out,hR.1];exact amc.out)
      have Hno:=ah hno;have yK:=ah (show dd.it.x.kind≠0 by rw[<-DF.out];exact hR.2);clear hR hno;by_cases h6:q.it.kind=6
      ·have d6:(q.it.kind==6)=true:=by simp[h6]
       have Hf3:=ah (Hfb.out wH mg.out);clear h6;go_wp2_with (first|((with_reducible refine au aM (.tmp 8) ?_ ?_ ?_ w2.heap.size 0 ?_ id ?_ ?_);rfl;rfl;rfl;rfl;exact Ni.out)|((with_reducible refine au aM (.tmp 50) ?_ ?_ ?_ w.heap.size 0 ?_ r.id ?_ ?_);rfl;rfl;rfl;rfl;exact zx.out)|((with_reducible refine au aj (.tmp 2) ?_ ?_ ?_ w.heap.size 0 ?_ r ?_ ?_);rfl;rfl;rfl;rfl;exact um.out))
       refine Hf3.out.mono ?_;rintro e w6 ⟨id2,E2,rfl,-,-,hx6⟩;have DU:=ah hx6;clear hx6 Hf3 um zx Ni Y0 Y1 c3 c4 c5;go_upto_region 12 with(first|(refine aL aM rfl rfl fun wE jT o9 jO=> ?_)|((with_reducible refine aD aM (.tmp 12) (.tmp 76) ?_ ?_ w6 w6.heap.size ?_ id2 ?_ _ _ jO ?_ jT (aI _) ?_);rfl;rfl;rfl;rfl;rfl;intro wF iZ wX zM pq Am;skip))
       have Ah:=ah (mg.out.trans (DU.out.trans iZ));have Hq7:=ah (JQ.out.trans (DU.out.trans iZ));have hl7:w.heap.size+2<wF.heap.size:=bQ hl5 (DU.out.trans iZ).size;have oJ:=(Hq7.out.block (ay jI.out)).trans jI.out;have oK:=Ah.out;have M9:=ah (dO.out wF Hq7.out);clear jT o9 jO iZ wX zM pq Am Ct;by_cases h2:E2=0
       ·have d2:(E2 !=0)=false:=by simp[h2]
        go_wp2_with (first|((with_reducible refine au aj (.tmp 2) ?_ ?_ ?_ w.heap.size 0 ?_ r ?_ ?_);rfl;rfl;rfl;rfl;exact M9.out)|((refine aD aj (.tmp 4) (.tmp 82) ?_ ?_ w (w.heap.size+2) ?_ r ?_ _ _ oJ ?_ oK (by omega) ?_);rfl;rfl;rfl;rfl;rfl;intro wG dL fF dM lZ jS))
        refine bodyPost_ret (dA rfl _ _ (w.heap.size+2) r rfl dM) rfl ?_;exact⟨u,r,_,rfl,dL,Reads.cin (aZ.light fF jS) _ _ (jN.out _ Ah.out (by omega)),HI.out.mono (by omega),(fun _ hk _=>absurd hk yK.out),(fun _ _ x1 h1 h2=>(Hno.out x1 h1 h2).elim)⟩
       ·have d2:(E2 !=0)=true:=by simp[h2]
        go_wp2_with (first|((with_reducible refine au aj (.tmp 2) ?_ ?_ ?_ w.heap.size 0 ?_ r ?_ ?_);rfl;rfl;rfl;rfl;exact M9.out)|((refine aD aj (.tmp 4) (.tmp 80) ?_ ?_ w (w.heap.size+2) ?_ r ?_ _ _ oJ ?_ oK (by omega) ?_);rfl;rfl;rfl;rfl;rfl;intro wG dL fF dM lZ jS))
        refine bodyPost_ret (dA rfl _ _ (w.heap.size+2) r rfl dM) rfl ?_;exact⟨u,r,_,rfl,dL,Reads.cin (aZ.light fF jS) _ _ (jN.out _ Ah.out (by omega)),HI.out.mono (by omega),(fun _ hk _=>absurd hk yK.out),(fun _ _ x1 h1 h2=>(Hno.out x1 h1 h2).elim)⟩
      ·have d6:(q.it.kind==6)=false:=by simp[h6]
       have oJ:=Ct.out;have oK:=mg.out;go_wp2_with (first|((with_reducible refine au aM (.tmp 8) ?_ ?_ ?_ w2.heap.size 0 ?_ id ?_ ?_);rfl;rfl;rfl;rfl;exact Ni.out)|((with_reducible refine au aM (.tmp 50) ?_ ?_ ?_ w.heap.size 0 ?_ r.id ?_ ?_);rfl;rfl;rfl;rfl;exact zx.out)|((with_reducible refine au aj (.tmp 2) ?_ ?_ ?_ w.heap.size 0 ?_ r ?_ ?_);rfl;rfl;rfl;rfl;exact um.out)|((refine aD aj (.tmp 4) (.tmp 82) ?_ ?_ w (w.heap.size+2) ?_ r ?_ _ _ oJ ?_ oK (by omega) ?_);rfl;rfl;rfl;rfl;rfl;intro wG dL fF dM lZ jS))
       refine bodyPost_ret (dA rfl _ _ (w.heap.size+2) r rfl dM) rfl ?_;exact⟨u,r,_,rfl,dL,Reads.cin (aZ.light fF jS) _ _ (jN.out _ mg.out (by omega)),HI.out.mono (by omega),(fun _ hk _=>absurd hk yK.out),(fun _ _ x1 h1 h2=>(Hno.out x1 h1 h2).elim)⟩
     ·have hne:dd.it.x.kind=0∨xr.id≠u.id:=by
       by_cases h0:q.it.kind=0
       ·exact .inl (by rw[<-DF.out];exact h0)
       ·refine .inr (fun h=>hR ⟨?_,h0⟩)
        rw[<-aeW.out,h,amc.out]
      have JF:=ah (aeN (oL d (w.heap.size+2)) ds n F u x y0 r xr dd q wH ((HD.out.ext mg.out).add (b:=w.heap.size+2) (r:=dU) Ct.out) (jN.out wH mg.out (by omega)) HI.out Hn.out FU.out (Hq.out wH mg.out) Hi.out (HT.out.ext mg.out) HO.out asA.out (by rw[aeW.out];exact Hxf.out) Hy0.out (by rw[Hyi.out,aeW.out]) hne);clear hne;obtain⟨bq,hbq⟩:=aH (decide (id=r.id));have hneq:∀W,(binOp .neq 26 (.agg (aM.E id).toArray) (.agg (aM.E r.id).toArray)).run prog W=.ok (.bool (!bq)) W:=fun W=>by rw[aci,hbq]
      have hor:bq=true->(q.it.kind==0)=true:=fun h=>by
       have:=of_decide_eq_true (hbq.trans h);simp only[beq_iff_eq];exact Classical.byContradiction fun hh=>hR ⟨this,hh⟩
      have Hor:=ah hor;clear hbq hor hR;cases bq with
      |false=>
       simp only[Bool.not_false]at hneq;go_wp2_with (first|((with_reducible refine au aM (.tmp 8) ?_ ?_ ?_ w2.heap.size 0 ?_ id ?_ ?_);rfl;rfl;rfl;rfl;exact Ni.out)|((with_reducible refine au aM (.tmp 50) ?_ ?_ ?_ w.heap.size 0 ?_ r.id ?_ ?_);rfl;rfl;rfl;rfl;exact zx.out)|((with_reducible refine au aj (.tmp 2) ?_ ?_ ?_ w.heap.size 0 ?_ r ?_ ?_);rfl;rfl;rfl;rfl;exact um.out)|((with_reducible refine au aj (.tmp 10) ?_ ?_ ?_ w4.heap.size 0 ?_ xr ?_ ?_);rfl;rfl;rfl;rfl;exact Y0.out)|((with_reducible refine au bF (.tmp 3) ?_ ?_ ?_ (w.heap.size+1) 0 ?_ q ?_ ?_);rfl;rfl;rfl;rfl;exact Y1.out))
       refine JF.out.mono ?_;rintro e w6 ⟨u',r',E',rfl,hx6,sV,hP⟩;have Jy:=ah sV;have HP:=ah hP;have oJ:=(hx6.block (ay Ct.out)).trans Ct.out;have oK:=mg.out.trans hx6;have hl6:w.heap.size+2<w6.heap.size:=bQ hl5 hx6.size;clear sV hP JF;go_wp2_with (first|((refine aD aj (.tmp 4) (.tmp 64) ?_ ?_ w (w.heap.size+2) ?_ r' ?_ _ _ oJ ?_ oK (by omega) ?_);rfl;rfl;rfl;rfl;rfl;intro wG dL fF dM lZ jS))
       refine bodyPost_ret (dA rfl _ _ (w.heap.size+2) r' rfl dM) rfl ?_;refine⟨u',r',E',rfl,dL,Reads.cin (aZ.light fF jS) _ _ Jy.out,HP.out.book,(fun _ hk hX=>HP.out.ins hk ⟨hX.one,hX.wh,ou.ext hX.tabs HT.out mg.out,hX.kind,hX.kids,hX.sec,hX.bare,hX.id⟩),(fun _ hk x1 h1 h2=>HP.out.rep hk x1 h1 h2)⟩
      |true=>
       have hk0:=Hor.out rfl;simp only[Bool.not_true]at hneq;go_wp2_with (first|((with_reducible refine au aM (.tmp 8) ?_ ?_ ?_ w2.heap.size 0 ?_ id ?_ ?_);rfl;rfl;rfl;rfl;exact Ni.out)|((with_reducible refine au aM (.tmp 50) ?_ ?_ ?_ w.heap.size 0 ?_ r.id ?_ ?_);rfl;rfl;rfl;rfl;exact zx.out)|((with_reducible refine au aj (.tmp 2) ?_ ?_ ?_ w.heap.size 0 ?_ r ?_ ?_);rfl;rfl;rfl;rfl;exact um.out)|((with_reducible refine au aj (.tmp 10) ?_ ?_ ?_ w4.heap.size 0 ?_ xr ?_ ?_);rfl;rfl;rfl;rfl;exact Y0.out)|((with_reducible refine au bF (.tmp 3) ?_ ?_ ?_ (w.heap.size+1) 0 ?_ q ?_ ?_);rfl;rfl;rfl;rfl;exact Y1.out))
       refine JF.out.mono ?_;rintro e w6 ⟨u',r',E',rfl,hx6,sV,hP⟩;have Jy:=ah sV;have HP:=ah hP;have oJ:=(hx6.block (ay Ct.out)).trans Ct.out;have oK:=mg.out.trans hx6;have hl6:w.heap.size+2<w6.heap.size:=bQ hl5 hx6.size;clear sV hP JF;go_wp2_with (first|((refine aD aj (.tmp 4) (.tmp 64) ?_ ?_ w (w.heap.size+2) ?_ r' ?_ _ _ oJ ?_ oK (by omega) ?_);rfl;rfl;rfl;rfl;rfl;intro wG dL fF dM lZ jS))
       refine bodyPost_ret (dA rfl _ _ (w.heap.size+2) r' rfl dM) rfl ?_;refine⟨u',r',E',rfl,dL,Reads.cin (aZ.light fF jS) _ _ Jy.out,HP.out.book,(fun _ hk hX=>HP.out.ins hk ⟨hX.one,hX.wh,ou.ext hX.tabs HT.out mg.out,hX.kind,hX.kids,hX.sec,hX.bare,hX.id⟩),(fun _ hk x1 h1 h2=>HP.out.rep hk x1 h1 h2)⟩
    ·have d0:(E !=0)=true:=by simp[hE]
     have oJ:=uO.out;have oK:=iR.out;go_wp2_with (first|((with_reducible refine au aj (.tmp 2) ?_ ?_ ?_ w.heap.size 0 ?_ r ?_ ?_);rfl;rfl;rfl;rfl;exact mK.out)|((refine aD aj (.tmp 4) (.tmp 41) ?_ ?_ w (w.heap.size+2) ?_ r ?_ _ _ oJ ?_ oK (by omega) ?_);rfl;rfl;rfl;rfl;rfl;intro wG dL fF dM lZ jS))
     refine bodyPost_ret (dA rfl _ _ (w.heap.size+2) r rfl dM) rfl ?_;exact⟨u,r,_,rfl,dL,Reads.cin (aZ.light fF jS) _ _ (jN.out _ iR.out (by omega)),HI.out.mono (by omega),(fun _ _ hX=>absurd (IB.out _ hX.one).1 hE),(fun _ _ x1 h1 _=>absurd (IB.out _ h1).1 hE)⟩
def fO:Nat->bE->bE
 |0,q=>{nP with wh:=q.wh,u:=q.u}
 |1,_=>nP
 |2,q=>{nP with oA:=q.oA,oN:=q.oN,oC:=q.oC,nA:=q.nA,nN:=q.nN,nC:=q.nC,nth:=q.nth}
 |3,q=>{nP with oA:=q.oA,oN:=q.oN,oC:=q.oC,nA:=q.nA,nN:=q.nN,nC:=q.nC,nth:=q.nth}
 |4,q=>{nP with nA:=q.nA,nN:=q.nN,nC:=q.nC}
 |5,q=>{nP with label:=q.label}
 |6,q=>{nP with bA:=q.bA,bN:=q.bN,bC:=q.bC,wh:=q.wh}
 |_,q=>q
theorem nH{W:World}{b:Nat}{q:bE}(h:At W b 0 (aT.E q)):At W b 5 (aj.E q.u):=fun j y hy=>by
 have hk:j<8:=(List.getElem?_eq_some_iff.1 hy).1
 have h2:=h (5+j) y (by
  match j,hk with
  |0,_=>exact hy
  |1,_=>exact hy
  |2,_=>exact hy
  |3,_=>exact hy
  |4,_=>exact hy
  |5,_=>exact hy
  |6,_=>exact hy
  |7,_=>exact hy)
 rwa[bV]at h2
def xq(q:bE)(w:World)(e:Ending)(w':World):Prop:=e=.returned (.agg q.cells.toArray)/\Ext w w'
theorem acp(q:bE)(w:World):(Instr.build 42 #[(3,.int .i64 q.wh),(5,.agg q.u.cells.toArray)]).run prog w=.ok (.agg (fO 0 q).cells.toArray) w:=by
 have u:=underlying42;simp only[fO,nP,bE.cells,aB.cells,show ByteArray.empty=(⟨#[]⟩:ByteArray)from rfl]
 go_simp
theorem acr(q:bE)(w:World):Calls prog 115 #[.agg q.cells.toArray] w (xq (fO 0 q) w):=by
 go_enter func115,ntmps115
 go_upto_region 1 with(first|(refine aG aT (.tmp 0) rfl rfl q rfl fun wA aR bG bB aO=> ?_)|(refine aL aT rfl rfl fun wC dD jK fE=> ?_))
 have hat:=aO.ext dD (ay bB);have c2:=hat.one 2 (u:=.slice q.bA q.bN q.bC) rfl;have c1:=hat.one 1 (u:=.slice q.aA q.aN q.aC) rfl;have c3:=hat.one 3 (u:=.int .i64 q.wh) rfl;have c4:=hat.one 4 (u:=.int .i64 q.nth) rfl;have c13:=hat.one 13 (u:=.slice q.oA q.oN q.oC) rfl;have c14:=hat.one 14 (u:=.slice q.nA q.nN q.nC) rfl;have c15:=hat.one 15 (u:=.string q.label) rfl;have dO:=ah (show At wC w.heap.size 5 (aj.E q.u)from nH hat);have oJ:wC.heap[w.heap.size+1]? =some (.cells aT.z.cells aT.e (0,0)):=by rw[<-bG];exact fE
 have oK:=aR.trans dD;simp only[bV]at c1 c2 c3 c4 c13 c14 c15;rw[bG];clear aR bG bB aO dD jK fE hat;go_wp2_with (first|((with_reducible refine au aj (.tmp 5) ?_ ?_ ?_ w.heap.size 5 ?_ q.u ?_ ?_);rfl;rfl;rfl;rfl;exact dO.out)|(refine wpList_build 42 [(3,.tmp 4),(5,.tmp 6)] rfl rfl [(3,.int .i64 q.wh),(5,.agg q.u.cells.toArray)] ⟨⟨rfl,rfl⟩,⟨rfl,rfl⟩,trivial⟩ (.agg (fO 0 q).cells.toArray) (acp q _) ?_)|((refine aD aT (.tmp 2) (.tmp 7) ?_ ?_ w (w.heap.size+1) ?_ (fO 0 q) ?_ _ _ oJ ?_ oK (Nat.le_succ _) ?_);rfl;rfl;rfl;rfl;rfl;intro wG dL fF dM lZ jS))
 refine bodyPost_ret (kK rfl isAgg42 (fO 0 q).cells sizeOf42 _ _ (w.heap.size+1) rfl dM) rfl ?_;exact⟨rfl,dL⟩
theorem acs(q:bE)(w:World):(Instr.build 42 #[]).run prog w=.ok (.agg (fO 1 q).cells.toArray) w:=by
 have u:=underlying42;simp only[fO,nP,bE.cells,aB.cells,show ByteArray.empty=(⟨#[]⟩:ByteArray)from rfl]
 go_simp
theorem acu(q:bE)(w:World):Calls prog 119 #[.agg q.cells.toArray] w (xq (fO 1 q) w):=by
 go_enter func119,ntmps119
 go_upto_region 1 with(first|(refine aG aT (.tmp 0) rfl rfl q rfl fun wA aR bG bB aO=> ?_)|(refine aL aT rfl rfl fun wC dD jK fE=> ?_))
 have hat:=aO.ext dD (ay bB);have c2:=hat.one 2 (u:=.slice q.bA q.bN q.bC) rfl;have c1:=hat.one 1 (u:=.slice q.aA q.aN q.aC) rfl;have c3:=hat.one 3 (u:=.int .i64 q.wh) rfl;have c4:=hat.one 4 (u:=.int .i64 q.nth) rfl;have c13:=hat.one 13 (u:=.slice q.oA q.oN q.oC) rfl;have c14:=hat.one 14 (u:=.slice q.nA q.nN q.nC) rfl;have c15:=hat.one 15 (u:=.string q.label) rfl;have dO:=ah (show At wC w.heap.size 5 (aj.E q.u)from nH hat);have oJ:wC.heap[w.heap.size+1]? =some (.cells aT.z.cells aT.e (0,0)):=by rw[<-bG];exact fE
 have oK:=aR.trans dD;simp only[bV]at c1 c2 c3 c4 c13 c14 c15;rw[bG];clear aR bG bB aO dD jK fE hat;go_wp2_with (first|(refine wpList_build 42 [] rfl rfl [] trivial (.agg (fO 1 q).cells.toArray) (acs q _) ?_)|((refine aD aT (.tmp 2) (.tmp 3) ?_ ?_ w (w.heap.size+1) ?_ (fO 1 q) ?_ _ _ oJ ?_ oK (Nat.le_succ _) ?_);rfl;rfl;rfl;rfl;rfl;intro wG dL fF dM lZ jS))
 refine bodyPost_ret (kK rfl isAgg42 (fO 1 q).cells sizeOf42 _ _ (w.heap.size+1) rfl dM) rfl ?_;exact⟨rfl,dL⟩
theorem acv(q:bE)(w:World):(Instr.build 42 #[(6,.slice q.oA q.oN q.oC),(7,.slice q.nA q.nN q.nC),(4,.int .i64 q.nth)]).run prog w=.ok (.agg (fO 2 q).cells.toArray) w:=by
 have u:=underlying42;simp only[fO,nP,bE.cells,aB.cells,show ByteArray.empty=(⟨#[]⟩:ByteArray)from rfl]
 go_simp
theorem acw(q:bE)(w:World):Calls prog 121 #[.agg q.cells.toArray] w (xq (fO 2 q) w):=by
 go_enter func121,ntmps121
 go_upto_region 1 with(first|(refine aG aT (.tmp 0) rfl rfl q rfl fun wA aR bG bB aO=> ?_)|(refine aL aT rfl rfl fun wC dD jK fE=> ?_))
 have hat:=aO.ext dD (ay bB);have c2:=hat.one 2 (u:=.slice q.bA q.bN q.bC) rfl;have c1:=hat.one 1 (u:=.slice q.aA q.aN q.aC) rfl;have c3:=hat.one 3 (u:=.int .i64 q.wh) rfl;have c4:=hat.one 4 (u:=.int .i64 q.nth) rfl;have c13:=hat.one 13 (u:=.slice q.oA q.oN q.oC) rfl;have c14:=hat.one 14 (u:=.slice q.nA q.nN q.nC) rfl;have c15:=hat.one 15 (u:=.string q.label) rfl;have dO:=ah (show At wC w.heap.size 5 (aj.E q.u)from nH hat);have oJ:wC.heap[w.heap.size+1]? =some (.cells aT.z.cells aT.e (0,0)):=by rw[<-bG];exact fE
 have oK:=aR.trans dD;simp only[bV]at c1 c2 c3 c4 c13 c14 c15;rw[bG];clear aR bG bB aO dD jK fE hat;go_wp2_with (first|(refine wpList_build 42 [(6,.tmp 4),(7,.tmp 6),(4,.tmp 8)] rfl rfl [(6,.slice q.oA q.oN q.oC),(7,.slice q.nA q.nN q.nC),(4,.int .i64 q.nth)] ⟨⟨rfl,rfl⟩,⟨rfl,rfl⟩,⟨rfl,rfl⟩,trivial⟩ (.agg (fO 2 q).cells.toArray) (acv q _) ?_)|((refine aD aT (.tmp 2) (.tmp 9) ?_ ?_ w (w.heap.size+1) ?_ (fO 2 q) ?_ _ _ oJ ?_ oK (Nat.le_succ _) ?_);rfl;rfl;rfl;rfl;rfl;intro wG dL fF dM lZ jS))
 refine bodyPost_ret (kK rfl isAgg42 (fO 2 q).cells sizeOf42 _ _ (w.heap.size+1) rfl dM) rfl ?_;exact⟨rfl,dL⟩
theorem acy(q:bE)(w:World):(Instr.build 42 #[(6,.slice q.oA q.oN q.oC),(7,.slice q.nA q.nN q.nC),(4,.int .i64 q.nth)]).run prog w=.ok (.agg (fO 3 q).cells.toArray) w:=by
 have u:=underlying42;simp only[fO,nP,bE.cells,aB.cells,show ByteArray.empty=(⟨#[]⟩:ByteArray)from rfl]
 go_simp
theorem acz(q:bE)(w:World):Calls prog 125 #[.agg q.cells.toArray] w (xq (fO 3 q) w):=by
 go_enter func125,ntmps125
 go_upto_region 1 with(first|(refine aG aT (.tmp 0) rfl rfl q rfl fun wA aR bG bB aO=> ?_)|(refine aL aT rfl rfl fun wC dD jK fE=> ?_))
 have hat:=aO.ext dD (ay bB);have c2:=hat.one 2 (u:=.slice q.bA q.bN q.bC) rfl;have c1:=hat.one 1 (u:=.slice q.aA q.aN q.aC) rfl;have c3:=hat.one 3 (u:=.int .i64 q.wh) rfl;have c4:=hat.one 4 (u:=.int .i64 q.nth) rfl;have c13:=hat.one 13 (u:=.slice q.oA q.oN q.oC) rfl;have c14:=hat.one 14 (u:=.slice q.nA q.nN q.nC) rfl;have c15:=hat.one 15 (u:=.string q.label) rfl;have dO:=ah (show At wC w.heap.size 5 (aj.E q.u)from nH hat);have oJ:wC.heap[w.heap.size+1]? =some (.cells aT.z.cells aT.e (0,0)):=by rw[<-bG];exact fE
 have oK:=aR.trans dD;simp only[bV]at c1 c2 c3 c4 c13 c14 c15;rw[bG];clear aR bG bB aO dD jK fE hat;go_wp2_with (first|(refine wpList_build 42 [(6,.tmp 4),(7,.tmp 6),(4,.tmp 8)] rfl rfl [(6,.slice q.oA q.oN q.oC),(7,.slice q.nA q.nN q.nC),(4,.int .i64 q.nth)] ⟨⟨rfl,rfl⟩,⟨rfl,rfl⟩,⟨rfl,rfl⟩,trivial⟩ (.agg (fO 3 q).cells.toArray) (acy q _) ?_)|((refine aD aT (.tmp 2) (.tmp 9) ?_ ?_ w (w.heap.size+1) ?_ (fO 3 q) ?_ _ _ oJ ?_ oK (Nat.le_succ _) ?_);rfl;rfl;rfl;rfl;rfl;intro wG dL fF dM lZ jS))
 refine bodyPost_ret (kK rfl isAgg42 (fO 3 q).cells sizeOf42 _ _ (w.heap.size+1) rfl dM) rfl ?_;exact⟨rfl,dL⟩
theorem acA(q:bE)(w:World):(Instr.build 42 #[(7,.slice q.nA q.nN q.nC)]).run prog w=.ok (.agg (fO 4 q).cells.toArray) w:=by
 have u:=underlying42;simp only[fO,nP,bE.cells,aB.cells,show ByteArray.empty=(⟨#[]⟩:ByteArray)from rfl]
 go_simp
theorem acB(q:bE)(w:World):Calls prog 127 #[.agg q.cells.toArray] w (xq (fO 4 q) w):=by
 go_enter func127,ntmps127
 go_upto_region 1 with(first|(refine aG aT (.tmp 0) rfl rfl q rfl fun wA aR bG bB aO=> ?_)|(refine aL aT rfl rfl fun wC dD jK fE=> ?_))
 have hat:=aO.ext dD (ay bB);have c2:=hat.one 2 (u:=.slice q.bA q.bN q.bC) rfl;have c1:=hat.one 1 (u:=.slice q.aA q.aN q.aC) rfl;have c3:=hat.one 3 (u:=.int .i64 q.wh) rfl;have c4:=hat.one 4 (u:=.int .i64 q.nth) rfl;have c13:=hat.one 13 (u:=.slice q.oA q.oN q.oC) rfl;have c14:=hat.one 14 (u:=.slice q.nA q.nN q.nC) rfl;have c15:=hat.one 15 (u:=.string q.label) rfl;have dO:=ah (show At wC w.heap.size 5 (aj.E q.u)from nH hat);have oJ:wC.heap[w.heap.size+1]? =some (.cells aT.z.cells aT.e (0,0)):=by rw[<-bG];exact fE
 have oK:=aR.trans dD;simp only[bV]at c1 c2 c3 c4 c13 c14 c15;rw[bG];clear aR bG bB aO dD jK fE hat;go_wp2_with (first|(refine wpList_build 42 [(7,.tmp 4)] rfl rfl [(7,.slice q.nA q.nN q.nC)] ⟨⟨rfl,rfl⟩,trivial⟩ (.agg (fO 4 q).cells.toArray) (acA q _) ?_)|((refine aD aT (.tmp 2) (.tmp 5) ?_ ?_ w (w.heap.size+1) ?_ (fO 4 q) ?_ _ _ oJ ?_ oK (Nat.le_succ _) ?_);rfl;rfl;rfl;rfl;rfl;intro wG dL fF dM lZ jS))
 refine bodyPost_ret (kK rfl isAgg42 (fO 4 q).cells sizeOf42 _ _ (w.heap.size+1) rfl dM) rfl ?_;exact⟨rfl,dL⟩
theorem acC(q:bE)(w:World):(Instr.build 42 #[(8,.string q.label)]).run prog w=.ok (.agg (fO 5 q).cells.toArray) w:=by
 have u:=underlying42;simp only[fO,nP,bE.cells,aB.cells,show ByteArray.empty=(⟨#[]⟩:ByteArray)from rfl]
 go_simp
theorem acD(q:bE)(w:World):Calls prog 129 #[.agg q.cells.toArray] w (xq (fO 5 q) w):=by
 go_enter func129,ntmps129
 go_upto_region 1 with(first|(refine aG aT (.tmp 0) rfl rfl q rfl fun wA aR bG bB aO=> ?_)|(refine aL aT rfl rfl fun wC dD jK fE=> ?_))
 have hat:=aO.ext dD (ay bB);have c2:=hat.one 2 (u:=.slice q.bA q.bN q.bC) rfl;have c1:=hat.one 1 (u:=.slice q.aA q.aN q.aC) rfl;have c3:=hat.one 3 (u:=.int .i64 q.wh) rfl;have c4:=hat.one 4 (u:=.int .i64 q.nth) rfl;have c13:=hat.one 13 (u:=.slice q.oA q.oN q.oC) rfl;have c14:=hat.one 14 (u:=.slice q.nA q.nN q.nC) rfl;have c15:=hat.one 15 (u:=.string q.label) rfl;have dO:=ah (show At wC w.heap.size 5 (aj.E q.u)from nH hat);have oJ:wC.heap[w.heap.size+1]? =some (.cells aT.z.cells aT.e (0,0)):=by rw[<-bG];exact fE
 have oK:=aR.trans dD;simp only[bV]at c1 c2 c3 c4 c13 c14 c15;rw[bG];clear aR bG bB aO dD jK fE hat;go_wp2_with (first|(refine wpList_build 42 [(8,.tmp 4)] rfl rfl [(8,.string q.label)] ⟨⟨rfl,rfl⟩,trivial⟩ (.agg (fO 5 q).cells.toArray) (acC q _) ?_)|((refine aD aT (.tmp 2) (.tmp 5) ?_ ?_ w (w.heap.size+1) ?_ (fO 5 q) ?_ _ _ oJ ?_ oK (Nat.le_succ _) ?_);rfl;rfl;rfl;rfl;rfl;intro wG dL fF dM lZ jS))
 refine bodyPost_ret (kK rfl isAgg42 (fO 5 q).cells sizeOf42 _ _ (w.heap.size+1) rfl dM) rfl ?_;exact⟨rfl,dL⟩
theorem acE(q:bE)(w:World):(Instr.build 42 #[(2,.slice q.bA q.bN q.bC),(3,.int .i64 q.wh)]).run prog w=.ok (.agg (fO 6 q).cells.toArray) w:=by
 have u:=underlying42;simp only[fO,nP,bE.cells,aB.cells,show ByteArray.empty=(⟨#[]⟩:ByteArray)from rfl]
 go_simp
theorem acF(q:bE)(w:World):Calls prog 132 #[.agg q.cells.toArray] w (xq (fO 6 q) w):=by
 go_enter func132,ntmps132
 go_upto_region 1 with(first|(refine aG aT (.tmp 0) rfl rfl q rfl fun wA aR bG bB aO=> ?_)|(refine aL aT rfl rfl fun wC dD jK fE=> ?_))
 have hat:=aO.ext dD (ay bB);have c2:=hat.one 2 (u:=.slice q.bA q.bN q.bC) rfl;have c1:=hat.one 1 (u:=.slice q.aA q.aN q.aC) rfl;have c3:=hat.one 3 (u:=.int .i64 q.wh) rfl;have c4:=hat.one 4 (u:=.int .i64 q.nth) rfl;have c13:=hat.one 13 (u:=.slice q.oA q.oN q.oC) rfl;have c14:=hat.one 14 (u:=.slice q.nA q.nN q.nC) rfl;have c15:=hat.one 15 (u:=.string q.label) rfl;have dO:=ah (show At wC w.heap.size 5 (aj.E q.u)from nH hat);have oJ:wC.heap[w.heap.size+1]? =some (.cells aT.z.cells aT.e (0,0)):=by rw[<-bG];exact fE
 have oK:=aR.trans dD;simp only[bV]at c1 c2 c3 c4 c13 c14 c15;rw[bG];clear aR bG bB aO dD jK fE hat;go_wp2_with (first|(refine wpList_build 42 [(2,.tmp 4),(3,.tmp 6)] rfl rfl [(2,.slice q.bA q.bN q.bC),(3,.int .i64 q.wh)] ⟨⟨rfl,rfl⟩,⟨rfl,rfl⟩,trivial⟩ (.agg (fO 6 q).cells.toArray) (acE q _) ?_)|((refine aD aT (.tmp 2) (.tmp 7) ?_ ?_ w (w.heap.size+1) ?_ (fO 6 q) ?_ _ _ oJ ?_ oK (Nat.le_succ _) ?_);rfl;rfl;rfl;rfl;rfl;intro wG dL fF dM lZ jS))
 refine bodyPost_ret (kK rfl isAgg42 (fO 6 q).cells sizeOf42 _ _ (w.heap.size+1) rfl dM) rfl ?_;exact⟨rfl,dL⟩
theorem Fb(a b c:Int)(w:World):Calls prog 136 #[.int .i64 a,.int .i64 b,.int .i64 c] w fun e w'=>e=.returned (.bool (decide (b<=a)&&decide (a<=c)))/\w'=w:=by
 by_cases h1:b<=a
 ·have e1:decide (b<=a)=true:=bJ h1
  have e1':decide (a≥b)=true:=bJ h1;by_cases h2:a<=c
  ·have e2:decide (a<=c)=true:=bJ h2
   rw[e1,e2];go_enter func136,ntmps136
   go_wp2;go_ret;exact⟨rfl,rfl⟩
  ·have e2:decide (a<=c)=false:=aY h2
   rw[e1,e2];go_enter func136,ntmps136
   go_wp2;go_ret;exact⟨rfl,rfl⟩
 ·have e1:decide (b<=a)=false:=aY h1
  have e1':decide (a≥b)=false:=aY h1;rw[e1];go_enter func136,ntmps136
  go_wp2;go_ret;exact⟨rfl,rfl⟩
theorem Qh(a:Int)(w:World):Calls prog 117 #[.int .i64 a] w fun e w'=>e=.returned (.bool (decide (0<=a)&&decide (a<=3)))/\w'=w:=by
 have h:=Fb a 0 3 w;obtain⟨B,hB⟩:=aH ((decide (0<=a)&&decide (a<=3)));rw[hB]at h⊢;go_enter func117,ntmps117
 go_wp2_with fail
 refine h.mono ?_;rintro e w' ⟨rfl,rfl⟩;go_wp2;go_ret;exact⟨rfl,rfl⟩
theorem aeX(s:ByteArray)(w:World)(hs:s.size<=9223372036854775807):Calls prog 141 #[.string s,.string ⟨#[97,98,99,100,101,102,103,104,105,106,107,108,109,110,111,112,113,114,115,116,117,118,119,120,121,122,48,49,50,51,52,53,54,55,56,57,45]⟩] w fun e w'=>∃t:ByteArray,e=.returned (.string t)/\Ext w w':=by
 refine(Any.strings_Trim_laid Tryz.lays160 (by kernel_rfl) s _ w hs (by decide) (ascii_of_all (by decide))).mono ?_;rintro e w' ⟨rfl,hb⟩;exact⟨_,rfl,hb.os,hb.tape,hb.output,hb.size,hb.block⟩
theorem Nj(s:ByteArray)(w:World):Calls prog 72 #[.string s] w (lN w):=by
 by_cases h1:s.size<1
 ·have e1:=eY s.size 1
  go_enter func72,ntmps72
  go_wp2;go_ret;exact⟨_,rfl,Ext.refl _⟩
 have e1:=fT s.size 1;by_cases h2:s.size>16
 ·have e2:decide ((s.size:Int)>16)=true:=bJ (by omega)
  go_enter func72,ntmps72
  go_wp2;go_ret;exact⟨_,rfl,Ext.refl _⟩
 have e2:decide ((s.size:Int)>16)=false:=aY (by omega);have h0:0<s.size:=by omega
 have anH:=ah (aeX s w (by omega));by_cases h3:(((s[0]'h0).toNat:Nat):Int)<97
 ·have e3:decide ((((s[0]'h0).toNat:Nat):Int)<97)=true:=bJ h3
  go_enter func72,ntmps72
  go_wp2;go_ret;exact⟨_,rfl,Ext.refl _⟩
 have e3:decide ((((s[0]'h0).toNat:Nat):Int)<97)=false:=aY h3;by_cases h4:(((s[0]'h0).toNat:Nat):Int)>122
 ·have e4:decide ((((s[0]'h0).toNat:Nat):Int)>122)=true:=bJ h4
  go_enter func72,ntmps72
  go_wp2;go_ret;exact⟨_,rfl,Ext.refl _⟩
 have e4:decide ((((s[0]'h0).toNat:Nat):Int)>122)=false:=aY h4;clear h1 h2;go_enter func72,ntmps72
 go_wp2_with fail
 refine anH.out.mono ?_;rintro e w' ⟨t,rfl,hx⟩;go_wp2;go_ret;exact⟨_,rfl,hx⟩
theorem Nk(k dd:Int)(s:ByteArray)(w:World):Calls prog 73 #[.agg #[.int .i64 k,.int .i64 dd,.string s]] w (mq (k=0/\dd=0/\s=⟨#[]⟩) w):=by
 have hx0:Ext w (w.alloc (.cells #[.int .i64 k,.int .i64 dd,.string s] 39)):=(Ext.refl w).alloc _;have hk0:=heap_alloc_new w (.cells #[.int .i64 k,.int .i64 dd,.string s] 39);obtain⟨wb,hwb⟩:=aH (w.alloc (.cells #[.int .i64 k,.int .i64 dd,.string s] 39));rw[hwb]at hx0 hk0;have c0:wb.cell? ⟨w.heap.size,0,none⟩=some (.int .i64 k):=by simp[World.cell?,hk0]
 have c1:wb.cell? ⟨w.heap.size,1,none⟩=some (.int .i64 dd):=by simp[World.cell?,hk0]
 have c2:wb.cell? ⟨w.heap.size,2,none⟩=some (.string s):=by simp[World.cell?,hk0]
 have lH:=ah hwb;have jv:=ah hx0;clear hwb hx0 hk0;obtain⟨z,hz⟩:=aH (decide (s=⟨#[]⟩));have Hz:=ah hz;by_cases k0:k=0
 ·have e0:(k==0)=true:=by simp[k0]
  by_cases d0:dd=0
  ·have f0:(dd==0)=true:=by simp[d0]
   clear k0 d0;go_enter func73,ntmps73
   go_wp2_with fail
   rw[lH.out];go_wp2;go_ret;exact⟨_,rfl,(fun h=>by simp[h.2.2]),jv.out⟩
  ·have f0:(dd==0)=false:=by simp[d0]
   have hno:dd≠0:=d0;clear k0 d0;go_enter func73,ntmps73
   go_wp2_with fail
   rw[lH.out];go_wp2;go_ret;exact⟨_,rfl,(fun h=>absurd h.2.1 hno),jv.out⟩
 have hno:k≠0:=k0;have e0:(k==0)=false:=by simp[k0]
 by_cases k2:k=2
 ·have e2:(k==2)=true:=by simp[k2]
  by_cases d0:dd=0
  ·have f0:(dd==0)=true:=by simp[d0]
   clear k0 d0 k2;go_enter func73,ntmps73
   go_wp2_with fail
   rw[lH.out];go_wp2;go_ret;exact⟨_,rfl,(fun h=>absurd h.1 hno),jv.out⟩
  ·have f0:(dd==0)=false:=by simp[d0]
   clear k0 d0 k2;go_enter func73,ntmps73
   go_wp2_with fail
   rw[lH.out];go_wp2;go_ret;exact⟨_,rfl,(fun h=>absurd h.1 hno),jv.out⟩
 have e2:(k==2)=false:=by simp[k2]
 by_cases k1:k=1
 ·have e1:(k==1)=true:=by simp[k1]
  have Hw:=ah (Fb dd 0 1048576 wb);obtain⟨B,hB⟩:=aH ((decide (0<=dd)&&decide (dd<=1048576)));rw[hB]at Hw;have HB:=ah hB;clear k0 k1 k2 hB;cases B with
  |true=>
   go_enter func73,ntmps73
   go_wp2_with fail
   rw[lH.out];go_wp2_with fail
   refine Hw.out.mono ?_;rintro e w2 ⟨rfl,rfl⟩;go_wp2;go_ret;exact⟨_,rfl,(fun h=>absurd h.1 hno),jv.out⟩
  |false=>
   go_enter func73,ntmps73
   go_wp2_with fail
   rw[lH.out];go_wp2_with fail
   refine Hw.out.mono ?_;rintro e w2 ⟨rfl,rfl⟩;go_wp2;go_ret;exact⟨_,rfl,(fun h=>absurd h.1 hno),jv.out⟩
 have e1:(k==1)=false:=by simp[k1]
 by_cases k3:k=3
 ·have e3:(k==3)=true:=by simp[k3]
  by_cases d0:dd=0
  ·have f0:(dd==0)=true:=by simp[d0]
   have Hn:=ah (Nj s wb);clear k0 k1 k2 k3 d0;go_enter func73,ntmps73
   go_wp2_with fail
   rw[lH.out];go_wp2_with fail
   refine Hn.out.mono ?_;rintro e w2 ⟨b,rfl,hx2⟩;go_wp2;go_ret;exact⟨_,rfl,(fun h=>absurd h.1 hno),jv.out.trans hx2⟩
  ·have f0:(dd==0)=false:=by simp[d0]
   clear k0 k1 k2 k3 d0;go_enter func73,ntmps73
   go_wp2_with fail
   rw[lH.out];go_wp2;go_ret;exact⟨_,rfl,(fun h=>absurd h.1 hno),jv.out⟩
 ·have e3:(k==3)=false:=by simp[k3]
  clear k0 k1 k2 k3;go_enter func73,ntmps73
  go_wp2_with fail
  rw[lH.out];go_wp2;go_ret;exact⟨_,rfl,(fun h=>absurd h.1 hno),jv.out⟩
end Go.Proofs.YtgboomjahhnldaaGreatDoor
