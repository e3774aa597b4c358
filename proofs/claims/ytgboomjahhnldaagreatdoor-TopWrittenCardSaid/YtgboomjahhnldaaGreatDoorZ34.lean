/- A part of the proof of TopWritten, printed small: TDo4. -/
import Derived.Test.YtgboomjahhnldaaGreatDoorZ33
import Derived.Test.YtgboomjahhnldaaGreatDoorZ30
import Derived.Test.YtgboomjahhnldaaGreatDoorZ22
set_option maxRecDepth 100000
set_option maxHeartbeats 25600000
set_option linter.all false
namespace Go.Proofs.YtgboomjahhnldaaGreatDoor
open Go.Proofs.Tryz Go.RowKit
theorem Ut{P:Program}{ρ:Operand->Value}{o:Oper}{w:World}(x y:Operand)(ho:o.op=.pick x (.const (.bool true)) y)(hf:ρ (.const (.bool true))=.bool true){A B:Prop}(hx:(jU A).p (ρ x) w)(hy:ρ x=.bool false->(jU B).p (ρ y) w):bL P ρ o w (jU (A/\B)).p:=by
 obtain⟨b,hb,ha⟩:=hx;cases b with
 |true=>exact nT (c:=.bool true) x _ y ho true hb (fun _=>hf) (fun h=>by cases h) ⟨true,rfl,fun h=>ha h.1⟩
 |false=>
  obtain⟨c,hc,hB⟩:=hy hb;exact nT (c:=.bool c) x _ y ho false hb (fun h=>by cases h) (fun _=>hc) ⟨c,rfl,fun h=>hB h.2⟩
theorem II{W:World}{b:Nat}{q:dY}(h:At W b 0 (bF.E q)):At W b 3 (aT.E q.it):=fun j y hy=>by
 have:=h (3+j) y (by rw[Nat.add_comm];exact hy);simpa using this
theorem Qd{W:World}{b:Nat}{q:dY}(h:At W b 0 (bF.E q)):At W b 8 (aj.E q.it.u):=fun j y hy=>by
 have hj:j<8:=(List.getElem?_eq_some_iff.1 hy).1
 have:=h (8+j) y (by
  match j,hj with
  |0,_=>exact hy
  |1,_=>exact hy
  |2,_=>exact hy
  |3,_=>exact hy
  |4,_=>exact hy
  |5,_=>exact hy
  |6,_=>exact hy
  |7,_=>exact hy)
 simpa using this
theorem YQ{u:av}(h:dI u)(hc:cntF u<=30):iD (qm 300 60) u:=Cq u fun x hx=>by
 have h1:=h.all;have hp:Lj x:=(dI.pre h hx).all.head;have h2:=Ea u x hx;have h3:=jR x;have h4:=nV x.kids;obtain⟨a,i,n,k,l,hd,wd,kids⟩:=x;obtain⟨-,p2,p3,-⟩:=hp;exact⟨p2,p3,by have:kids.length<=bZ kids:=h4;have e:cntF (.mk a i n k l hd wd kids)=1+bZ kids:=h3;omega⟩
structure Oj (u:av) (dd:dn) (w:World):Prop where
 one:iO u dd.it.x.at_=[u]
 wh:dd.it.x.wh=0
 tabs:ou w
 kind:u.kind=0
 kids:u.kids=[]
 sec:dd.it.x.unit.kind=2
 bare:dd.it.x.unit.kids=[]
 id:u.id.a≠dd.act
theorem aeA(act item:Int)(u:av)(h:dI u){z:av}(hz:(gK act item u 1 0).1=z):dI z:=by
 obtain⟨h1,h2,h3⟩:=Ba act item u 1 0;have hc:cntF z<=1000:=by rw[<-hz,CW];exact h.cnt
 rw[hz]at h3;refine⟨Cq z fun x hx=> ?_,hc⟩;obtain⟨-,y,hy,e1,e2,e3,e4,e5⟩:=h3 _ (qG hx);obtain⟨o1,o2,o3,-,o5,o6⟩:=(h.pre hy).all.head;have k1:=Ea z x hx;have k2:=jR x;have k3:=nV x.kids;refine⟨by rw[show x.label=y.label from e1];exact o1,by rw[show x.head.length=y.head.length from e2];exact o2,by rw[show x.words.length=y.words.length from e3];exact o3,by omega,fun g hg=> ?_,fun g hg=> ?_⟩
 ·have:g.t∈x.head.map aJ.t:=List.mem_map.2 ⟨g,hg,rfl⟩
  rw[show x.head.map aJ.t=y.head.map aJ.t from e4]at this;obtain⟨v,hv,he⟩:=List.mem_map.1 this;rw[<-he];exact o5 v hv
 ·have:g.t∈x.words.map aJ.t:=List.mem_map.2 ⟨g,hg,rfl⟩
  rw[show x.words.map aJ.t=y.words.map aJ.t from e5]at this;obtain⟨v,hv,he⟩:=List.mem_map.1 this;rw[<-he];exact o6 v hv
theorem VO(d:Nat->Bool)(u:av)(r xr:aB)(dd:dn)(q:dY)(w:World)(hD:lG d w)(hr:Reads (mask d w) u r)(hok:dI u)(hq:fH w dd q)(hi:lu dd.it)(hnd:(kW (dN u)).Nodup)(hT:kN w)(hk0:dd.it.x.kind=0):
 Calls prog 63 #[.agg r.cells.toArray,.agg xr.cells.toArray,.agg q.cells.toArray] w (uj d (fun u' E=>(E=0->∃(p:bf) (j:Nat),u'=fZ p (fun y=>y.dJ (mQ j (gK dd.act dd.item dd.it.x.unit 1 0).1 y.kids)) u/\(∀a∈bO u,∀b∈bO (gK dd.act dd.item dd.it.x.unit 1 0).1,a.id≠b.id)/\(Oj u dd w->p=u.id/\j=0))/\(E≠0->u'=u)/\(Oj u dd w->E=0)) w):=by
 have jN:=ah (fun wq (he:Ext w wq) (hb:w.heap.size<=w.heap.size+3)=>Reads.cin (aZ.dark (d:=d) he hb) u r hr);have HD:=ah hD;have fI:=ah hok;have yL:=Reads.cin (aZ.iV d w) u r hr;have Uu:=ah (fun wq (he:Ext w wq)=>Reads.ext he u r yL);have Na:=ah (fun wq (he:Ext w wq)=>Uk u r dd.it.x q.it wq (Reads.ext he _ _ yL) hok (gF.cin (aZ.dH he) hq.it.one) hi.one hnd);have hfc:cntF dd.it.x.unit<=30:=by have:=Ny (m:=30) (by decide) hi.one.u;omega
 have hfo:dI dd.it.x.unit:=Bu (m:=30) (by decide) (by decide) hi.one.u;have Hfo:=ah hfo;have nO:=ah (fun wq (he:Ext w wq)=>ab0 q.act q.item dd.it.x.unit q.it.u wq (Reads.ext he _ _ hq.it.one.unit) (YQ hfo hfc) (by omega));obtain⟨z,hz⟩:=aH ((gK dd.act dd.item dd.it.x.unit 1 0).1);have hz2:(gK q.act q.item dd.it.x.unit 1 0).1=z:=by rw[hq.act,hq.item];exact hz
 rw[hz2]at nO;have hzo:dI z:=aeA dd.act dd.item dd.it.x.unit hfo hz;have Hzo:=ah hzo;have hzc:cntF z<=30:=by rw[<-hz,CW];exact hfc
 have Hz:=ah hz;have HT:=ah hT;have yK:=ah hk0;have Hnd:=ah hnd;rw[hz];clear hD hr hok hq hi yL hnd hz hz2 hzo hT hk0 hfo hfc;go_enter func63,ntmps63
 go_upto_region 1 with(first|(refine aG aj (.tmp 0) rfl rfl r rfl fun wA aR bG bB aO=> ?_)|(refine aG aj (.tmp 1) rfl rfl xr rfl fun wB eH ji hkB eG=> ?_)|(refine aG bF (.tmp 2) rfl rfl q rfl fun wC dD jK fE oW=> ?_)|(refine aL aj rfl rfl fun wD gW oH kg=> ?_))
 have hzz:wA.heap.size=w.heap.size+1/\wB.heap.size=w.heap.size+2/\wC.heap.size=w.heap.size+3:=⟨bG,by omega,by omega⟩;have HX:=ah (aR.trans (eH.trans (dD.trans gW)));have dO:=ah (fun W (he:Ext wD W)=>aO.ext (eH.trans (dD.trans (gW.trans he))) (ay bB));have qV:=ah (show∀W,Ext wD W->At W (w.heap.size+1) 0 (aj.E xr)from fun W he=>by rw[<-hzz.1];exact eG.ext (dD.trans (gW.trans he)) (ay hkB));have mo:=ah (show∀W,Ext wD W->At W (w.heap.size+2) 0 (bF.E q)from fun W he=>by rw[<-hzz.2.1];exact oW.ext (gW.trans he) (ay fE));have jI:=ah (show wD.heap[w.heap.size+3]? =some (.cells aj.z.cells aj.e (0,0))from by rw[<-hzz.2.2];exact kg);have CZ:w.heap.size+3<wD.heap.size:=ay jI.out;have iT:=ah (show∀W,Ext wD W->At W (w.heap.size+1) 0 (aM.E xr.id)from fun W he j y hy=>qV.out W he j y (uh hy));have nG:=ah (show∀W,Ext wD W->At W (w.heap.size+2) 3 (aT.E q.it)from fun W he=>II (mo.out W he));have tL:=ah (show∀W,Ext wD W->At W (w.heap.size+2) 8 (aj.E q.it.u)from fun W he=>Qd (mo.out W he));have C8:=ah (fun W (he:Ext wD W)=>rP (mo.out W he));clear aR bG bB aO eH ji hkB eG dD jK fE oW gW oH kg hzz mo;have Hd2:=ah (Na.out wD HX.out);clear Na;have vH:=ah (dO.out wD (Ext.refl _));have yD:=ah (nG.out wD (Ext.refl _));go_wp2_with (first|((with_reducible refine au aj (.tmp 3) ?_ ?_ ?_ w.heap.size 0 ?_ r ?_ ?_);rfl;rfl;rfl;rfl;exact vH.out)|((with_reducible refine au aT (.tmp 18) ?_ ?_ ?_ (w.heap.size+2) 3 ?_ q.it ?_ ?_);rfl;rfl;rfl;rfl;exact yD.out))
 refine Hd2.out.mono ?_;rintro e w2 ⟨p,J,E,rfl,hE0,hE1,hx2⟩;have Ap:=ah hE0;have IB:=ah hE1;have eD:=ah hx2;have hz2:w.heap.size+3<w2.heap.size:=bQ CZ hx2.size;clear hE0 hE1 hx2 Hd2 vH yD;go_upto_region 2 with(first|(refine aL aM rfl rfl fun wE jT o9 jO=> ?_)|((refine aD aM (.tmp 8) (.tmp 21) ?_ ?_ w2 w2.heap.size ?_ p ?_ _ _ ((((Ext.refl wE).alloc _).block (ay jO)).trans jO) ?_ (jT.alloc _) (aI _) ?_);rfl;rfl;rfl;rfl;rfl;intro wF iZ wX zM pq Am;have Io:wF.heap[w2.heap.size+1]? =some (.cells #[.int .i64 0] 3 (0,0)):=by(rw[Am _ (by omega),<-o9];exact heap_alloc_new wE _))|(refine aP rfl 3 (.tmp 9) (.tmp 22) rfl (w2.heap.size+1) 0 (.int .i64 J) rfl rfl [.int .i64 J] rfl sizeOf3 (by simp[Value.oneCell']) 3 _ Io (by simp) ?_;intro w5 rz nu ny nD hs5 rZ))
 have hx25:Ext w2 w5:=iZ.put (Nat.le_succ _) rz nu ny nD hs5;have mG:=ah (eD.out.trans hx25);have mg:=ah (HX.out.trans (eD.out.trans hx25))
 have KW:=ah (show At w5 w2.heap.size 0 (aM.E p)from fun j y hy=>by
  have:=pq j y hy;simpa[World.cell?,rz w2.heap.size (by omega)]using this)
 have HcJ:=ah (show w5.cell? ⟨w2.heap.size+1,0,none⟩=some (.int .i64 J)from by simp[World.cell?,rZ]);have FH:w2.heap.size+1<w5.heap.size:=ay rZ;have Ct:=ah ((mG.out.block (ay jI.out)).trans jI.out);have um:=ah (dO.out w5 mG.out);clear jT o9 jO iZ wX zM pq Am Io rz nu ny nD hs5 rZ hx25;by_cases hE:E=0
 ·have d0:(E !=0)=false:=by simp[hE]
  have alD:=ah (Ap.out hE);clear hE Ap
  have hDI:WQ u p J:=by
   rcases alD.out with⟨-,h⟩|⟨h,-⟩
   ·exact h
   ·rw[yK.out]at h;cases h
  obtain⟨j,rfl,z0,hz0,aeB,hjl⟩:=hDI;obtain⟨pu,J6⟩:∃pu,findF p u=some pu:=⟨_,List.getLast?_eq_some_getLast (tF p u ⟨z0,hz0,aeB⟩)⟩;have alE:=rC p u pu J6
  have KJ:=ah (show∀y∈bO u,y.id=p->j<=y.kids.length from fun y hy he=>by
   rw[wZ Hnd.out hy hz0 (he.trans aeB.symm)];exact hjl)
  have ase:=ah (fI.out.pre alE.2);have Hf:=ah (by have h:=CY u r p w5 (Uu.out w5 mg.out) fI.out;rw[J6]at h;exact h);have Hpu:=ah J6;clear hz0 aeB hjl J6 alE alD;go_wp2_with (first|((with_reducible refine au aj (.tmp 3) ?_ ?_ ?_ w.heap.size 0 ?_ r ?_ ?_);rfl;rfl;rfl;rfl;exact um.out)|((with_reducible refine au aM (.tmp 8) ?_ ?_ ?_ w2.heap.size 0 ?_ p ?_ ?_);rfl;rfl;rfl;rfl;exact KW.out))
  refine Hf.out.mono ?_;rintro e w6 ⟨hx6,pr,rfl,hpr⟩;have aeC:=ah hx6;have Hpr:=ah hpr;clear hx6 hpr Hf um;go_upto_region 5 with(first|(refine aL aj rfl rfl fun wG dL fF dM=> ?_)|((refine aD aj (.tmp 11) (.tmp 32) ?_ ?_ w6 w6.heap.size ?_ pr ?_ _ _ dM ?_ dL (aI _) ?_);rfl;rfl;rfl;rfl;rfl;intro wH mO yj om su Cm))
  have asf:=ah mO;have KX:=ah (aeC.out.trans mO);have alF:=ah (fun W (he:Ext wH W)=>su.ext he (ay om));have HlG:=ah (ay om);have Nb:=ah (mG.out.trans KX.out);have Uv:=ah (mg.out.trans KX.out);clear dL fF dM mO yj om su Cm;obtain⟨c0,c1,-,-,-,-⟩:=C8.out wH Nb.out;have ag5:=ah (tL.out wH Nb.out);have y5:=ah (nO.out wH Uv.out);clear nO;go_wp2_with ((with_reducible refine au aj (.tmp 35) ?_ ?_ ?_ (w.heap.size+2) 8 ?_ q.it.u ?_ ?_);rfl;rfl;rfl;rfl;exact ag5.out)
  refine y5.out.mono ?_;rintro e w8 ⟨zr,rfl,jL,hzr⟩;have aeD:=ah jL;have Hzr:=ah hzr;have asg:wH.heap.size<=w8.heap.size:=jL.size;clear jL hzr y5 c0 c1 ag5;go_upto_region 6 with(first|(refine aL aj rfl rfl fun wK Ue hzK Uf=> ?_)|((refine aD aj (.tmp 13) (.tmp 41) ?_ ?_ w8 w8.heap.size ?_ zr ?_ _ _ Uf ?_ Ue (aI _) ?_);rfl;rfl;rfl;rfl;rfl;intro wL uw TB Ca Uw hoL))
  have Ux:=ah uw;have Ad:=ah (aeD.out.trans uw);have KY:=ah (fun W (he:Ext wL W)=>Uw.ext he (ay Ca));have WH:=ah Ca;have HDL:=ah (Nb.out.trans Ad.out);have HwL:=ah (Uv.out.trans Ad.out);have ash:=ah (show Reads wL pu pr from Reads.ext (asf.out.trans Ad.out) _ _ (Reads.cin (aZ.iV _ _) _ _ Hpr.out));have YR:=ah (show Reads wL z zr from Reads.ext uw _ _ (Reads.cin (aZ.iV _ _) _ _ Hzr.out));have mV:=ah (Ie pu z pr zr wL (HT.out.ext HwL.out) ash.out YR.out ase.out);have ag6:=ah (alF.out wL Ad.out);have Nc:=ah (KY.out wL (Ext.refl _));clear Ue hzK Uf uw TB Ca Uw hoL;go_wp2_with (first|((with_reducible refine au aj (.tmp 11) ?_ ?_ ?_ w6.heap.size 0 ?_ pr ?_ ?_);rfl;rfl;rfl;rfl;exact ag6.out)|((with_reducible refine au aj (.tmp 13) ?_ ?_ ?_ w8.heap.size 0 ?_ zr ?_ ?_);rfl;rfl;rfl;rfl;exact Nc.out))
  refine mV.out.mono ?_;rintro e uT ⟨E2,rfl,hE2,yZ⟩;have HE2:=ah hE2;have zy:=ah yZ;have YS:=ah (HDL.out.trans yZ);have Uy:=ah (HwL.out.trans yZ);have QL:=ah ((YS.out.block (ay jI.out)).trans jI.out);have alI:=ah (dO.out uT YS.out)
  have HX:=ah (show Oj u dd w->p=u.id/\j=0/\pu=u/\cntF u=1/\cntF z=1/\(cZ p u).length=1/\z.kind=2 from fun hX=>by
   obtain⟨a1,a2,-⟩:=IB.out u hX.one hX.wh yK.out;have hw:cZ u.id u=[u]:=by rw[Bj,bH rfl]
   have e1:cntF u=1:=by rw[jR,hX.kids,bZ]
   have e2:cntF z=1:=by rw[<-Hz.out,CW,jR,hX.bare,bZ]
   refine⟨a1,by omega,?_,e1,e2,by rw[a1,hw];rfl,?_⟩
   ·have h:=Hpu.out
    rw[a1]at h;unfold findF at h;rw[hw]at h;simpa using h.symm
   ·rw[<-Hz.out]
    have:∀v:av,(gK dd.act dd.item v 1 0).1.kind=v.kind:=fun v=>by cases v;rw[gK];rfl
    rw[this];exact hX.sec)
  clear hE2 yZ mV ag6 Nc;by_cases hE2:E2=0
  ·have d1:(E2 !=0)=false:=by simp[hE2]
   clear hE2;go_upto_region 9 with fail
   have alJ:=ah (show∀wq,Ext uT wq->(aK (aB.cells pr)).p (.pointer (some ⟨w6.heap.size,0,none⟩)) wq from fun wq he=>⟨w6.heap.size,0,rfl,by have:=HlG.out;have:=Ad.out.size;have:=zy.out.size;have:=he.size;omega,fun k y hy=>alF.out wq (Ad.out.trans (zy.out.trans he)) k y hy⟩);have HbZ:=ah (show∀wq,Ext uT wq->(aK (aB.cells zr)).p (.pointer (some ⟨w8.heap.size,0,none⟩)) wq from fun wq he=>⟨w8.heap.size,0,rfl,by have:=ay WH.out;have:=zy.out.size;have:=he.size;omega,fun k y hy=>KY.out wq (zy.out.trans he) k y hy⟩);have zL:=ah (show∀wq,Ext uT wq->(aK (aB.cells r)).p (.pointer (some ⟨w.heap.size,0,none⟩)) wq from fun wq he=>⟨w.heap.size,0,rfl,by have:=ay QL.out;have:=he.size;omega,fun k y hy=>dO.out wq (YS.out.trans he) k y hy⟩);have aeE:=ah (KX.out.trans (Ad.out.trans zy.out));have HbP:=ah (show∀wq,Ext uT wq->(aK (bf.cells p)).p (.pointer (some ⟨w2.heap.size,0,none⟩)) wq from fun wq he=>⟨w2.heap.size,0,rfl,by have:=aeE.out.size;have:=he.size;omega,fun k y hy=>KW.out.ext (aeE.out.trans he) (by omega) k y hy⟩);have Nf:=ah (fun W (he:Ext uT W)=>RX u z r zr p W (Uu.out W (Uy.out.trans he)) fI.out (Reads.ext (zy.out.trans he) _ _ YR.out) Hzo.out);have ag7:=ah (fun W (he:Ext uT W)=>GD u r W (Uu.out W (Uy.out.trans he)) fI.out);have ag8:=ah (fun W (he:Ext uT W)=>GD z zr W (Reads.ext (zy.out.trans he) _ _ YR.out) Hzo.out);have hu1:cntF u<=1000:=fI.out.cnt;refine JJ [(5,4,false),(6,4,false),(7,4,false),(8,4,false),(11,10,false),(12,10,false),(13,10,false),(14,10,false),(15,10,false),(16,10,false)] (fun i=>match i with|0=>aK [.slice pr.kA pr.kn pr.kc]|1=>Ty.is (.slice pr.kA pr.kn pr.kc)|2=>Ty.is (.int .i64 (pr.kn:Nat))|3=>Ty.is (.bool (decide (((pr.kn:Nat):Int)≥64)))|4=>Ty.is (.bool (decide (((pr.kn:Nat):Int)≥64)))|5=>Ty.is (.agg (aB.cells r).toArray)|6=>Ty.is (.agg (bf.cells p).toArray)|7=>Ty.is (.agg (aB.cells zr).toArray)|8=>jU ((cZ p u).length+1+cntF z<=8)|9=>jU ((decide (((pr.kn:Nat):Int)≥64)=false)/\((cZ p u).length+1+cntF z<=8))|10=>jU ((decide (((pr.kn:Nat):Int)≥64)=false)/\((cZ p u).length+1+cntF z<=8))|11=>Ty.is (.agg (aB.cells r).toArray)|12=>Ty.is (.int .i64 ((cntF u:Nat):Int))|13=>Ty.is (.agg (aB.cells zr).toArray)|14=>Ty.is (.int .i64 ((cntF z:Nat):Int))|15=>Ty.is (.int .i64 (((cntF u:Nat):Int)+((cntF z:Nat):Int)))|16=>Ty.is (.bool (decide (((cntF u:Nat):Int)+((cntF z:Nat):Int)>1024)))|17=>jU (((decide (((pr.kn:Nat):Int)≥64)=false)/\((cZ p u).length+1+cntF z<=8))/\(decide (((cntF u:Nat):Int)+((cntF z:Nat):Int)>1024)=false))|_=>Ty.any) (by kernel_rfl) (by first|assumption|kernel_rfl) (by kernel_rfl) (by kernel_rfl) 18 rfl (by kernel_rfl) ?_;intro v;refine⟨?_,?_,?_,?_,?_,?_,?_,?_,?_,?_,?_,?_,?_,?_,?_,?_,?_,?_,?_⟩
   ·exact fun wq hq _=>ak rfl (dB 30 5 (.tmp 11) rfl _ underlying30 _ rfl 1 sizeOf28 (by decide) [.int .i64 pr.a,.int .i64 pr.i,.int .i64 pr.n,.int .i64 pr.kind,.string pr.label,.slice pr.hA pr.hn pr.hc,.slice pr.wA pr.wn pr.wc,.slice pr.kA pr.kn pr.kc] ((alJ.out _ hq)))
   ·rintro wq hq ⟨h0,-⟩;exact ak rfl (bW 28 (.tmp 49) rfl isAgg28 (c:=.slice pr.kA pr.kn pr.kc) h0 rfl)
   ·rintro wq hq ⟨h0,-⟩;exact ak rfl (Bg (.tmp 50) 28 _ underlying28 rfl _ _ _ h0 rfl)
   ·rintro wq hq ⟨h0,-⟩;exact ak rfl (eF .geq 3 3 (.tmp 51) _ rfl _ _ h0 rfl (Vh _ _ _) rfl)
   ·rintro wq hq ⟨h0,-⟩;exact ak rfl (aF (.tmp 52) rfl h0 rfl)
   ·rintro wq hq ⟨h0,-⟩
    change v 4=_ at h0;refine kD (T:=Ty.is (.agg (aB.cells r).toArray)) 4 false rfl (fB rfl rfl) (fun hg=> ?_);exact bU 30 (.tmp 3) rfl isAgg30 8 sizeOf30 (aB.cells r) rfl (zL.out _ hq) rfl
   ·rintro wq hq ⟨h0,-⟩
    change v 4=_ at h0;refine kD (T:=Ty.is (.agg (bf.cells p).toArray)) 4 false rfl (fB rfl rfl) (fun hg=> ?_);exact bU 26 (.tmp 8) rfl isAgg26 3 sizeOf26 (bf.cells p) rfl (HbP.out _ hq) rfl
   ·rintro wq hq ⟨h0,-⟩
    change v 4=_ at h0;refine kD (T:=Ty.is (.agg (aB.cells zr).toArray)) 4 false rfl (fB rfl rfl) (fun hg=> ?_);exact bU 30 (.tmp 13) rfl isAgg30 8 sizeOf30 (aB.cells zr) rfl (HbZ.out _ hq) rfl
   ·rintro wq hq ⟨h0,h1,h2,h3,h4,-⟩
    change (iB (v 4=.bool false) (Ty.is (.agg (aB.cells r).toArray))).p (v 5) wq at h0;change (iB (v 4=.bool false) (Ty.is (.agg (bf.cells p).toArray))).p (v 6) wq at h1;change (iB (v 4=.bool false) (Ty.is (.agg (aB.cells zr).toArray))).p (v 7) wq at h2;change v 4=_ at h3;refine kD (T:=jU ((cZ p u).length+1+cntF z<=8)) 4 false rfl (fB rfl rfl) (fun hg=> ?_);replace h0:=iB.of h0 hg;replace h1:=iB.of h1 hg;replace h2:=iB.of h2 hg;refine fC 96 call96 _ _ rfl rfl [_,_,_] ⟨h0,h1,h2,trivial⟩ ?_;refine(Nf.out wq hq).mono ?_;rintro e w' ⟨b,rfl,hb,hx⟩;exact⟨_,rfl,hx,b,rfl,hb⟩
   ·rintro wq hq ⟨h0,h1,-⟩
    change v 4=_ at h0;change (iB (v 4=.bool false) (jU ((cZ p u).length+1+cntF z<=8))).p (v 8) wq at h1;refine ak rfl ?_;exact Ut (.tmp 53) (.tmp 57) rfl rfl ⟨_,h0,fun h=>h⟩ (fun e=>iB.of h1 e)
   ·rintro wq hq ⟨h0,h1,-⟩;exact ak rfl (aF (.tmp 58) rfl rfl h0)
   ·rintro wq hq ⟨h0,-⟩
    change (jU ((decide (((pr.kn:Nat):Int)≥64)=false)/\((cZ p u).length+1+cntF z<=8))).p (v 10) wq at h0;refine kD (T:=Ty.is (.agg (aB.cells r).toArray)) 10 false rfl (fB rfl rfl) (fun hg=> ?_);exact bU 30 (.tmp 3) rfl isAgg30 8 sizeOf30 (aB.cells r) rfl (zL.out _ hq) rfl
   ·rintro wq hq ⟨h0,h1,h2,-⟩
    change (iB (v 10=.bool false) (Ty.is (.agg (aB.cells r).toArray))).p (v 11) wq at h0;change (jU ((decide (((pr.kn:Nat):Int)≥64)=false)/\((cZ p u).length+1+cntF z<=8))).p (v 10) wq at h1;refine kD (T:=Ty.is (.int .i64 ((cntF u:Nat):Int))) 10 false rfl (fB rfl rfl) (fun hg=> ?_);replace h0:=iB.of h0 hg;refine fC 97 call97 _ _ rfl rfl [_] ⟨h0,trivial⟩ ?_;refine(ag7.out wq hq).mono ?_;rintro e w' ⟨rfl,hx⟩;exact⟨_,rfl,hx,rfl⟩
   ·rintro wq hq ⟨h0,-⟩
    change (jU ((decide (((pr.kn:Nat):Int)≥64)=false)/\((cZ p u).length+1+cntF z<=8))).p (v 10) wq at h0;refine kD (T:=Ty.is (.agg (aB.cells zr).toArray)) 10 false rfl (fB rfl rfl) (fun hg=> ?_);exact bU 30 (.tmp 13) rfl isAgg30 8 sizeOf30 (aB.cells zr) rfl (HbZ.out _ hq) rfl
   ·rintro wq hq ⟨h0,h1,h2,-⟩
    change (iB (v 10=.bool false) (Ty.is (.agg (aB.cells zr).toArray))).p (v 13) wq at h0;change (jU ((decide (((pr.kn:Nat):Int)≥64)=false)/\((cZ p u).length+1+cntF z<=8))).p (v 10) wq at h2;refine kD (T:=Ty.is (.int .i64 ((cntF z:Nat):Int))) 10 false rfl (fB rfl rfl) (fun hg=> ?_);replace h0:=iB.of h0 hg;refine fC 97 call97 _ _ rfl rfl [_] ⟨h0,trivial⟩ ?_;refine(ag8.out wq hq).mono ?_;rintro e w' ⟨rfl,hx⟩;exact⟨_,rfl,hx,rfl⟩
   ·rintro wq hq ⟨h0,h1,h2,-⟩
    change (iB (v 10=.bool false) (Ty.is (.int .i64 ((cntF u:Nat):Int)))).p (v 12) wq at h0;change (iB (v 10=.bool false) (Ty.is (.int .i64 ((cntF z:Nat):Int)))).p (v 14) wq at h1;change (jU ((decide (((pr.kn:Nat):Int)≥64)=false)/\((cZ p u).length+1+cntF z<=8))).p (v 10) wq at h2;refine kD (T:=Ty.is (.int .i64 (((cntF u:Nat):Int)+((cntF z:Nat):Int)))) 10 false rfl (fB rfl rfl) (fun hg=> ?_);replace h0:=iB.of h0 hg;replace h1:=iB.of h1 hg;exact eF .add 3 3 (.tmp 61) (.tmp 63) rfl _ _ h0 h1 (oF _ _ _ (by omega) (by omega)) rfl
   ·rintro wq hq ⟨h0,h1,-⟩
    change (iB (v 10=.bool false) (Ty.is (.int .i64 (((cntF u:Nat):Int)+((cntF z:Nat):Int))))).p (v 15) wq at h0;change (jU ((decide (((pr.kn:Nat):Int)≥64)=false)/\((cZ p u).length+1+cntF z<=8))).p (v 10) wq at h1;refine kD (T:=Ty.is (.bool (decide (((cntF u:Nat):Int)+((cntF z:Nat):Int)>1024)))) 10 false rfl (fB rfl rfl) (fun hg=> ?_);replace h0:=iB.of h0 hg;exact eF .gtr 3 3 (.tmp 64) _ rfl _ _ h0 rfl (rV _ _ _) rfl
   ·rintro wq hq ⟨h0,h1,-⟩
    change (jU ((decide (((pr.kn:Nat):Int)≥64)=false)/\((cZ p u).length+1+cntF z<=8))).p (v 10) wq at h0;change (iB (v 10=.bool false) (Ty.is (.bool (decide (((cntF u:Nat):Int)+((cntF z:Nat):Int)>1024))))).p (v 16) wq at h1;refine ak rfl ?_;exact Ut (.tmp 59) (.tmp 65) rfl rfl h0 (fun e=>⟨_,iB.of h1 e,fun h=>h⟩)
   ·intro wq hq hT
    have k17:=hT 17 (by decide);change (jU (((decide (((pr.kn:Nat):Int)≥64)=false)/\((cZ p u).length+1+cntF z<=8))/\(decide (((cntF u:Nat):Int)+((cntF z:Nat):Int)>1024)=false))).p (v 17) wq at k17;clear hT;simp only[List.drop_succ_cons,List.drop_zero,gH,dK,List.set_cons_succ,List.set_cons_zero,Nat.reduceAdd];generalize v 17=x17 at k17⊢;obtain⟨b,rfl,hb⟩:=k17;have Hb:=ah hb;have HDq:=ah (YS.out.trans hq);have Hwq:=ah (Uy.out.trans hq);have asi:=ah ((hq.block (ay QL.out)).trans QL.out);have aha:=ah (dO.out wq HDq.out);have HLq:=ah (zy.out.trans hq);have asj:=ah (aeE.out.trans hq);have asl:=ah (show pr.kn=pu.kids.length from Hpr.out.j5.2.2.2.2.2.2.2.2.2.1);clear hb hq alJ HbZ zL HbP Nf ag7 ag8 hu1;cases b with
    |true=>
     have asn:=asi.out;have aso:=Hwq.out;go_wp2_with (first|((with_reducible refine au aj (.tmp 3) ?_ ?_ ?_ w.heap.size 0 ?_ r ?_ ?_);rfl;rfl;rfl;rfl;exact aha.out)|((refine aD aj (.tmp 6) (.tmp 67) ?_ ?_ w (w.heap.size+3) ?_ r ?_ _ _ asn ?_ aso (by omega) ?_);rfl;rfl;rfl;rfl;rfl;intro w9 ko qp oI sZ qQ))
     refine bodyPost_ret (dA rfl _ _ (w.heap.size+3) r rfl oI) rfl ?_;refine⟨u,r,6,rfl,ko,Reads.cin (aZ.light qp qQ) _ _ (jN.out wq Hwq.out (by omega)),(fun h=>by cases h),fun _=>rfl,fun hX=> ?_⟩;obtain⟨a1,a2,a3,a4,a5,a6,a7⟩:=HX.out hX;have h0:pr.kn=0:=by rw[asl.out,a3,hX.kids];rfl
     have:=Hb.out ⟨⟨by rw[h0];rfl,by omega⟩,by rw[a4,a5];rfl⟩;cases this
    |false=>
     have KG:=ah (NK u r wq (Uu.out wq Hwq.out) fI.out);go_wp2_with ((with_reducible refine au aj (.tmp 3) ?_ ?_ ?_ w.heap.size 0 ?_ r ?_ ?_);rfl;rfl;rfl;rfl;exact aha.out)
     refine KG.out.mono ?_;rintro e Ng ⟨v,rfl,hown,alM⟩;obtain⟨us,sO⟩:=aH ((bO u).map av.id);rw[sO]at hown;have Hus:=ah sO;have CO:us.length<=1000:=by rw[<-sO,jA,nW];exact fI.out.cnt
     obtain⟨Au,cu,rfl,-,hsu⟩:=hown.form;have Hsu:=ah hsu;have asq:=ah alM;clear sO hown hsu alM KG;go_upto_region 12 with(refine aP rfl 143 (.tmp 15) (.tmp 69) rfl Ng.heap.size 0 (.slice Au us.length cu) rfl rfl [.slice Au us.length cu] rfl sizeOf143 (by simp[Value.oneCell']) 143 _ (heap_alloc_new Ng (.cells #[.slice none 0 0] 143)) (by simp) ?_;intro Aq alN ahb ahc ahd alO YT)
     have Fa:Ext Ng Aq:=((Ext.refl Ng).alloc (.cells #[.slice none 0 0] 143)).put (aI _) alN ahb ahc ahd alO;have aeF:=ah (asq.out.trans Fa);have anx:=ah (Hsu.out.ext Fa);have asr:=ah (show Aq.cell? ⟨Ng.heap.size,0,none⟩=some (.slice Au us.length cu)from by simp[World.cell?,YT]);have alP:=ah (ay YT);have Nh:=ah (KY.out Aq (HLq.out.trans aeF.out));have ahe:=ah (NK z zr Aq (Reads.ext (HLq.out.trans aeF.out) _ _ YR.out) Hzo.out);clear alN ahb ahc ahd alO YT Fa Hsu;go_wp2_with ((with_reducible refine au aj (.tmp 13) ?_ ?_ ?_ w8.heap.size 0 ?_ zr ?_ ?_);rfl;rfl;rfl;rfl;exact Nh.out)
     refine ahe.out.mono ?_;rintro e Uz ⟨v,rfl,hown,vZ⟩;obtain⟨zs,hzs⟩:=aH ((bO z).map av.id);rw[hzs]at hown;have M5:=ah hzs;have hzl:zs.length<=1000:=by rw[<-hzs,jA,nW];exact Hzo.out.cnt
     obtain⟨Az,cz,rfl,-,hsz⟩:=hown.form;have NY:=ah (aap 100 #[.pointer (some ⟨Ng.heap.size,0,none⟩)] (fun _ _=>rfl) zs Az cz (fun id=>us.any fun y=>decide (id=y)) Uz hsz (by omega) (fun k hk wy hy=>VK Au cu us zs[k] Ng.heap.size wy (anx.out.ext (vZ.trans hy)) (by omega) (bQ alP.out (vZ.trans hy).size) (((vZ.trans hy).cell (p:=⟨Ng.heap.size,0,none⟩) alP.out).trans asr.out)));have YU:=ah (aeF.out.trans vZ);clear hzs hown hsz vZ ahe;obtain⟨bb,hbb⟩:=aH ((zs.any fun id=>us.any fun y=>decide (id=y)));rw[hbb]at NY;have BQ:=ah hbb;clear hbb;go_wp2_with fail
     refine NY.out.mono ?_;rintro e Qe ⟨rfl,UA⟩;have alQ:=ah (HDq.out.trans (YU.out.trans UA));have UC:=ah (Hwq.out.trans (YU.out.trans UA));have aeG:=ah (HLq.out.trans (YU.out.trans UA));have aeH:=ah (asj.out.trans (YU.out.trans UA));have QM:=ah ((alQ.out.block (ay jI.out)).trans jI.out);have ab8:=ah (dO.out Qe alQ.out);clear UA NY;cases bb with
     |true=>
      have anz:=QM.out;have asu:=UC.out;go_wp2_with (first|((with_reducible refine au aj (.tmp 3) ?_ ?_ ?_ w.heap.size 0 ?_ r ?_ ?_);rfl;rfl;rfl;rfl;exact ab8.out)|((refine aD aj (.tmp 6) (.tmp 74) ?_ ?_ w (w.heap.size+3) ?_ r ?_ _ _ anz ?_ asu (by omega) ?_);rfl;rfl;rfl;rfl;rfl;intro w9 ko qp oI sZ qQ))
      refine bodyPost_ret (dA rfl _ _ (w.heap.size+3) r rfl oI) rfl ?_;refine⟨u,r,5,rfl,ko,Reads.cin (aZ.light qp qQ) _ _ (jN.out Qe UC.out (by omega)),(fun h=>by cases h),fun _=>rfl,fun hX=> ?_⟩;exfalso;obtain⟨-,-,-,-,a5,-,-⟩:=HX.out hX;obtain⟨k1,k2,k3⟩:=Ba dd.act dd.item dd.it.x.unit 1 0;rw[Hz.out]at k3;obtain⟨x1,hx1,hx2⟩:=List.any_eq_true.1 BQ.out;obtain⟨y1,hy1,hy2⟩:=List.any_eq_true.1 hx2;have he:x1=y1:=of_decide_eq_true hy2;rw[<-M5.out]at hx1;rw[<-Hus.out,jy,hX.kids,eO]at hy1;obtain⟨g,hg,rfl⟩:=List.mem_map.1 hx1;have h1:=(k3 _ (qG hg)).1.a;have h2:y1=u.id:=by simpa using hy1
      rw[<-he]at h2;exact hX.id (by rw[<-h2];exact h1)
     |false=>
      have hkZ:Qe.heap[w8.heap.size]? =some (.cells zr.cells.toArray 30 (0,0)):=(aeG.out.block (ay WH.out)).trans WH.out;have HD5:=ah ((HD.out.ext UC.out).add (b:=w.heap.size+3) (r:=dU) QM.out);have hcJ:Qe.cell? ⟨w2.heap.size+1,0,none⟩=some (.int .i64 (j:Nat)):=(aeH.out.cell (p:=⟨w2.heap.size+1,0,none⟩) (by show w2.heap.size+1<w5.heap.size;omega)).trans HcJ.out
      have hzd:Reads (mask (oL d (w.heap.size+3)) Qe) z zr:=Reads.cin (aZ.keep (p:=fresh wH.heap.size) (q:=oL d (w.heap.size+3)) (bX Ux.out.size aeG.out.size) (fun k hk hp=>⟨(Ux.out.trans aeG.out).block hk,by
       have hk2:wH.heap.size<=k:=by simpa[fresh]using hp
       cases hd:oL d (w.heap.size+3) k with
       |false=>rfl
       |true=>
        rcases EZ hd with hd|hd
        ·have:=HD.out.lt k hd;have:=Uv.out.size;omega
        ·have:=Nb.out.size;omega⟩)) _ _ Hzr.out
      have ow:=ah (vP (oL d (w.heap.size+3)) u r p Qe (fun _ _=>rfl) (aak (w2.heap.size+1) w8.heap.size j z zr Qe _ (by have:=aeH.out.size;omega) hcJ hkZ hzd) HD5.out.lt (jN.out Qe UC.out (by omega)) fI.out KJ.out);have alR:=ah (KW.out.ext aeH.out (by omega));clear hkZ hcJ hzd;go_wp2_with (first|((with_reducible refine au aj (.tmp 3) ?_ ?_ ?_ w.heap.size 0 ?_ r ?_ ?_);rfl;rfl;rfl;rfl;exact ab8.out)|((with_reducible refine au aM (.tmp 8) ?_ ?_ ?_ w2.heap.size 0 ?_ p ?_ ?_);rfl;rfl;rfl;rfl;exact alR.out))
      refine ow.out.mono ?_;rintro e w15 ⟨r',rfl,UD,UE⟩;have YV:=(UD.block (ay QM.out)).trans QM.out;have hx16:=UC.out.trans UD;have aeI:=ah UE;clear ow UE;go_wp2_with ((refine aD aj (.tmp 6) (.tmp 78) ?_ ?_ w (w.heap.size+3) ?_ r' ?_ _ _ YV ?_ hx16 (by omega) ?_);rfl;rfl;rfl;rfl;rfl;intro wW UF hzW hkW Cj hoW)
      refine bodyPost_ret (dA rfl _ _ (w.heap.size+3) r' rfl hkW) rfl ?_;refine⟨_,r',0,rfl,UF,Reads.cin (aZ.light hzW hoW) _ _ aeI.out,fun _=>⟨p,j,rfl,fun a ha b hb he=> ?_,fun hX=>⟨(HX.out hX).1,(HX.out hX).2.1⟩⟩,(fun h=>absurd rfl h),fun _=>rfl⟩;have h1:a.id∈us:=by rw[<-Hus.out];exact List.mem_map.2 ⟨a,ha,rfl⟩
      have h2:b.id∈zs:=by rw[<-M5.out];exact List.mem_map.2 ⟨b,hb,rfl⟩
      have h3:(zs.any fun id=>us.any fun y=>decide (id=y))=true:=List.any_eq_true.2 ⟨b.id,h2,List.any_eq_true.2 ⟨a.id,h1,bJ he.symm⟩⟩;rw[BQ.out]at h3;cases h3
  ·have d1:(E2 !=0)=true:=by simpa using hE2
   have HEn:=ah hE2;have anA:=QL.out;have anB:=Uy.out;clear hE2;go_wp2_with (first|((with_reducible refine au aj (.tmp 3) ?_ ?_ ?_ w.heap.size 0 ?_ r ?_ ?_);rfl;rfl;rfl;rfl;exact alI.out)|((refine aD aj (.tmp 6) (.tmp 47) ?_ ?_ w (w.heap.size+3) ?_ r ?_ _ _ anA ?_ anB (by omega) ?_);rfl;rfl;rfl;rfl;rfl;intro w9 ko qp oI sZ qQ))
   refine bodyPost_ret (dA rfl _ _ (w.heap.size+3) r rfl oI) rfl ?_;refine⟨u,r,E2,rfl,ko,Reads.cin (aZ.light qp qQ) _ _ (jN.out uT Uy.out (by omega)),(fun h=>absurd h HEn.out),fun _=>rfl,fun hX=> ?_⟩;obtain⟨a1,a2,a3,a4,a5,a6,a7⟩:=HX.out hX;exact HE2.out (hX.tabs.ext HT.out HwL.out) (by rw[a3];exact hX.kind) a7 (by rw[a3];exact hX.kids)
 ·have d0:(E !=0)=true:=by simpa using hE
  have HE:=ah hE;have Cr:=Ct.out;have aeJ:=mg.out;clear hE;go_wp2_with (first|((with_reducible refine au aj (.tmp 3) ?_ ?_ ?_ w.heap.size 0 ?_ r ?_ ?_);rfl;rfl;rfl;rfl;exact um.out)|((refine aD aj (.tmp 6) (.tmp 26) ?_ ?_ w (w.heap.size+3) ?_ r ?_ _ _ Cr ?_ aeJ (by omega) ?_);rfl;rfl;rfl;rfl;rfl;intro w9 ko qp oI sZ qQ))
  refine bodyPost_ret (dA rfl _ _ (w.heap.size+3) r rfl oI) rfl ?_;refine⟨u,r,E,rfl,ko,Reads.cin (aZ.light qp qQ) _ _ (jN.out w5 mg.out (by omega)),(fun h=>absurd h HE.out),fun _=>rfl,fun hX=> ?_⟩;exact(IB.out u hX.one hX.wh yK.out).2.2
end Go.Proofs.YtgboomjahhnldaaGreatDoor
