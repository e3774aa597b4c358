/- A part of the proof of TopWritten, printed small: TDo5 TStep TDoerM. -/
import Derived.Test.YtgboomjahhnldaaGreatDoorZ34
import Derived.Test.YtgboomjahhnldaaGreatDoorZ33
import Derived.Test.YtgboomjahhnldaaGreatDoorZ15
set_option maxRecDepth 100000
set_option maxHeartbeats 25600000
set_option linter.all false
namespace Go.Proofs.YtgboomjahhnldaaGreatDoor
open Go.Proofs.Tryz Go.RowKit
def okC(c:gZ):Prop:=c.label.size<=100/\c.head.length<=300/\c.words.length<=300/\(∀x∈c.head,x.t.size<=100)/\(∀x∈c.words,x.t.size<=100)
theorem Qf{u:av}(h:dI u)(hn:(kW (dN u)).Nodup):iI okC 1000 (dN u):=by
 refine⟨fun c hc=> ?_,hn,by rw[Iy];exact h.cnt⟩;obtain⟨x,hx,rfl⟩:=zJ hc;obtain⟨h1,h2,h3,-,h5,h6⟩:=(h.pre hx).all.head;exact⟨h1,h2,h3,h5,h6⟩
theorem ab9{u:av}(h:iI okC 1000 (dN u)):dI u:=by
 have hc:cntF u<=1000:=by have:=h.len;rwa[Iy]at this
 refine⟨Cq u fun x hx=> ?_,hc⟩;obtain⟨h1,h2,h3,h5,h6⟩:=h.all _ (qG hx);have k1:=Ea u x hx;have k2:=jR x;have k3:=nV x.kids;exact⟨h1,h2,h3,by omega,h5,h6⟩
theorem aeK{u q:av}{id p:bf}{j k:Nat}(hnd:(kW (dN u)).Nodup)(hok:dI u)(hd:IC u id p j)(hq:pF id u q k):∀y∈bO (fZ q.id (fun x=>x.dJ (x.kids.eraseIdx k)) u),y.id=p->j<=y.kids.length:=by
 intro y hy he;obtain⟨q2,k2,hq2,z,hz,hzi,hzl⟩:=hd
 have hqq:q2=q:=by
  have h1:=hq2.at_;rw[hq.at_]at h1;exact(lM h1).symm
 subst hqq;obtain⟨z2,hz2,asv,alV⟩:=abL (Qf hok hnd) hq.mem hq.lt y hy;have hzz:=wZ hnd hz2 hz (by rw[asv,he,hzi]);subst hzz
 split at hzl
 ·rename_i h;rw[bH h]at alV;omega
 ·rename_i h;rw[aU h]at alV;omega
theorem acd(d:Nat->Bool)(u:av)(r xr:aB)(dd:dn)(q:dY)(w:World)(hD:lG d w)(hr:Reads (mask d w) u r)(hok:dI u)(hq:fH w dd q)(hi:lu dd.it)(x:av)(hx:Reads (mask d w) x xr)(hxo:dI x)(hnd:(kW (dN u)).Nodup)(hT:kN w)(qH:dd.it.x.kind=6)(h2:2<=(cZ xr.id u).length)(hfa:∃y0,iO u dd.it.x.at_=[y0]/\y0.id=xr.id):
 Calls prog 69 #[.agg r.cells.toArray,.agg xr.cells.toArray,.agg q.cells.toArray] w (uj d (fun u' E=>(E=0->∃(p:bf) (q:av) (j k:Nat),pF xr.id u q k/\u'=fZ p (fun y=>y.dJ (mQ j x y.kids)) (fZ q.id (fun y=>y.dJ (y.kids.eraseIdx k)) u))/\(E≠0->u'=u)) w):=by
 have jN:=ah (fun wq (he:Ext w wq) (hb:w.heap.size<=w.heap.size+3)=>Reads.cin (aZ.dark (d:=d) he hb) u r hr);have alW:=ah (fun wq (he:Ext w wq) (hb:w.heap.size<=w.heap.size+3)=>Reads.cin (aZ.dark (d:=d) he hb) x xr hx);have HD:=ah hD;have fI:=ah hok;have Hxo:=ah hxo;have yL:=Reads.cin (aZ.iV d w) u r hr;have Uu:=ah (fun wq (he:Ext w wq)=>Reads.ext he u r yL);have S9:=ah (fun wq (he:Ext w wq)=>Reads.ext he x xr (Reads.cin (aZ.iV d w) x xr hx));have Na:=ah (fun wq (he:Ext w wq)=>Uk u r dd.it.x q.it wq (Reads.ext he _ _ yL) hok (gF.cin (aZ.dH he) hq.it.one) hi.one hnd);have HT:=ah hT;have yK:=ah qH;have Hnd:=ah hnd;have H2:=ah h2;have Hfa:=ah hfa;clear hD hr hok hq hi yL hnd hT qH hx hxo h2 hfa;go_enter func69,ntmps69
 go_upto_region 1 with(first|(refine aG aj (.tmp 0) rfl rfl r rfl fun wA aR bG bB aO=> ?_)|(refine aG aj (.tmp 1) rfl rfl xr rfl fun wB eH ji hkB eG=> ?_)|(refine aG bF (.tmp 2) rfl rfl q rfl fun wC dD jK fE oW=> ?_)|(refine aL aj rfl rfl fun wD gW oH kg=> ?_))
 have hzz:wA.heap.size=w.heap.size+1/\wB.heap.size=w.heap.size+2/\wC.heap.size=w.heap.size+3:=⟨bG,by omega,by omega⟩;have HX:=ah (aR.trans (eH.trans (dD.trans gW)));have dO:=ah (fun W (he:Ext wD W)=>aO.ext (eH.trans (dD.trans (gW.trans he))) (ay bB));have qV:=ah (show∀W,Ext wD W->At W (w.heap.size+1) 0 (aj.E xr)from fun W he=>by rw[<-hzz.1];exact eG.ext (dD.trans (gW.trans he)) (ay hkB));have mo:=ah (show∀W,Ext wD W->At W (w.heap.size+2) 0 (bF.E q)from fun W he=>by rw[<-hzz.2.1];exact oW.ext (gW.trans he) (ay fE));have jI:=ah (show wD.heap[w.heap.size+3]? =some (.cells aj.z.cells aj.e (0,0))from by rw[<-hzz.2.2];exact kg);have CZ:w.heap.size+3<wD.heap.size:=ay jI.out;have iT:=ah (show∀W,Ext wD W->At W (w.heap.size+1) 0 (aM.E xr.id)from fun W he j y hy=>qV.out W he j y (uh hy));have nG:=ah (show∀W,Ext wD W->At W (w.heap.size+2) 3 (aT.E q.it)from fun W he=>II (mo.out W he));have tL:=ah (show∀W,Ext wD W->At W (w.heap.size+2) 8 (aj.E q.it.u)from fun W he=>Qd (mo.out W he));have HkX:=ah (show∀W,Ext wD W->W.heap[w.heap.size+1]? =some (.cells xr.cells.toArray aj.e (0,0))from fun W he=>(he.block (by omega)).trans (by rw[<-hzz.1];exact((dD.trans gW).block (ay hkB)).trans hkB));have C8:=ah (fun W (he:Ext wD W)=>rP (mo.out W he));clear aR bG bB aO eH ji hkB eG dD jK fE oW gW oH kg hzz mo;have Hd2:=ah (Na.out wD HX.out);clear Na;have vH:=ah (dO.out wD (Ext.refl _));have yD:=ah (nG.out wD (Ext.refl _));go_wp2_with (first|((with_reducible refine au aj (.tmp 3) ?_ ?_ ?_ w.heap.size 0 ?_ r ?_ ?_);rfl;rfl;rfl;rfl;exact vH.out)|((with_reducible refine au aT (.tmp 20) ?_ ?_ ?_ (w.heap.size+2) 3 ?_ q.it ?_ ?_);rfl;rfl;rfl;rfl;exact yD.out))
 refine Hd2.out.mono ?_;rintro e w2 ⟨p,J,E,rfl,hE0,-,hx2⟩;have Ap:=ah hE0;have eD:=ah hx2;have hz2:w.heap.size+3<w2.heap.size:=bQ CZ hx2.size;clear hE0 hx2 Hd2 vH yD;go_upto_region 2 with(first|(refine aL aM rfl rfl fun wE jT o9 jO=> ?_)|((refine aD aM (.tmp 8) (.tmp 23) ?_ ?_ w2 w2.heap.size ?_ p ?_ _ _ ((((Ext.refl wE).alloc _).block (ay jO)).trans jO) ?_ (jT.alloc _) (aI _) ?_);rfl;rfl;rfl;rfl;rfl;intro wF iZ wX zM pq Am;have Io:wF.heap[w2.heap.size+1]? =some (.cells #[.int .i64 0] 3 (0,0)):=by(rw[Am _ (by omega),<-o9];exact heap_alloc_new wE _))|(refine aP rfl 3 (.tmp 9) (.tmp 24) rfl (w2.heap.size+1) 0 (.int .i64 J) rfl rfl [.int .i64 J] rfl sizeOf3 (by simp[Value.oneCell']) 3 _ Io (by simp) ?_;intro w5 rz nu ny nD hs5 rZ))
 have hx25:Ext w2 w5:=iZ.put (Nat.le_succ _) rz nu ny nD hs5;have mG:=ah (eD.out.trans hx25);have mg:=ah (HX.out.trans (eD.out.trans hx25))
 have KW:=ah (show At w5 w2.heap.size 0 (aM.E p)from fun j y hy=>by
  have:=pq j y hy;simpa[World.cell?,rz w2.heap.size (by omega)]using this)
 have HcJ:=ah (show w5.cell? ⟨w2.heap.size+1,0,none⟩=some (.int .i64 J)from by simp[World.cell?,rZ]);have FH:w2.heap.size+1<w5.heap.size:=ay rZ;have Ct:=ah ((mG.out.block (ay jI.out)).trans jI.out);have um:=ah (dO.out w5 mG.out);have zx:=ah (iT.out w5 mG.out);clear jT o9 jO iZ wX zM pq Am Io rz nu ny nD hs5 rZ hx25;by_cases hE:E=0
 ·have d0:(E !=0)=false:=by simp[hE]
  have hDM:∃j:Nat,J=(j:Int)/\IC u xr.id p j:=by
   rcases Ap.out hE with⟨h,-⟩|⟨-,x1,h1,j,h2,h3⟩
   ·rw[yK.out]at h;cases h
   ·obtain⟨y0,h4,h5⟩:=Hfa.out
    rw[h4]at h1;simp only[List.cons.injEq,and_true]at h1;subst h1;exact⟨j,h2,by rw[<-h5];exact h3⟩
  obtain⟨j,rfl,hdo⟩:=hDM;have JF:=ah hdo;have Ck:=ah (uR u r xr.id w5 (Uu.out w5 mg.out) fI.out);clear hE Ap hdo;go_wp2_with (first|((with_reducible refine au aj (.tmp 3) ?_ ?_ ?_ w.heap.size 0 ?_ r ?_ ?_);rfl;rfl;rfl;rfl;exact um.out)|(refine fV rfl 30 0 (.tmp 4) rfl _ underlying30 _ rfl 3 sizeOf26 (by decide) (w.heap.size+1) 0 rfl ?_)|((with_reducible refine au aM (.tmp 32) ?_ ?_ ?_ (w.heap.size+1) 0 ?_ xr.id ?_ ?_);rfl;rfl;rfl;rfl;exact zx.out))
  refine Ck.out.mono ?_;rintro e w6 ⟨hx6,hres⟩
  obtain⟨pid,pj,pb,rfl⟩:∃(pid:bf) (pj:Int) (pb:Bool),e=.returned (.tuple #[.agg pid.cells.toArray,.int .i64 pj,.bool pb]):=by
   rcases hres with⟨-,h⟩|⟨p,j,h,-⟩
   ·exact⟨_,_,_,h⟩
   ·exact⟨_,_,_,h⟩
  have aeC:=ah hx6;clear hx6 hres Ck um zx;go_upto_region 5 with(first|(refine aL aM rfl rfl fun wG dL fF dM=> ?_)|((refine aD aM (.tmp 11) (.tmp 35) ?_ ?_ w6 w6.heap.size ?_ pid ?_ _ _ dM ?_ dL (aI _) ?_);rfl;rfl;rfl;rfl;rfl;intro wH mO yj om su Cm))
  have KX:=ah (aeC.out.trans mO);have Uj:=ah (fun W (he:Ext wH W)=>su.ext he (ay om));have HlO:=ah (ay om);have Nb:=ah (mG.out.trans KX.out);have Uv:=ah (mg.out.trans KX.out);have asw:=ah ((Nb.out.block (ay jI.out)).trans jI.out);have ahf:=ah (dO.out wH Nb.out);have ahg:=ah (iT.out wH Nb.out);have HDd:=ah ((HD.out.ext Uv.out).add (b:=w.heap.size+3) (r:=dU) asw.out)
  have Hwo:=ah (J3 (oL d (w.heap.size+3)) u r xr.id wH HDd.out.lt (jN.out wH Uv.out (by omega)) fI.out H2.out (fun p j hp y hy he=>by
   rw[wZ Hnd.out hy hp.mem he];exact hp.lt))
  clear dL fF dM mO yj om su Cm HDd;go_wp2_with (first|((with_reducible refine au aj (.tmp 3) ?_ ?_ ?_ w.heap.size 0 ?_ r ?_ ?_);rfl;rfl;rfl;rfl;exact ahf.out)|(refine fV rfl 30 0 (.tmp 4) rfl _ underlying30 _ rfl 3 sizeOf26 (by decide) (w.heap.size+1) 0 rfl ?_)|((with_reducible refine au aM (.tmp 39) ?_ ?_ ?_ (w.heap.size+1) 0 ?_ xr.id ?_ ?_);rfl;rfl;rfl;rfl;exact ahg.out))
  refine Hwo.out.mono ?_;rintro e w8 ⟨q0,k0,rr,rfl,jL,hp0,hrr⟩;obtain⟨rest,hrest⟩:=aH (fZ q0.id (fun y=>y.dJ (y.kids.eraseIdx k0)) u);rw[hrest]at hrr;have Hp0:=ah hp0;have agA:=ah hrest;have hro:dI rest:=by rw[<-hrest];exact ab9 (iI.strike (Qf fI.out Hnd.out) hp0.mem hp0.lt (fun c m hc _=>hc)).1
  have Hro:=ah hro;have KJ:=ah (show∀y∈bO rest,y.id=p->j<=y.kids.length from by rw[<-hrest];exact aeK Hnd.out fI.out JF.out hp0);have Hrr:=ah (fun W (he:Ext w8 W)=>Reads.cin (aZ.ext (p:=oL d (w.heap.size+3)) he) rest rr hrr);have aeD:=ah jL;have asg:wH.heap.size<=w8.heap.size:=jL.size;clear hp0 hrest hro hrr jL Hwo ahf ahg;go_upto_region 6 with(first|(refine aL aj rfl rfl fun wK Ue hzK Uf=> ?_)|((refine aD aj (.tmp 14) (.tmp 41) ?_ ?_ w8 w8.heap.size ?_ rr ?_ _ _ Uf ?_ Ue (aI _) ?_);rfl;rfl;rfl;rfl;rfl;intro wL uw TB Ca Uw hoL))
  have Ux:=ah uw;have Ad:=ah (aeD.out.trans uw);have KY:=ah (fun W (he:Ext wL W)=>Uw.ext he (ay Ca));have HlK:=ah (ay Ca);have HDL:=ah (Nb.out.trans Ad.out);have HwL:=ah (Uv.out.trans Ad.out);have H5L:=ah (KX.out.trans Ad.out);have E9:=ah (CY rest rr p wL (Reads.cin (aZ.iV _ _) _ _ (Hrr.out wL uw)) Hro.out);have Nc:=ah (KY.out wL (Ext.refl _));have ahi:=ah (KW.out.ext H5L.out (by omega));clear Ue hzK Uf uw TB Ca Uw hoL;go_wp2_with (first|((with_reducible refine au aj (.tmp 14) ?_ ?_ ?_ w8.heap.size 0 ?_ rr ?_ ?_);rfl;rfl;rfl;rfl;exact Nc.out)|((with_reducible refine au aM (.tmp 8) ?_ ?_ ?_ w2.heap.size 0 ?_ p ?_ ?_);rfl;rfl;rfl;rfl;exact ahi.out))
  refine E9.out.mono ?_;rintro e uT ⟨yZ,hres⟩
  obtain⟨pu,pr,pb2,rfl,J6,hpo⟩:∃(pu:av) (pr:aB) (pb2:Bool),e=.returned (.tuple #[.agg pr.cells.toArray,.bool pb2])/\Reads uT pu pr/\dI pu:=by
   cases Ur:findF p rest with
   |none=>
    rw[Ur]at hres;exact⟨nQ,dU,false,hres,yB _,Oi⟩
   |some pu=>
    rw[Ur]at hres;obtain⟨r',h1,h2⟩:=hres;exact⟨pu,r',true,h1,Reads.cin (aZ.iV _ _) _ _ h2,Hro.out.pre (rC p rest pu Ur).2⟩
  have Hpu:=ah J6;have LD:=ah hpo;have zy:=ah yZ;have avD:wL.heap.size<=uT.heap.size:=yZ.size;clear hres J6 hpo yZ E9 Nc ahi;go_upto_region 7 with(first|(refine aL aj rfl rfl fun wM hxM hzM hkM=> ?_)|((refine aD aj (.tmp 15) (.tmp 46) ?_ ?_ uT uT.heap.size ?_ pr ?_ _ _ hkM ?_ hxM (aI _) ?_);rfl;rfl;rfl;rfl;rfl;intro wN hxN hzN hkN alZ hoN))
  have IJ:=ah (zy.out.trans hxN);have al0:=ah (fun W (he:Ext wN W)=>alZ.ext he (ay hkN));have HlM:=ah (ay hkN);have HDN:=ah (HDL.out.trans IJ.out);have HwN:=ah (HwL.out.trans IJ.out);have H5N:=ah (H5L.out.trans IJ.out);have HHN:=ah (Ad.out.trans IJ.out);have mV:=ah (Ie pu x pr xr wN (HT.out.ext HwN.out) (Reads.ext hxN _ _ Hpu.out) (S9.out wN HwN.out) LD.out);have ahj:=ah (al0.out wN (Ext.refl _));have ahk:=ah (qV.out wN HDN.out);clear hxM hzM hkM hxN hzN hkN alZ hoN;go_wp2_with (first|((with_reducible refine au aj (.tmp 15) ?_ ?_ ?_ uT.heap.size 0 ?_ pr ?_ ?_);rfl;rfl;rfl;rfl;exact ahj.out)|((with_reducible refine au aj (.tmp 4) ?_ ?_ ?_ (w.heap.size+1) 0 ?_ xr ?_ ?_);rfl;rfl;rfl;rfl;exact ahk.out))
  refine mV.out.mono ?_;rintro e Aq ⟨E2,rfl,-,Fa⟩;have UG:=ah Fa;have YW:=ah (HDN.out.trans Fa);have YX:=ah (HwN.out.trans Fa);have al2:=ah (H5N.out.trans Fa);have anC:=ah ((YW.out.block (ay jI.out)).trans jI.out);have al3:=ah (dO.out Aq YW.out);clear Fa mV ahj ahk;by_cases hE2:E2=0
  ·have d1:(E2 !=0)=false:=by simp[hE2]
   clear hE2;go_upto_region 10 with fail
   go_cut [69] (fun s69 wx=>(∃Uz,wx=Uz/\Ext Aq Uz)/\∃bb:Bool,s69=.bool bb)
   case first=>
    obtain⟨b1,hb1⟩:=aH ((!decide (p=pid)));have hne:∀W,(binOp .neq 26 (.agg (aM.E p).toArray) (.agg (aM.E pid).toArray)).run prog W=.ok (.bool b1) W:=fun W=>(agO p pid W).trans (by rw[hb1]);have c7:Aq.cell? ⟨uT.heap.size,7,none⟩=some (.slice pr.kA pr.kn pr.kc):=by simpa using(al0.out Aq UG.out).one 7 (u:=.slice pr.kA pr.kn pr.kc) rfl
    obtain⟨b2,hb2⟩:=aH (decide (((pr.kn:Nat):Int)≥64));have hb3:decide (64<=pr.kn)=b2:=by rw[<-hb2];congr 1;apply propext;omega
    have hb4:decide ((64:Int)<=((pr.kn:Nat):Int))=b2:=hb2;have IK:=ah (KW.out.ext al2.out (by omega));have UH:=ah (Uj.out Aq (HHN.out.trans UG.out));have Nh:=ah (KY.out Aq (IJ.out.trans UG.out));have acf:=ah (qV.out Aq YW.out);have Nf:=ah (RX rest x rr xr p Aq (Reads.cin (aZ.iV _ _) _ _ (Hrr.out Aq (Ux.out.trans (IJ.out.trans UG.out)))) Hro.out (S9.out Aq YX.out) Hxo.out);clear hb1;cases b1 with
    |true=>
     cases b2 with
     |true=>
      go_wp2_with (first|((with_reducible refine au aM (.tmp 8) ?_ ?_ ?_ w2.heap.size 0 ?_ p ?_ ?_);rfl;rfl;rfl;rfl;exact IK.out)|((with_reducible refine au aM (.tmp 11) ?_ ?_ ?_ w6.heap.size 0 ?_ pid ?_ ?_);rfl;rfl;rfl;rfl;exact UH.out))
      go_meet
      case rel=>exact⟨⟨_,rfl,Ext.refl _⟩,_,rfl⟩
     |false=>
      go_wp2_with (first|((with_reducible refine au aM (.tmp 8) ?_ ?_ ?_ w2.heap.size 0 ?_ p ?_ ?_);rfl;rfl;rfl;rfl;exact IK.out)|((with_reducible refine au aM (.tmp 11) ?_ ?_ ?_ w6.heap.size 0 ?_ pid ?_ ?_);rfl;rfl;rfl;rfl;exact UH.out)|((with_reducible refine au aj (.tmp 14) ?_ ?_ ?_ w8.heap.size 0 ?_ rr ?_ ?_);rfl;rfl;rfl;rfl;exact Nh.out)|((with_reducible refine au aM (.tmp 8) ?_ ?_ ?_ w2.heap.size 0 ?_ p ?_ ?_);rfl;rfl;rfl;rfl;exact IK.out)|((with_reducible refine au aj (.tmp 4) ?_ ?_ ?_ (w.heap.size+1) 0 ?_ xr ?_ ?_);rfl;rfl;rfl;rfl;exact acf.out))
      refine Nf.out.mono ?_;rintro e Uz ⟨b,rfl,-,vZ⟩;go_wp2_with fail
      go_meet
      case rel=>exact⟨⟨_,rfl,vZ⟩,_,rfl⟩
    |false=>
     go_wp2_with (first|((with_reducible refine au aM (.tmp 8) ?_ ?_ ?_ w2.heap.size 0 ?_ p ?_ ?_);rfl;rfl;rfl;rfl;exact IK.out)|((with_reducible refine au aM (.tmp 11) ?_ ?_ ?_ w6.heap.size 0 ?_ pid ?_ ?_);rfl;rfl;rfl;rfl;exact UH.out)|((with_reducible refine au aj (.tmp 14) ?_ ?_ ?_ w8.heap.size 0 ?_ rr ?_ ?_);rfl;rfl;rfl;rfl;exact Nh.out)|((with_reducible refine au aM (.tmp 8) ?_ ?_ ?_ w2.heap.size 0 ?_ p ?_ ?_);rfl;rfl;rfl;rfl;exact IK.out)|((with_reducible refine au aj (.tmp 4) ?_ ?_ ?_ (w.heap.size+1) 0 ?_ xr ?_ ?_);rfl;rfl;rfl;rfl;exact acf.out))
     refine Nf.out.mono ?_;rintro e Uz ⟨b,rfl,-,vZ⟩;go_wp2_with fail
     go_meet
     case rel=>exact⟨⟨_,rfl,vZ⟩,_,rfl⟩
   case rest=>
    obtain⟨⟨Uz,rfl,vZ⟩,bb,rfl⟩:=hcut;have al4:=ah (UG.out.trans vZ);have aeL:=ah (YW.out.trans vZ);have UJ:=ah (YX.out.trans vZ);have aeM:=ah (al2.out.trans vZ);have QN:=ah ((aeL.out.block (ay jI.out)).trans jI.out);have al5:=ah (dO.out wc aeL.out);clear vZ;cases bb with
    |true=>
     have anD:=QN.out;have asx:=UJ.out;go_wp2_with (first|((with_reducible refine au aj (.tmp 3) ?_ ?_ ?_ w.heap.size 0 ?_ r ?_ ?_);rfl;rfl;rfl;rfl;exact al5.out)|((refine aD aj (.tmp 6) (.tmp 70) ?_ ?_ w (w.heap.size+3) ?_ r ?_ _ _ anD ?_ asx (by omega) ?_);rfl;rfl;rfl;rfl;rfl;intro w9 ko qp oI sZ qQ))
     refine bodyPost_ret (dA rfl _ _ (w.heap.size+3) r rfl oI) rfl ?_;exact⟨u,r,6,rfl,ko,Reads.cin (aZ.light qp qQ) _ _ (jN.out wc UJ.out (by omega)),(fun h=>by cases h),fun _=>rfl⟩
    |false=>
     have HD5:=ah ((HD.out.ext UJ.out).add (b:=w.heap.size+3) (r:=dU) QN.out);have hcJ:wc.cell? ⟨w2.heap.size+1,0,none⟩=some (.int .i64 (j:Nat)):=(aeM.out.cell (p:=⟨w2.heap.size+1,0,none⟩) (by show w2.heap.size+1<w5.heap.size;omega)).trans HcJ.out;have ow:=ah (vP (oL d (w.heap.size+3)) rest rr p wc (fun _ _=>rfl) (ahS (w2.heap.size+1) (w.heap.size+1) j x xr wc _ (by have:=aeM.out.size;omega) hcJ (HkX.out wc aeL.out) (alW.out wc UJ.out (by omega))) HD5.out.lt (Hrr.out wc (Ux.out.trans (IJ.out.trans al4.out))) Hro.out KJ.out);have al6:=ah (KW.out.ext aeM.out (by omega));have al7:=ah (KY.out wc (IJ.out.trans al4.out));clear hcJ;go_wp2_with (first|((with_reducible refine au aj (.tmp 14) ?_ ?_ ?_ w8.heap.size 0 ?_ rr ?_ ?_);rfl;rfl;rfl;rfl;exact al7.out)|((with_reducible refine au aM (.tmp 8) ?_ ?_ ?_ w2.heap.size 0 ?_ p ?_ ?_);rfl;rfl;rfl;rfl;exact al6.out))
     refine ow.out.mono ?_;rintro e w15 ⟨r',rfl,UD,UE⟩;have YV:=(UD.block (ay QN.out)).trans QN.out;have hx16:=UJ.out.trans UD;have aeI:=ah UE;clear ow UE;go_wp2_with ((refine aD aj (.tmp 6) (.tmp 74) ?_ ?_ w (w.heap.size+3) ?_ r' ?_ _ _ YV ?_ hx16 (by omega) ?_);rfl;rfl;rfl;rfl;rfl;intro wW UF hzW hkW Cj hoW)
     refine bodyPost_ret (dA rfl _ _ (w.heap.size+3) r' rfl hkW) rfl ?_;exact⟨_,r',0,rfl,UF,Reads.cin (aZ.light hzW hoW) _ _ aeI.out,fun _=>⟨p,q0,j,k0,Hp0.out,by rw[agA.out]⟩,fun h=>absurd rfl h⟩
  ·have d1:(E2 !=0)=true:=by simpa using hE2
   have HEn:=ah hE2;have anE:=anC.out;have anF:=YX.out;clear hE2;go_wp2_with (first|((with_reducible refine au aj (.tmp 3) ?_ ?_ ?_ w.heap.size 0 ?_ r ?_ ?_);rfl;rfl;rfl;rfl;exact al3.out)|((refine aD aj (.tmp 6) (.tmp 53) ?_ ?_ w (w.heap.size+3) ?_ r ?_ _ _ anE ?_ anF (by omega) ?_);rfl;rfl;rfl;rfl;rfl;intro w9 ko qp oI sZ qQ))
   refine bodyPost_ret (dA rfl _ _ (w.heap.size+3) r rfl oI) rfl ?_;exact⟨u,r,E2,rfl,ko,Reads.cin (aZ.light qp qQ) _ _ (jN.out Aq YX.out (by omega)),(fun h=>absurd h HEn.out),fun _=>rfl⟩
 ·have d0:(E !=0)=true:=by simpa using hE
  have HE:=ah hE;have Cr:=Ct.out;have aeJ:=mg.out;clear hE;go_wp2_with (first|((with_reducible refine au aj (.tmp 3) ?_ ?_ ?_ w.heap.size 0 ?_ r ?_ ?_);rfl;rfl;rfl;rfl;exact um.out)|((refine aD aj (.tmp 6) (.tmp 28) ?_ ?_ w (w.heap.size+3) ?_ r ?_ _ _ Cr ?_ aeJ (by omega) ?_);rfl;rfl;rfl;rfl;rfl;intro w9 ko qp oI sZ qQ))
  refine bodyPost_ret (dA rfl _ _ (w.heap.size+3) r rfl oI) rfl ?_;exact⟨u,r,E,rfl,ko,Reads.cin (aZ.light qp qQ) _ _ (jN.out w5 mg.out (by omega)),(fun h=>absurd h HE.out),fun _=>rfl⟩
theorem WS{u x:av}{id:bf}(hx:findF id u=some x)(hne:id≠u.id):2<=(cZ id u).length:=by
 unfold findF at hx;rw[Bj,aU (fun h=>hne h.symm)]at hx⊢
 split at hx
 ·cases hx
 ·rename_i h
  rw[aU h];have:=List.length_pos_iff.2 h;simp only[iX];omega
def doL:List (Int×Nat):=[(0,63),(1,64),(2,65),(3,66),(4,67),(5,68),(6,69)]
def F6(k:Int):Option Nat:=assoc doL k
theorem UK{k:Int}{F:Nat}(h:F6 k=some F):(k=0/\F=63)∨(k=1/\F=64)∨(k=2/\F=65)∨(k=3/\F=66)∨(k=4/\F=67)∨(k=5/\F=68)∨(k=6/\F=69):=by
 unfold F6 doL at h;simp only[assoc]at h;by_cases h0:k=0
 ·subst h0;left;exact⟨rfl,by simpa using h.symm⟩
 by_cases h1:k=1
 ·subst h1;right;left;exact⟨rfl,by simpa using h.symm⟩
 by_cases h2:k=2
 ·subst h2;right;right;left;exact⟨rfl,by simpa using h.symm⟩
 by_cases h3:k=3
 ·subst h3;right;right;right;left;exact⟨rfl,by simpa using h.symm⟩
 by_cases h4:k=4
 ·subst h4;right;right;right;right;left;exact⟨rfl,by simpa using h.symm⟩
 by_cases h5:k=5
 ·subst h5;right;right;right;right;right;left;exact⟨rfl,by simpa using h.symm⟩
 by_cases h6:k=6
 ·subst h6;right;right;right;right;right;right;exact⟨rfl,by simpa using h.symm⟩
 ·simp[h0,h1,h2,h3,h4,h5,h6]at h
theorem al8{k:Int}{F:Nat}(h:F6 k=some F):∀args w,(callFunc F args).run prog w=.ok (.enter F args) w:=fun _ _=>by
 rcases UK h with⟨-,rfl⟩|⟨-,rfl⟩|⟨-,rfl⟩|⟨-,rfl⟩|⟨-,rfl⟩|⟨-,rfl⟩|⟨-,rfl⟩<;>rfl
structure anG (ds:List dn) (n:Nat) (u:av) (dd:dn) (w:World) (u':av):Prop where
 book:gD ds (n+30) u'
 ins:dd.it.x.kind=0->Oj u dd w->u'=u.dJ [(gK dd.act dd.item dd.it.x.unit 1 0).1]
 rep:dd.it.x.kind=1->∀x,iO u dd.it.x.at_=[x]->x.id≠u.id->∃p j,pF x.id u p j/\u'=fZ p.id (fun y=>y.dJ (y.kids.eraseIdx j)) u
theorem aeN(d:Nat->Bool)(ds:List dn)(n F:Nat)(u x y0:av)(r xr:aB)(dd:dn)(q:dY)(w:World)(hD:lG d w)(hr:Reads (mask d w) u r)(hI:gD ds n u)(hn:n+30<=1000)(hdd:dd∈ds)(hq:fH w dd q)(hi:lu dd.it)(hT:kN w)
 (hF:F6 dd.it.x.kind=some F) (hx:Reads (mask d w) x xr) (Qg:findF xr.id u=some x) (hfa:iO u dd.it.x.at_=[y0]) (hy0:y0.id=xr.id) (hne:dd.it.x.kind=0∨xr.id≠u.id):
 Calls prog F #[.agg r.cells.toArray,.agg xr.cells.toArray,.agg q.cells.toArray] w (uj d (fun u' _=>anG ds n u dd w u') w):=by
 have hok:dI u:=hI.ok (by omega);have hnd:(kW (dN u)).Nodup:=hI.ids;have hxm:=rC xr.id u x Qg;have hxo:dI x:=hok.pre hxm.2;have al9:xr.id=x.id:=hxm.1.symm;have hmono:gD ds (n+30) u:=hI.mono (by omega);have hins:∀s∈dd.it.x.iE,s.size<=100:=hi.one.ns;have av5:∀(P:Prop),¬dd.it.x.kind=1->dd.it.x.kind=1->P:=fun P h1 h2=>absurd h2 h1;have avE:dd.it.x.kind≠1->(dd.it.x.kind=1->∀x,iO u dd.it.x.at_=[x]->x.id≠u.id->∃p j,pF x.id u p j/\u=fZ p.id (fun y=>y.dJ (y.kids.eraseIdx j)) u):=fun h1 h2=>absurd h2 h1;rcases UK hF with⟨hk,rfl⟩|⟨hk,rfl⟩|⟨hk,rfl⟩|⟨hk,rfl⟩|⟨hk,rfl⟩|⟨hk,rfl⟩|⟨hk,rfl⟩
 ·refine(VO d u r xr dd q w hD hr hok hq hi hnd hT hk).mono ?_
  rintro e w' ⟨u',r',E,rfl,hx',hr',h0,h1,h2⟩;refine⟨u',r',E,rfl,hx',hr',?_⟩;by_cases hE:E=0
  ·obtain⟨p,j,hu,asz,hex⟩:=h0 hE
   have hz:gD ds 30 (gK dd.act dd.item dd.it.x.unit 1 0).1:=by
    have h:=abZ hdd hk (fun y hy=>(dI.pre (Bu (m:=30) (by decide) (by decide) hi.one.u) hy).all.head);exact iI.mono h (by have:=Ny (m:=30) (by decide) hi.one.u;omega)
   refine⟨?_,fun _ hX=> ?_,fun h=>absurd (hk.symm.trans h) (by decide)⟩
   ·rw[hu]
    exact gD.put hI hz asz
   ·obtain⟨hp,hj⟩:=hex hX
    rw[hu,hp,hj,abI,bH rfl,hX.kids];rfl
  ·rw[h1 hE]
   exact⟨hmono,fun _ hX=>absurd (h2 hX) hE,fun h=>absurd (hk.symm.trans h) (by decide)⟩
 ·have h2:=WS Qg (by rcases hne with h|h;rw[hk]at h;cases h;exact h)
  refine(VN d u r xr dd q w hD hr hok hq hi hnd h2).mono ?_;rintro e w' ⟨u',r',E,rfl,hx',hr',-,p,j,hp,hu⟩;refine⟨u',r',E,rfl,hx',hr',?_,fun h=>absurd (hk.symm.trans h) (by decide),fun _ x1 hx1 _=> ?_⟩
  ·rw[hu]
   exact(gD.strike hI hp.mem hp.lt).mono (by omega)
  ·rw[hfa]at hx1
   simp only[List.cons.injEq,and_true]at hx1;subst hx1;exact⟨p,j,by rw[hy0];exact hp,hu⟩
 ·refine(YN d u r xr dd q w hD hr hok hq hi x hx hxo.all.head.2.2.1).mono ?_
  rintro e w' ⟨u',r',E,rfl,hx',hr',h0,h1⟩;refine⟨u',r',E,rfl,hx',hr',?_,fun h=>absurd (hk.symm.trans h) (by decide),fun h=>absurd (hk.symm.trans h) (by decide)⟩;by_cases hE:E=0
  ·rw[h0 hE,al9]
   exact(gD.kV hI hdd (by unfold jQ;rw[aU (by rw[hk];decide),bH (.inl hk)]) hins hxm.2 (abX _ _ _ _ _ _)).mono (by omega)
  ·rw[h1 hE];exact hmono
 ·refine(aey d u r xr dd q w hD hr hok hq hi x hx hxo.all.head.2.2.1).mono ?_
  rintro e w' ⟨u',r',E,rfl,hx',hr',h0,h1⟩;refine⟨u',r',E,rfl,hx',hr',?_,fun h=>absurd (hk.symm.trans h) (by decide),fun h=>absurd (hk.symm.trans h) (by decide)⟩;by_cases hE:E=0
  ·rw[h0 hE,al9]
   exact(gD.kV hI hdd (by unfold jQ;rw[aU (by rw[hk];decide),bH (.inr (.inl hk))]) hins hxm.2 (abY _ _ _ _ _ _)).mono (by omega)
  ·rw[h1 hE];exact hmono
 ·refine(ab2 d u r xr dd q w hD hr hok hq hi).mono ?_
  rintro e w' ⟨u',r',E,rfl,hx',hr',-,hu⟩;refine⟨u',r',E,rfl,hx',hr',?_,fun h=>absurd (hk.symm.trans h) (by decide),fun h=>absurd (hk.symm.trans h) (by decide)⟩;rw[hu];exact(gD.setHead hI hdd (by unfold jQ;rw[aU (by rw[hk];decide),bH (.inr (.inr hk))]) hins hi.one.n _).mono (by omega)
 ·refine(Uq d u r xr dd q w hD hr hok hq hi x hx hT).mono ?_
  rintro e w' ⟨u',r',E,rfl,hx',hr',h0,h1⟩;refine⟨u',r',E,rfl,hx',hr',?_,fun h=>absurd (hk.symm.trans h) (by decide),fun h=>absurd (hk.symm.trans h) (by decide)⟩;by_cases hE:E=0
  ·rw[h0 hE]
   exact(gD.kH hI hi.one.l _).mono (by omega)
  ·rw[h1 hE];exact hmono
 ·have h2:=WS Qg (by rcases hne with h|h;rw[hk]at h;cases h;exact h)
  refine(acd d u r xr dd q w hD hr hok hq hi x hx hxo hnd hT hk h2 ⟨y0,hfa,hy0⟩).mono ?_;rintro e w' ⟨u',r',E,rfl,hx',hr',h0,h1⟩;refine⟨u',r',E,rfl,hx',hr',?_,fun h=>absurd (hk.symm.trans h) (by decide),fun h=>absurd (hk.symm.trans h) (by decide)⟩;by_cases hE:E=0
  ·obtain⟨p,q2,j,k,hq2,hu⟩:=h0 hE
   have ama:=hq2.kid.1;rw[Qg]at ama;have hxx:x=q2.kids[k]'hq2.lt:=lM ama;rw[hu,hxx];exact(gD.move hI hq2.mem hq2.lt).mono (by omega)
  ·rw[h1 hE];exact hmono
theorem acg(w:World):Calls prog 52 #[] w fun e w'=>∃B,e=.returned (.map (some B))/\iG (fun x:Int=>Value.int .i64 x) dZ B w' doL/\Ext w w':=by
 have hmm:= @run_makeMap prog;have hx0:Ext w (w.alloc (.map #[] 0)):=(Ext.refl w).alloc _;go_enter func52,ntmps52
 go_wp2_with (first|(refine fG (K:=fun x:Int=>Value.int .i64 x) (V:=dZ) (.tmp 1) (.const (.int .i64 0)) (.func 63) rfl jg underlying121 rfl (iG.made w) rfl 0 rfl 63 rfl ?_;intro w0 hM0 hb0 hs0 hos0 UL UM;have aeO:=Ext.put hx0 (b:=w.heap.size) (aI _) hb0 hos0 UL UM hs0;clear hb0 hos0 UL UM hs0)|(refine fG (K:=fun x:Int=>Value.int .i64 x) (V:=dZ) (.tmp 1) (.const (.int .i64 1)) (.func 64) rfl jg underlying121 rfl hM0 rfl 1 rfl 64 rfl ?_;intro w1 hM1 hb1 hs1 BA BD BF;have aeP:=Ext.put aeO (b:=w.heap.size) (aI _) hb1 BA BD BF hs1;clear hb1 BA BD BF hs1)|(refine fG (K:=fun x:Int=>Value.int .i64 x) (V:=dZ) (.tmp 1) (.const (.int .i64 2)) (.func 65) rfl jg underlying121 rfl hM1 rfl 2 rfl 65 rfl ?_;intro w2 hM2 hb2 hs2 uD uE uF;have aeQ:=Ext.put aeP (b:=w.heap.size) (aI _) hb2 uD uE uF hs2;clear hb2 uD uE uF hs2)|(refine fG (K:=fun x:Int=>Value.int .i64 x) (V:=dZ) (.tmp 1) (.const (.int .i64 3)) (.func 66) rfl jg underlying121 rfl hM2 rfl 3 rfl 66 rfl ?_;intro w3 hM3 hb3 hs3 gQ gT gU;have aeR:=Ext.put aeQ (b:=w.heap.size) (aI _) hb3 gQ gT gU hs3;clear hb3 gQ gT gU hs3)|(refine fG (K:=fun x:Int=>Value.int .i64 x) (V:=dZ) (.tmp 1) (.const (.int .i64 4)) (.func 67) rfl jg underlying121 rfl hM3 rfl 4 rfl 67 rfl ?_;intro w4 Pj hb4 hs4 dP dQ dR;have aeS:=Ext.put aeR (b:=w.heap.size) (aI _) hb4 dP dQ dR hs4;clear hb4 dP dQ dR hs4)|(refine fG (K:=fun x:Int=>Value.int .i64 x) (V:=dZ) (.tmp 1) (.const (.int .i64 5)) (.func 68) rfl jg underlying121 rfl Pj rfl 5 rfl 68 rfl ?_;intro w5 FQ hb5 hs5 nu ny nD;have aeT:=Ext.put aeS (b:=w.heap.size) (aI _) hb5 nu ny nD hs5;clear hb5 nu ny nD hs5)|(refine fG (K:=fun x:Int=>Value.int .i64 x) (V:=dZ) (.tmp 1) (.const (.int .i64 6)) (.func 69) rfl jg underlying121 rfl FQ rfl 6 rfl 69 rfl ?_;intro w6 hM6 hb6 hs6 uI uJ uK;have UN:=Ext.put aeT (b:=w.heap.size) (aI _) hb6 uI uJ uK hs6;clear hb6 uI uJ uK hs6))
 go_ret;exact⟨_,rfl,hM6,UN⟩
def ahm:Ty:=⟨fun v w=>∃B,v=.map (some B)/\iG (fun x:Int=>Value.int .i64 x) dZ B w doL,fun _ _ _ he ⟨B,h1,h2⟩=>⟨B,h1,h2.ext he⟩⟩
theorem aeU(w:World):(zeroValue 119).run prog w=.ok .nilFunc w:=by
 have u:=underlying119
 go_simp
def QO(k:Int):Value:=.tuple #[((F6 k).map dZ).getD .nilFunc,.bool (F6 k).isSome]
theorem aeV{ρ:Operand->Value}{o:Oper}{w:World}(m x:Operand)(ho:o.op=.lookup 121 m x true)(hm:ahm.p (ρ m) w)(k:Int)(hx:ρ x=.int .i64 k):bL prog ρ o w (Ty.is (QO k)).p:=by
 obtain⟨B,hB,hM⟩:=hm;have hb:=hM.look jg underlying121 .nilFunc (aeU w) k true;simp only[if_true]at hb;refine eT (w':=w) (v:=QO k) ?_ (Ext.refl _) rfl;simp only[execOp,ho,hB,hx];simp only[Sem.run_bind,hb,Result.andThen_ok,Sem.run_pure];rfl
end Go.Proofs.YtgboomjahhnldaaGreatDoor
