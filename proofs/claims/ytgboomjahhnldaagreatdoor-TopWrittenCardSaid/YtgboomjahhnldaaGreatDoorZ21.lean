/- A part of the proof of TopWritten, printed small: TDeeds TPlainA Kind8 TOnA. -/
import Derived.Test.YtgboomjahhnldaaGreatDoorZ20
import Derived.Test.YtgboomjahhnldaaGreatDoorZ12
import Derived.Lib.ConvBytes
import Derived.Test.YtgboomjahhnldaaGreatDoorZ16
set_option maxRecDepth 100000
set_option maxHeartbeats 25600000
set_option linter.all false
namespace Go.Proofs.YtgboomjahhnldaaGreatDoor
open Go.Proofs.Tryz Go.RowKit
section
variable {P:Program} {w:World} {ops:Array Oper} {rest:List Oper} {o:Oper} {a:Act} {Q:Exit->Act->World->Prop}
theorem wpList_build(t:TypeId)(ps:List (Nat×Operand))(ho:o.op=.build t ps.toArray)(hw:Region.wanted o (yielded ops a.tmps)=true)(qs:List (Nat×Value))(hv:vL a.eval ps qs)(c:Value)(hr:(Instr.build t qs.toArray).run P w=.ok c w)
 (h:wpList P ops Q rest (a.put o.dst c) w):wpList P ops Q (o::rest) a w:=by
 refine wpList_want hw fun K hK=> ?_;have hm:=hv.map;unfold Oper.wp;simp only[execOp,ho,List.map_toArray,hm];simp only[Sem.run_bind,hr,Result.andThen_ok,Sem.run_pure];exact hK _ _ h
end
def nP:bE:=⟨0,none,0,0,none,0,0,0,0,⟨0,0,0,0,ByteArray.empty,none,0,0,none,0,0,none,0,0⟩,none,0,0,none,0,0,ByteArray.empty,ByteArray.empty,0,0,ByteArray.empty,0,0,0,ByteArray.empty,none,0,0⟩
theorem Qu(x y z:Int)(q:bE)(w:World):(Instr.build 44 #[(0,.int .i64 x),(1,.int .i64 y),(2,.int .i64 z),(3,.agg q.cells.toArray)]).run prog w=.ok (.agg (dY.cells ⟨x,y,z,q⟩).toArray) w:=by
 have u:=underlying44;simp only[dY.cells,bE.cells]
 go_simp
def kQ(a:bn):List dn:=a.items.zipIdx.map fun p=>⟨a.number,(p.2:Nat),a.day,p.1⟩
theorem vV(a:bn):(kQ a).length=a.items.length:=by simp[kQ]
theorem aaX{a:bn}{k:Nat}(h:k<a.items.length):(kQ a).take (k+1)=(kQ a).take k++[⟨a.number,(k:Nat),a.day,a.items[k]⟩]:=by
 have hk:k<(kQ a).length:=by rw[vV];exact h
 rw[jk hk]
 congr 1
 simp[kQ]
theorem SH(a:bn)(r:bM)(W0 w:World)(h0:Ext W0 w)(hr:kS W0 a r)(hn:a.items.length<=100):
 Calls prog 21 #[.agg r.cells.toArray] w fun e w'=>∃v xs,e=.returned v/\Ext w w'/\Own bF w.heap.size w' v xs/\fq (fH W0) (kQ a) xs:=by
 obtain⟨OO,Rk,xL⟩:=hr.it;have xK:=ah hr.iN;have Hr:=ah hr;have hlen:=xL.length;have Lu:=ah xL;have Hle:=ah hlen;clear hr xL hlen;go_enter func21,ntmps21
 go_wp2_with ((with_reducible refine aG eB (.tmp 0) ?_ ?_ r ?_ ?_);rfl;rfl;rfl;intro w1 hx1 hz1 hk1 Dj;have KC:=ah Dj;have hl1:=ay hk1;have p0:=Dj.zero (u:=.int .i64 r.number) rfl;have p2:=Dj.one 2 (u:=.int .i64 r.day) rfl;have p6:=Dj.one 6 (u:=.slice r.iA r.iN r.iC) rfl;simp only[bV]at p2 p6;clear Dj hk1 hz1)
 clear p0 p2 p6
 go_loopw [3,9] (fun vo vk wr=>∃(k:Nat) (xs:List dY),k<=a.items.length/\vk=.int .i64 (k:Nat)/\Hid (xs.length=k)/\Own bF w1.heap.size wr vo xs/\Hid (fq (fH W0) ((kQ a).take k) xs)/\Ext w1 wr) (fun _ vk _=>a.items.length-(intOf vk).toNat)
 case atStart=>exact⟨0,[],bI _,rfl,ah rfl,Own.nil _,ah trivial,Ext.refl _⟩
 case round=>
  obtain⟨k,xs,hk,rfl,rA,hown,Hxs,hext⟩:=hrel;by_cases hlt:k<a.items.length
  ·have hkq:k<r.iN:=by have:=xK.out;omega
   have f1:=eY k r.iN;have mP:k<OO.length:=by have:=Hle.out;omega
   have hex:=hx1.trans hext;obtain⟨b,off,hA,hb,hcs⟩:=(Rk.ext (h0.trans hex)).at_ mP;have qZ:=ah ((Lu.out).get k hlt mP);obtain⟨q,hq⟩:=aH (OO[k]);rw[hq]at hcs qZ;have jD:=ah (show At wr b (off+k*25) q.cells from hcs);have Hd:=ah (show fH W0 ⟨a.number,(k:Nat),a.day,a.items[k]⟩ ⟨r.number,(k:Nat),r.day,q⟩from⟨Hr.out.number,rfl,Hr.out.day,qZ.out⟩);have HA:=ah hA;have p0:=(KC.out.ext hext hl1).zero (u:=.int .i64 r.number) rfl;have p2:=(KC.out.ext hext hl1).one 2 (u:=.int .i64 r.day) rfl;simp only[bV]at p2;obtain⟨AO,cO,rfl,-,-⟩:=hown.form;have HO:=ah hown;have hlw:w.heap.size<wr.heap.size:=bQ hl1 hext.size;have hxl:xs.length<=100:=by rw[rA.out];omega
   clear hcs hq hA hown;rw[HA.out];go_wp2_with (first|((with_reducible refine au aT (.tmp 12) ?_ ?_ ?_ b (off+k*25) ?_ q ?_ ?_);rfl;rfl;rfl;rfl;exact jD.out)|((with_reducible refine au aT (.tmp 5) ?_ ?_ ?_ wr.heap.size 0 ?_ q ?_ ?_);rfl;rfl;rfl;rfl;exact jq.out)|(refine aL aT rfl rfl fun w2 hx2 hz2 hk2=> ?_)|((with_reducible refine aD aT (.tmp 5) (.tmp 13) ?_ ?_ wr wr.heap.size ?_ q ?_ _ _ hk2 ?_ hx2 (aI _) ?_);rfl;rfl;rfl;rfl;rfl;intro w3 hx3 hz3 hk3 dX ho3;have jq:=ah dX;have hl3:=ay hk3;have p0b:=(hx3.cell (p:=⟨w.heap.size,0,none⟩) hlw).trans p0;have p2b:=(hx3.cell (p:=⟨w.heap.size,2,none⟩) hlw).trans p2;clear hz3 hk3 dX ho3 hz2 hk2 hx2)|(refine wpList_build 44 [(0,.tmp 16),(1,.tmp 17),(2,.tmp 19),(3,.tmp 20)] rfl rfl [(0,.int .i64 r.number),(1,.int .i64 (k:Nat)),(2,.int .i64 r.day),(3,.agg q.cells.toArray)] ⟨⟨rfl,rfl⟩,⟨rfl,rfl⟩,⟨rfl,rfl⟩,⟨rfl,rfl⟩,trivial⟩ (.agg (dY.cells ⟨r.number,(k:Nat),r.day,q⟩).toArray) (Qu _ _ _ _ _) ?_)|(((with_reducible refine gP bF (.tmp 21) ?_ ?_ (⟨r.number,(k:Nat),r.day,q⟩:dY) (.agg (bF.E (⟨r.number,(k:Nat),r.day,q⟩:dY)).toArray) ?_ ?_ ?_ ?_);rfl;rfl;rfl;rfl;decide;intro w4 hx4 yI Er);have arn:=ah Er;have mM:=ah (hx3.trans hx4);clear Er yI hx4)|(at_builtin;refine fK bF rfl (.tmp 14) (.tmp 22) rfl 1 rfl (HO.out.ext mM.out) rfl arn.out (by simp;omega) (by have:=hext.size;have:=mM.out.size;omega) ?_;intro v5 w5 FT zH hg5;have GN:=ah FT;have mG:=ah ((hext.trans mM.out).trans' zH (aI _));obtain⟨A5,c5,hv5,-,-⟩:=FT.form;subst hv5;clear FT zH hg5))
   have aro:=ah (show fq (fH W0) ((kQ a).take (k+1)) (xs++[⟨r.number,(k:Nat),r.day,q⟩]) by rw[aaX hlt];exact Hxs.out.snoc Hd.out);go_roundw
   case rel=>exact⟨k+1,_,by omega,by go_num,ah (by simp[rA.out]),(by have h:=GN.out;rw[eu]at h;exact h),aro,mG.out⟩
   case measure=>simp[intOf];omega
  ·have f1:decide ((k:Int)<(r.iN:Int))=false:=aY (by have:=xK.out;omega)
   have Wn:decide (k<r.iN)=false:=aY (by have:=xK.out;omega);have HO:=ah hown;obtain⟨AO,cO,rfl,-,-⟩:=hown.form;have EB:=ah (show fq (fH W0) (kQ a) xs by have:=Hxs.out;rwa[gY (by rw[vV];omega)]at this);clear hown;go_wp2;go_ret;exact⟨_,xs,rfl,hx1.trans hext,HO.out.mono hx1.size,EB.out⟩
def fixF(f:Int×Int->Option fM)(d:dn):dn:=match f (d.act,d.item)with
 |some x=>if kT d.it.x.kind then {d with it:=x}else d
 |none=>d
def gq(gs:List jJ):List dn:=((mJ gs).flatMap kQ).map (fixF (EJ (mJ gs)))
theorem Vv(gs:List jJ)(rs:List nX)(A:Option Addr)(c:Nat)(R0 w:World)(hR0:Ext R0 w)(hs:Sl lW R0 A rs)(hall:fq (jZ R0) gs rs)(hok:rF gs 24)(hA:(mJ gs).length<=64)(hi:∀a∈mJ gs,a.items.length<=24):
 Calls prog 8 #[.slice A rs.length c] w fun e w'=>∃v xs,e=.returned v/\Ext w w'/\Own bF w.heap.size w' v xs/\fq (fH R0) (gq gs) xs:=by
 have uo:=ah (SG gs rs A c R0 w hR0 hs hall hok);obtain⟨acts,EK⟩:=aH (mJ gs);have HE:=ah (show gq gs=(acts.flatMap kQ).map (fixF (EJ acts)) by unfold gq;rw[EK]);rw[EK]at uo hA hi;have Hi:=ah hi;clear hs hall hok EK hi;go_enter func8,ntmps8
 go_wp2_with fail
 refine(uo.out).mono ?_;rintro e w1 ⟨v1,ra,rfl,hx1,CP,QF⟩;have hlen:=QF.length;obtain⟨A1,c1,rfl,hc1,hsl1⟩:=CP.form;have hco:=adP acts ra A1 c1 R0 w1 (hR0.trans hx1) hsl1 QF (by omega) (fun a ha=>by have:=Hi.out a ha;omega);rw[hlen]at hco;have Hco:=ah hco;clear hco;have agc:=ah QF;have arp:=ah hsl1;clear CP QF hsl1 uo;go_wp2_with fail
 refine(Hco.out).mono ?_;rintro e w2 ⟨M,rfl,hM,oG⟩;have hx2:=oG.ext;obtain⟨lm,hlm,hrl,hfl⟩:=oG.map;have Hlm:=ah hlm;have Hrl:=ah hrl;have WE:=ah hfl;obtain⟨CF,hCF⟩:=aH (EJ acts);rw[hCF]at HE WE;clear oG hlm hrl hfl Hco hCF;go_wp2
 go_loopw [3,18] (fun vo vk wr=>∃(k:Nat) (xs:List dY),k<=acts.length/\vk=.int .i64 (k:Nat)/\Hid (xs.length<=24*k)/\Own bF w2.heap.size wr vo xs/\Hid (fq (fH R0) (((acts.take k).flatMap kQ).map (fixF CF)) xs)/\Ext w2 wr) (fun _ vk _=>acts.length-(intOf vk).toNat)
 case atStart=>exact⟨0,[],bI _,rfl,ah (by simp),Own.nil _,ah (by simp[fq]),Ext.refl _⟩
 case round=>
  obtain⟨k,xs,hk,rfl,rA,hown,Hxs,hext⟩:=hrel;by_cases hlt:k<acts.length
  ·have f1:=eY k acts.length
   have mP:k<ra.length:=by omega
   have hkr:k<acts.length:=hlt;have aj0:=hx2.trans hext;obtain⟨b,off,hA,hb,hcs⟩:=(arp.out.ext aj0).at_ mP;have qZ:=ah (((agc.out).get k hlt mP).ext (hR0.trans (hx1.trans aj0)));have hin:=Hi.out _ (dW hlt)
   have mV:=ah (show((acts.take (k+1)).flatMap kQ).map (fixF CF)=((acts.take k).flatMap kQ).map (fixF CF)++(kQ acts[k]).map (fixF CF) by
    rw[jk hlt,List.flatMap_append,List.map_append];simp)
   obtain⟨a,ha⟩:=aH (acts[k]);rw[ha]at qZ hin mV;obtain⟨p,hp⟩:=aH (ra[k]);rw[hp]at hcs qZ;have jD:=ah (show At wr b (off+k*7) p.cells from hcs);have HA:=ah hA;have Kn:=ah (show kS R0 a p by have:=((agc.out).get k hlt mP);rw[ha,hp]at this;exact this);obtain⟨AO,cO,rfl,-,-⟩:=hown.form;have HO:=ah hown;clear hcs hp ha hA hown;rw[HA.out];go_wp2_with (first|((with_reducible refine au eB (.tmp 20) ?_ ?_ ?_ b (off+k*7) ?_ p ?_ ?_);rfl;rfl;rfl;rfl;exact jD.out)|(refine aL eB rfl rfl fun wA aR bG bB=> ?_)|((with_reducible refine aD eB (.tmp 7) (.tmp 21) ?_ ?_ wr wr.heap.size ?_ p ?_ _ _ bB ?_ aR (aI _) ?_);rfl;rfl;rfl;rfl;rfl;intro w3 hx3 hz3 hk3 dX ho3;have jq:=ah dX;have hl3:=ay hk3;clear hz3 hk3 dX ho3 bG bB aR)|((with_reducible refine au eB (.tmp 7) ?_ ?_ ?_ wr.heap.size 0 ?_ p ?_ ?_);rfl;rfl;rfl;rfl;exact jq.out))
   have Hde:=ah (SH a p R0 w3 ((hR0.trans (hx1.trans hx2)).trans (hext.trans hx3)) Kn.out (by omega));refine(Hde.out).mono ?_;rintro e w4 ⟨v4,xd,rfl,hx4,hO4,Yg⟩;have hl4:=Yg.length;rw[vV]at hl4;obtain⟨A4,c4,rfl,-,-⟩:=hO4.form;have O5:=ah hO4;have Z0:=ah (show∀g,(Value.slice AO xs.length cO).ownBlock=some g->(Value.slice A4 xd.length c4).ownBlock≠some g from fun g h1 h2=>by have:=(HO.out.lt g h1).2;have:=(hO4.lt g h2).1;have:=hx3.size;omega);have ang:=ah Yg;have mM:=ah ((hext.trans hx3).trans hx4);have Hl4:=ah hl4;have hxd:xd.length<=24:=by omega
   clear hO4 Yg Hde hl4;go_wp2
   go_loopw [3,25] (fun vo vj wr=>∃(j:Nat) (ys:List dY),j<=xd.length/\vj=.int .i64 (j:Nat)/\Hid (ys.length=xs.length+j)/\Own bF w2.heap.size wr vo ys/\Hid (fq (fH R0) (((acts.take k).flatMap kQ).map (fixF CF)++((kQ a).take j).map (fixF CF)) ys)/\Ext w2 wr/\Hid (Own bF w3.heap.size wr (.slice A4 xd.length c4) xd)/\Hid (∀g,vo.ownBlock=some g->(Value.slice A4 xd.length c4).ownBlock≠some g)) (fun _ vj _=>xd.length-(intOf vj).toNat)
   case atStart=>exact⟨0,xs,bI _,rfl,ah rfl,HO.out.ext (hx3.trans hx4),ah (by simpa using Hxs.out),mM.out,O5,Z0⟩
   case round=>
    obtain⟨j,ys,hj,rfl,GQ,hown2,DY,kZ,Dl,NT⟩:=hrel;by_cases hlt2:j<xd.length
    ·have f2:=eY j xd.length
     have hja:j<(kQ a).length:=by rw[vV,<-Hl4.out];exact hlt2
     obtain⟨A4',c4',hv4,-,Er⟩:=Dl.out.form;injection hv4 with arq ars aru;subst arq aru;obtain⟨b2,off2,hA2,hb2,hds⟩:=Er.at_ hlt2;have FU:=ah ((ang.out).get j hja hlt2);clear Er ars;have Htj:=ah (show((kQ a).take (j+1)).map (fixF CF)=((kQ a).take j).map (fixF CF)++[fixF CF (kQ a)[j]] by rw[jk hja,List.map_append];rfl);obtain⟨D,hD⟩:=aH ((kQ a)[j]);rw[hD]at FU Htj;obtain⟨q,hq⟩:=aH (xd[j]);rw[hq]at hds FU;have Ri:=ah (show At wr b2 (off2+j*28) (dY.cells q)from hds);obtain⟨AO2,cO2,rfl,-,-⟩:=hown2.form;have yG:=ah hown2;have HA2:=ah hA2;have hyl:ys.length<=2000:=by rw[GQ.out];have:=rA.out;omega
     have hlk:∃(rr:bE) (OK:Bool),((assoc lm (q.act,q.item)).map itV).getD (.agg Qy.toArray)=.agg (aT.E rr).toArray/\(assoc lm (q.act,q.item)).isSome=OK/\(OK=true->∃gx,CF (q.act,q.item)=some gx/\eZ R0 gx rr)/\(OK=false->CF (q.act,q.item)=none):=by
      have hf:=WE.out (q.act,q.item);cases hh:assoc lm (q.act,q.item)with
      |none=>
       rw[hh]at hf;exact⟨nP,false,rfl,rfl,fun h=>(by cases h),fun _=>hf.symm⟩
      |some pr=>
       rw[hh]at hf
       have hmem:∀(l:List ((Int×Int)×(bE×fM))) (kk:Int×Int),assoc l kk=some pr->∃k2,(k2,pr)∈l:=by
        intro l
        induction l with
        |nil=>intro kk h;cases h
        |cons e l ih=>
         intro kk h;rw[assoc]at h
         split at h
         ·injection h with h
          exact⟨e.1,by rw[<-h];simp⟩
         ·obtain⟨k2,h2⟩:=ih kk h
          exact⟨k2,by simp[h2]⟩
       obtain⟨k2,hk2⟩:=hmem lm _ hh;exact⟨pr.1,true,rfl,rfl,fun _=>⟨pr.2,hf.symm,Hrl.out _ hk2⟩,fun h=>(by cases h)⟩
     obtain⟨rr,OK,hu,hok2,hyes,hno⟩:=hlk;have Hu:=ah hu;have Xv:=ah hok2;have arv:=ah hyes;have Hno:=ah hno;clear hds hD hq hA2 hown2 hu hok2 hyes hno;rw[HA2.out];go_upto_region 11 with(first|((with_reducible refine au bF (.tmp 27) ?_ ?_ ?_ b2 (off2+j*28) ?_ q ?_ ?_);rfl;rfl;rfl;rfl;exact Ri.out)|(refine aL bF rfl rfl fun wB eH ji hkB=> ?_)|((with_reducible refine aD bF (.tmp 9) (.tmp 28) ?_ ?_ wr wr.heap.size ?_ q ?_ _ _ hkB ?_ eH (aI _) ?_);rfl;rfl;rfl;rfl;rfl;intro w5 hx5 FH hk5 Dg ho5;have sW:=ah Dg;have hl5:=ay hk5;have Wp:=ah hk5;have p0:=Dg.zero (u:=.int .i64 q.act) rfl;have p1:=Dg.one 1 (u:=.int .i64 q.item) rfl;have p3:=Dg.one 3 (u:=.int .i64 q.it.kind) rfl;simp only[bV]at p1 p3;clear FH hk5 Dg ho5 ji hkB eH)|(refine Sg (K:=JH) (V:=itV) (.tmp 30) (.tmp 35) rfl af7 underlying64 (.agg Qy.toArray) (Kk (D:=aT) _) rfl (Hlm.out.ext (kZ.trans hx5)) rfl (q.act,q.item) rfl (.agg (aT.E rr).toArray) OK Hu.out Xv.out ?_)|(refine aL aT rfl rfl fun wC dD jK fE=> ?_)|((with_reducible refine aD aT (.tmp 10) (.tmp 37) ?_ ?_ w5 w5.heap.size ?_ rr ?_ _ _ fE ?_ dD (aI _) ?_);rfl;rfl;rfl;rfl;rfl;intro w6 hx6 DJ qH Xw ho6;have KE:=ah Xw;have hl6:=ay qH;have p3b:=(hx6.cell (p:=⟨wr.heap.size,3,none⟩) hl5).trans p3;clear DJ qH Xw ho6 jK fE dD p0 p1 p3))
     have adQ:=hx5.trans hx6;have SK:=ah FU.out.act;have Hqi:=ah FU.out.item;cases OK with
     |false=>
      go_wp2_with (first|((with_reducible refine au bF (.tmp 9) ?_ ?_ ?_ wr.heap.size 0 ?_ q ?_ ?_);rfl;rfl;rfl;rfl;exact(sW.out.ext hx6 hl5))|((with_reducible refine gP bF (.tmp 49) ?_ ?_ q (.agg (bF.E q).toArray) ?_ ?_ ?_ ?_);rfl;rfl;rfl;rfl;decide;intro wF iZ wX Ia;have SL:=ah Ia;have nE:=ah (adQ.trans iZ);clear Ia wX iZ)|(at_builtin;refine lq bF rfl (.tmp 48) (.tmp 50) rfl 1 rfl (yG.out.ext nE.out) rfl SL.out (by simp;omega) (by have:=kZ.size;have:=nE.out.size;omega) ?_;intro vG wG BX qI hloc;have HOG:=ah BX;have HxG:=ah (show Ext w2 wG from⟨qI.os.trans (nE.out.os.trans kZ.os),qI.tape.trans (nE.out.tape.trans kZ.tape),qI.output.trans (nE.out.output.trans kZ.output),bX (bX kZ.size nE.out.size) qI.size,fun kk hkk=>(qI.block kk (bQ hkk (bX kZ.size nE.out.size)) (fun e=>by have:=(yG.out.lt kk e.symm).1;omega)).trans ((nE.out.block (bQ hkk kZ.size)).trans (kZ.block hkk))⟩);have SN:=ah (show Own bF w3.heap.size wG (.slice A4 xd.length c4) xd from(Dl.out.ext nE.out).keep fun kk hkk=>qI.block kk (bQ (Dl.out.lt kk hkk).2 nE.out.size) (fun e=>NT.out kk e.symm hkk));have SQ:=ah (show∀g,vG.ownBlock=some g->(Value.slice A4 xd.length c4).ownBlock≠some g from fun g h1 h2=>by rcases hloc with h|h;exact NT.out g (h.symm.trans h1) h2;have e:=lM (h.symm.trans h1);have:=(Dl.out.lt g h2).2;have:=nE.out.size;omega);obtain⟨AG,cG,SS,-,-⟩:=BX.form;subst SS;clear BX qI hloc))
      have SX:=ah (show fH R0 (fixF CF D) q from((by rw[show fixF CF D=D by unfold fixF;rw[<-SK.out,<-Hqi.out,Hno.out (by first|rfl|trivial)]];exact FU.out)))
      have SY:=ah (show fq (fH R0) (((acts.take k).flatMap kQ).map (fixF CF)++((kQ a).take (j+1)).map (fixF CF)) (ys++[q]) by
       rw[Htj.out,<-dV];exact DY.out.snoc SX.out)
      go_roundw
      case rel=>exact⟨j+1,_,by omega,by go_num,ah (by rw[eu,GQ.out];simp;omega),(by have h:=HOG.out;rw[eu]at h;exact h),SY,HxG.out,(by rw[<-HA2.out];exact SN),(ah (fun g h1 h2=>SQ.out g (by rw[eu];exact h1) (by rw[HA2.out];exact h2)))⟩
      case measure=>simp[intOf];omega
     |true=>
      obtain⟨gx,hgx,hrx⟩:=arv.out (by first|rfl|trivial);have Hgx:=ah hgx;have S9:=ah hrx;have BU:=ah (uV q.it.kind w6);have Hkk:=ah FU.out.it.it.kind;have Ta:=ah ((hx6.block hl5).trans Wp.out);obtain⟨BB,Me⟩:=aH (kT q.it.kind);rw[Me]at BU;have Pm:=ah Me;clear hgx hrx Me;go_wp2_with fail
      refine(BU.out).mono ?_;rintro e w7 ⟨rfl,rfl⟩;cases BB with
      |false=>
       go_wp2_with (first|((with_reducible refine au bF (.tmp 9) ?_ ?_ ?_ wr.heap.size 0 ?_ q ?_ ?_);rfl;rfl;rfl;rfl;exact(sW.out.ext hx6 hl5))|((with_reducible refine gP bF (.tmp 49) ?_ ?_ q (.agg (bF.E q).toArray) ?_ ?_ ?_ ?_);rfl;rfl;rfl;rfl;decide;intro wF iZ wX Ia;have SL:=ah Ia;have nE:=ah (adQ.trans iZ);clear Ia wX iZ)|(at_builtin;refine lq bF rfl (.tmp 48) (.tmp 50) rfl 1 rfl (yG.out.ext nE.out) rfl SL.out (by simp;omega) (by have:=kZ.size;have:=nE.out.size;omega) ?_;intro vG wG BX qI hloc;have HOG:=ah BX;have HxG:=ah (show Ext w2 wG from⟨qI.os.trans (nE.out.os.trans kZ.os),qI.tape.trans (nE.out.tape.trans kZ.tape),qI.output.trans (nE.out.output.trans kZ.output),bX (bX kZ.size nE.out.size) qI.size,fun kk hkk=>(qI.block kk (bQ hkk (bX kZ.size nE.out.size)) (fun e=>by have:=(yG.out.lt kk e.symm).1;omega)).trans ((nE.out.block (bQ hkk kZ.size)).trans (kZ.block hkk))⟩);have SN:=ah (show Own bF w3.heap.size wG (.slice A4 xd.length c4) xd from(Dl.out.ext nE.out).keep fun kk hkk=>qI.block kk (bQ (Dl.out.lt kk hkk).2 nE.out.size) (fun e=>NT.out kk e.symm hkk));have SQ:=ah (show∀g,vG.ownBlock=some g->(Value.slice A4 xd.length c4).ownBlock≠some g from fun g h1 h2=>by rcases hloc with h|h;exact NT.out g (h.symm.trans h1) h2;have e:=lM (h.symm.trans h1);have:=(Dl.out.lt g h2).2;have:=nE.out.size;omega);obtain⟨AG,cG,SS,-,-⟩:=BX.form;subst SS;clear BX qI hloc))
       have SX:=ah (show fH R0 (fixF CF D) q from((by rw[show fixF CF D=D by unfold fixF;rw[<-SK.out,<-Hqi.out,Hgx.out];simp only;rw[<-Hkk.out,Pm.out];rfl];exact FU.out)))
       have SY:=ah (show fq (fH R0) (((acts.take k).flatMap kQ).map (fixF CF)++((kQ a).take (j+1)).map (fixF CF)) (ys++[q]) by
        rw[Htj.out,<-dV];exact DY.out.snoc SX.out)
       go_roundw
       case rel=>exact⟨j+1,_,by omega,by go_num,ah (by rw[eu,GQ.out];simp;omega),(by have h:=HOG.out;rw[eu]at h;exact h),SY,HxG.out,(by rw[<-HA2.out];exact SN),(ah (fun g h1 h2=>SQ.out g (by rw[eu];exact h1) (by rw[HA2.out];exact h2)))⟩
       case measure=>simp[intOf];omega
      |true=>
       go_wp2_with (first|((with_reducible refine au aT (.tmp 10) ?_ ?_ ?_ w5.heap.size 0 ?_ rr ?_ ?_);rfl;rfl;rfl;rfl;exact KE.out)|((refine aP rfl 42 (.tmp 47) (.tmp 46) rfl wr.heap.size 3 (.agg (aT.E rr).toArray) rfl rfl (aT.E rr) rfl sizeOf42 (aT.h1 rr) 44 _ Ta.out (by simp[bF,dY.cells,bE.cells,aT]) ?_);intro w8 hw8 Ev Ew Ey DK NH;have jL:Ext wr w8:=Ext.put adQ (aI _) hw8 Ev Ew Ey DK;have Ko:=ah (show At w8 wr.heap.size 0 (dY.cells ⟨q.act,q.item,q.day,rr⟩)from fun jj uu hjj=>(by simp only[World.cell?,NH,bV];simpa[bF,aT,dY.cells,bE.cells]using hjj));clear hw8 Ev Ew Ey DK NH)|((with_reducible refine au bF (.tmp 9) ?_ ?_ ?_ wr.heap.size 0 ?_ (⟨q.act,q.item,q.day,rr⟩:dY) ?_ ?_);rfl;rfl;rfl;rfl;exact Ko.out)|((with_reducible refine gP bF (.tmp 49) ?_ ?_ (⟨q.act,q.item,q.day,rr⟩:dY) (.agg (bF.E (⟨q.act,q.item,q.day,rr⟩:dY)).toArray) ?_ ?_ ?_ ?_);rfl;rfl;rfl;rfl;decide;intro wF iZ wX Ia;have SL:=ah Ia;have nE:=ah (jL.trans iZ);clear Ia wX iZ)|(at_builtin;refine lq bF rfl (.tmp 48) (.tmp 50) rfl 1 rfl (yG.out.ext nE.out) rfl SL.out (by simp;omega) (by have:=kZ.size;have:=nE.out.size;omega) ?_;intro vG wG BX qI hloc;have HOG:=ah BX;have HxG:=ah (show Ext w2 wG from⟨qI.os.trans (nE.out.os.trans kZ.os),qI.tape.trans (nE.out.tape.trans kZ.tape),qI.output.trans (nE.out.output.trans kZ.output),bX (bX kZ.size nE.out.size) qI.size,fun kk hkk=>(qI.block kk (bQ hkk (bX kZ.size nE.out.size)) (fun e=>by have:=(yG.out.lt kk e.symm).1;omega)).trans ((nE.out.block (bQ hkk kZ.size)).trans (kZ.block hkk))⟩);have SN:=ah (show Own bF w3.heap.size wG (.slice A4 xd.length c4) xd from(Dl.out.ext nE.out).keep fun kk hkk=>qI.block kk (bQ (Dl.out.lt kk hkk).2 nE.out.size) (fun e=>NT.out kk e.symm hkk));have SQ:=ah (show∀g,vG.ownBlock=some g->(Value.slice A4 xd.length c4).ownBlock≠some g from fun g h1 h2=>by rcases hloc with h|h;exact NT.out g (h.symm.trans h1) h2;have e:=lM (h.symm.trans h1);have:=(Dl.out.lt g h2).2;have:=nE.out.size;omega);obtain⟨AG,cG,SS,-,-⟩:=BX.form;subst SS;clear BX qI hloc))
       have SX:=ah (show fH R0 (fixF CF D) (⟨q.act,q.item,q.day,rr⟩:dY)from((by rw[show fixF CF D={D with it:=gx} by unfold fixF;rw[<-SK.out,<-Hqi.out,Hgx.out];simp only;rw[<-Hkk.out,Pm.out];rfl];exact⟨SK.out,Hqi.out,FU.out.day,S9.out⟩)))
       have SY:=ah (show fq (fH R0) (((acts.take k).flatMap kQ).map (fixF CF)++((kQ a).take (j+1)).map (fixF CF)) (ys++[(⟨q.act,q.item,q.day,rr⟩:dY)]) by
        rw[Htj.out,<-dV];exact DY.out.snoc SX.out)
       go_roundw
       case rel=>exact⟨j+1,_,by omega,by go_num,ah (by rw[eu,GQ.out];simp;omega),(by have h:=HOG.out;rw[eu]at h;exact h),SY,HxG.out,(by rw[<-HA2.out];exact SN),(ah (fun g h1 h2=>SQ.out g (by rw[eu];exact h1) (by rw[HA2.out];exact h2)))⟩
       case measure=>simp[intOf];omega
    ·have f2:=fT j xd.length
     have yG:=ah hown2;obtain⟨AO2,cO2,rfl,-,-⟩:=hown2.form
     have arw:=ah (show fq (fH R0) (((acts.take (k+1)).flatMap kQ).map (fixF CF)) ys by
      have:=DY.out;have e:(kQ a).take j=kQ a:=gY (by rw[vV,<-Hl4.out];omega);rw[e,<-mV.out]at this;exact this)
     have arx:=ah (show ys.length<=24*(k+1) by rw[GQ.out];have:=rA.out;omega);clear hown2;go_wp2;go_roundw
     case rel=>exact⟨k+1,ys,by omega,by go_num,arx,yG.out,arw,kZ⟩
     case measure=>simp[intOf];omega
  ·have f1:=fT k acts.length
   have HO:=ah hown;obtain⟨AO,cO,rfl,-,-⟩:=hown.form
   have EB:=ah (show fq (fH R0) (gq gs) xs by
    have:=Hxs.out;rw[gY (by omega),<-HE.out]at this;exact this)
   clear hown;go_wp2;go_ret;exact⟨_,xs,rfl,hx1.trans (hx2.trans hext),HO.out.mono (bX hx1.size hx2.size),EB.out⟩
theorem adR{acc:List bn}{a x:bn}(h:x∈nY acc a):x∈acc∨x=a:=by
 unfold nY at h
 split at h
 ·exact .inl h
 ·rcases List.mem_append.1 h with h|h
  ·exact .inl h
  ·exact .inr (by simpa using h)
theorem adS(acc:List bn)(a:bn):(nY acc a).length<=acc.length+1:=by
 unfold nY
 split<;>simp
theorem Pn:∀(l acc:List bn) {x:bn},x∈l.foldl nY acc->x∈acc∨x∈l
 |[],acc,x,h=>.inl h
 |a::l,acc,x,h=>by
  rcases Pn l (nY acc a) h with h|h
  ·rcases adR h with h|h
   ·exact .inl h
   ·exact .inr (by simp[h])
  ·exact .inr (by simp[h])
theorem Po:∀(l acc:List bn),(l.foldl nY acc).length<=acc.length+l.length
 |[],acc=>by simp
 |a::l,acc=>by
  have h1:=Po l (nY acc a);have h2:=adS acc a;simp only[List.foldl_cons,iX];omega
theorem Pp:∀(gs:List jJ),(∀g∈gs,g.acts.length<=8)->(kP gs).length<=8*gs.length
 |[],_=>by simp[kP]
 |g::gs,h=>by
  have h1:=Pp gs fun x hx=>h x (by simp[hx]);have h2:=h g (by simp);simp only[kP,List.flatMap_cons,eu,iX]at h1⊢;omega
theorem Tc:∀{l:List bn} {a:bn},a∈l->a.items.length<=j6 l
 |b::l,a,h=>by
  simp only[j6,gX,List.sum_cons];rcases List.mem_cons.1 h with rfl|h
  ·omega
  ·have:=Tc h
   simp only[j6]at this;omega
theorem Td:∀{gs:List jJ} {a:bn},a∈kP gs->a.items.length<=uy gs
 |g::gs,a,h=>by
  simp only[uy,gX,List.sum_cons];simp only[kP,List.flatMap_cons,oo]at h;rcases h with h|h
  ·have:=Tc h
   omega
  ·have:=Td (gs:=gs) h
   simp only[uy]at this;omega
theorem Pq{gs:List jJ}{a:bn}(h:a∈mJ gs):a∈kP gs:=by
 have h1:=(EI ((kP gs).foldl nY [])).2.perm.mem_iff.2 h;rcases Pn _ _ h1 with h2|h2
 ·simp at h2
 ·exact h2
structure aj3 (gs:List jJ):Prop where
 len:(mJ gs).length<=64
 it:∀a∈mJ gs,a.items.length<=24
 ok:∀a∈mJ gs,OkA a
theorem BZ{gs:List jJ}(h:rF gs 24):aj3 gs:=by
 refine⟨?_,fun a ha=> ?_,fun a ha=> ?_⟩
 ·have h1:=(EI ((kP gs).foldl nY [])).2.perm.length_eq
  have h2:=Po (kP gs) [];have h3:=Pp gs fun g hg=>(h.g g hg).n;have h4:=h.n;have e:(mJ gs).length=((kP gs).foldl nY []).length:=h1.symm;simp only[List.length_nil]at h2;omega
 ·exact bX (Td (Pq ha)) h.c
 ·have h1:=Pq ha
  simp only[kP,List.mem_flatMap]at h1;obtain⟨g,hg,hag⟩:=h1;exact(h.g g hg).a a hag
theorem adT{acts:List bn}(h:∀a∈acts,OkA a):∀k x,EJ acts k=some x->lu x:=by
 have go:∀(l:List fM) (f:Int×Int->Option fM),(∀y∈l,lu y)->(∀k x,f k=some x->lu x)->∀k x,l.foldl mR f k=some x->lu x:=by
  intro l
  induction l with
  |nil=>intro f _ hf;exact hf
  |cons y l ih=>
   intro f hl hf;refine ih (mR f y) (fun z hz=>hl z (by simp[hz])) fun k x hx=> ?_;unfold mR at hx
   split at hx
   ·simp only at hx
    split at hx
    ·have hy:=(hl y (by simp)).ys.2
     cases hb:y.sK with
     |nil=>rw[hb]at hx;cases hx
     |cons z zs=>
      rw[hb]at hx;simp only[List.head?_cons,Option.some.injEq]at hx;subst hx;exact hy _ (by rw[hb];simp)
    ·exact hf k x hx
   ·exact hf k x hx
 refine go _ _ (fun y hy=> ?_) (fun k x hx=>by cases hx);obtain⟨a,ha,hya⟩:=List.mem_flatMap.1 hy;exact(h a ha).i y hya
theorem JI{gs:List jJ}(h:rF gs 24):∀d∈gq gs,lu d.it:=by
 have hs:=BZ h;intro d hd;unfold gq at hd;obtain⟨d0,hd0,rfl⟩:=List.mem_map.1 hd;obtain⟨a,ha,hda⟩:=List.mem_flatMap.1 hd0
 have h0:lu d0.it:=by
  unfold kQ at hda;obtain⟨p,hp,rfl⟩:=List.mem_map.1 hda;exact(hs.ok a ha).i _ (List.fst_mem_of_mem_zipIdx hp)
 unfold fixF;cases hc:EJ (mJ gs) (d0.act,d0.item)with
 |none=>exact h0
 |some x=>
  simp only
  split
  ·exact adT hs.ok _ x hc
  ·exact h0
theorem Ib{gs:List jJ}(h:rF gs 24):(gq gs).length<=1536:=by
 have hs:=BZ h;unfold gq;rw[jA]
 have go:∀l:List bn,(∀a∈l,a.items.length<=24)->(l.flatMap kQ).length<=24*l.length:=by
  intro l
  induction l with
  |nil=>intro _;simp
  |cons a l ih=>
   intro hl;have h1:=ih fun x hx=>hl x (by simp[hx]);have h2:=hl a (by simp);have h3:=vV a;simp only[List.flatMap_cons,eu,iX];omega
 have h1:=go _ hs.it;have h2:=hs.len;omega
theorem EL(gs:List jJ)(rs:List nX)(A:Option Addr)(c:Nat)(R0 w:World)(hR0:Ext R0 w)(hs:Sl lW R0 A rs)(hall:fq (jZ R0) gs rs)(hok:rF gs 24):
 Calls prog 8 #[.slice A rs.length c] w fun e w'=>∃v xs,e=.returned v/\Ext w w'/\Own bF w.heap.size w' v xs/\fq (fH R0) (gq gs) xs:=
 Vv gs rs A c R0 w hR0 hs hall hok (BZ hok).len (BZ hok).it
theorem aa0(gs:List jJ)(rs:List nX)(A:Option Addr)(c:Nat)(s:ByteArray)(w:World)(hs:Sl lW w A rs)(hall:fq (jZ w) gs rs)(hn:gs.length<=9223372036854775807)(hbig:∀g∈gs,Rh g):
 Calls prog 5 #[.slice A rs.length c,.string s] w (uY (rF gs 24) w):=by
 have Hf:=ah (ZQ gs rs A c 24 w hs hall hn hbig (by omega));obtain⟨P,hP⟩:=aH (rF gs 24);rw[hP]at Hf⊢;clear hs hall hn hbig hP;go_enter func5,ntmps5
 go_wp2_with fail
 refine(Hf.out).mono ?_;rintro e w2 ⟨b,rfl,hb,hx2⟩;cases b with
 |false=>
  go_wp2;go_ret;exact⟨_,rfl,(fun h=>by cases h),hx2⟩
 |true=>
  have Hb:=ah (hb rfl);clear hb;go_wp2;go_ret;exact⟨_,rfl,fun _=>Hb.out,hx2⟩
theorem aa1(x:Int)(w:World):Calls prog 245 #[.int .u8 x] w (lN w):=by
 by_cases h1:x<33
 ·have d1:decide (x<33)=true:=bJ h1
  go_enter func245,ntmps245
  go_wp2;go_ret;exact⟨_,rfl,Ext.refl _⟩
 ·have d1:decide (x<33)=false:=aY h1
  go_enter func245,ntmps245
  go_wp2;go_ret;exact⟨_,rfl,Ext.refl _⟩
theorem adU(b c:Nat)(s:ByteArray)(w:World)(hb:b<w.heap.size)(hc:∀k,k<s.size->w.cell? ⟨b,k,none⟩=some (.int .u8 ((s.data.toList.getD k 0).toNat:Int)))(hn:s.size<=1000000):
 Calls prog 267 #[.slice (some ⟨b,0,none⟩) s.size c,.func (.func 245) #[] #[]] w fun e w'=>∃z:Int,e=.returned (.int .i64 z)/\Ext w w':=by
 go_enter func267,ntmps267
 go_wp2
 go_loopw [5,8] (fun _ vk wr=>∃k:Nat,k<=s.size/\vk=.int .i64 (k:Nat)/\Ext w wr) (fun _ vk _=>s.size-(intOf vk).toNat)
 case atStart=>exact⟨0,bI _,rfl,Ext.refl _⟩
 case round=>
  obtain⟨k,hk,rfl,hext⟩:=hrel;by_cases hlt:k<s.size
  ·have u0:=(hext.cell (p:=⟨b,k,none⟩) hb).trans (hc k hlt)
   obtain⟨x,hx⟩:∃x:Int,((s.data.toList.getD k 0).toNat:Int)=x:=⟨_,rfl⟩;rw[hx]at u0;have sQ:=ah (aa1 x wr);have d1:=eY k s.size;go_wp2_with fail
   refine(sQ.out).mono ?_;rintro e w2 ⟨bb,rfl,hx2⟩;cases bb with
   |true=>
    go_wp2;go_ret;exact⟨_,rfl,hext.trans hx2⟩
   |false=>
    go_wp2;go_roundw
    case rel=>exact⟨k+1,by omega,by go_num,hext.trans hx2⟩
    case measure=>simp[intOf];omega
  ·have d1:=fT k s.size
   go_wp2;go_ret;exact⟨_,rfl,hext⟩
theorem adV(b c:Nat)(s:ByteArray)(w:World)(hb:b<w.heap.size)(hc:∀k,k<s.size->w.cell? ⟨b,k,none⟩=some (.int .u8 ((s.data.toList.getD k 0).toNat:Int)))(hn:s.size<=1000000):
 Calls prog 246 #[.slice (some ⟨b,0,none⟩) s.size c,.func (.func 245) #[] #[]] w (lN w):=by
 have Hi:=ah (adU b c s w hb hc hn);clear hb hc;go_enter func246,ntmps246
 go_wp2_with fail
 refine(Hi.out).mono ?_;rintro e w2 ⟨z,rfl,hx2⟩;go_wp2;go_ret;exact⟨_,rfl,hx2⟩
theorem NU(w:World)(e:TypeId)(s:ByteArray):Ext w (Lib.bytesWorld w e s):=
 ⟨rfl,rfl,rfl,by rw[Lib.bytesWorld_size];omega,fun k hk=>Lib.bytesWorld_at_old w e s k hk⟩
theorem Ic{s:ByteArray}(h:s≠⟨#[]⟩):(s.toList==(⟨#[]⟩:ByteArray).toList)=false/\s.toList.isEmpty=false:=by
 refine⟨by rw[zB];simp[h],?_⟩;cases h2:s.toList with
 |nil=>exact absurd (bytes_inj (by rw[h2,ByteArray.toList_eq])) h
 |cons=>rfl
def EM(S V:Prop)(w:World)(e:Ending)(w':World):Prop:=∃b:Bool,e=.returned (.bool b)/\(b=true->S)/\(V->b=true)/\Ext w w'
theorem EM.b{S V:Prop}{w w':World}{e:Ending}(h:EM S V w e w'):lN w e w':=by
 obtain⟨b,h1,-,-,h4⟩:=h;exact⟨b,h1,h4⟩
theorem ah1(s:ByteArray)(w:World):Calls prog 217 #[.string s] w (EM (s≠⟨#[]⟩) False w):=by
 by_cases he:s=⟨#[]⟩
 ·subst he
  go_enter func217,ntmps217
  go_wp2;go_ret;exact⟨_,rfl,(fun h=>by cases h),(fun h=>h.elim),Ext.refl _⟩
 ·have He:=ah he
  obtain⟨hne,hne2⟩:=Ic he;clear he;by_cases h2:s.size<=24
  ·have d2:decide ((s.size:Int)<=24)=true:=bJ (by omega)
   have agh:=Lib.run_convert_string_bytes (P:=prog) w 9 270 5 s underlying9 underlying270 underlying5;have hx:=NU w 5 s;have hc:=Lib.bytesWorld_cell w 5 s;have hb:w.heap.size<(Lib.bytesWorld w 5 s).heap.size:=by rw[Lib.bytesWorld_size];omega
   obtain⟨wq,hwq⟩:=aH (Lib.bytesWorld w 5 s);obtain⟨cap,hcap⟩:=aH (grownCap w s.size 0 5);rw[hwq]at agh hx hc hb;rw[hcap]at agh;have Hi:=ah (adV w.heap.size cap s wq hb hc (by omega));have Hx:=ah hx;clear hx hc hwq hcap;go_enter func217,ntmps217
   go_wp2_with fail
   refine(Hi.out).mono ?_;rintro e w2 ⟨z,rfl,hx2⟩;go_wp2;go_ret;exact⟨_,rfl,(fun _=>He.out),(fun h=>h.elim),Hx.out.trans hx2⟩
  ·have d2:decide ((s.size:Int)<=24)=false:=aY (by omega)
   go_enter func217,ntmps217
   go_wp2;go_ret;exact⟨_,rfl,(fun _=>He.out),(fun h=>h.elim),Ext.refl _⟩
theorem aa2(s:ByteArray)(w:World):Calls prog 216 #[.string s] w fun e w'=>∃b:Bool,e=.returned (.bool (!b))/\(b=true->s≠⟨#[]⟩)/\Ext w w':=by
 have Hi:=ah (ah1 s w);go_enter func216,ntmps216
 go_wp2_with fail
 refine(Hi.out).mono ?_;rintro e w2 ⟨z,rfl,hz,-,hx2⟩;go_wp2;go_ret;exact⟨z,rfl,hz,hx2⟩
theorem aa3(A:Option Addr)(c:Nat)(l:List ByteArray)(w:World)(hs:Sl bP w A l)(hn:l.length<=1000000):
 Calls prog 244 #[.slice A l.length c,.func (.func 216) #[] #[]] w fun e w'=>∃z:Int,e=.returned (.int .i64 z)/\(z<0->∀s∈l,s≠⟨#[]⟩)/\(l=[]->z<0)/\Ext w w':=by
 go_enter func244,ntmps244
 go_wp2
 go_loopw [5,8] (fun _ vk wr=>∃k:Nat,k<=l.length/\vk=.int .i64 (k:Nat)/\Hid (∀s∈l.take k,s≠⟨#[]⟩)/\Ext w wr) (fun _ vk _=>l.length-(intOf vk).toNat)
 case atStart=>exact⟨0,bI _,rfl,ah (by simp),Ext.refl _⟩
 case round=>
  obtain⟨k,hk,rfl,jo,hext⟩:=hrel;by_cases hlt:k<l.length
  ·obtain⟨b,off,lI,hb,u0⟩:=I8 (hs.ext hext) hlt
   subst lI;obtain⟨x,hx⟩:=aH (l[k]);rw[hx]at u0;have Hxx:=ah hx;have DZ:=ah hlt;have sQ:=ah (aa2 x wr);have d1:=eY k l.length;go_wp2_with fail
   refine(sQ.out).mono ?_;rintro e w2 ⟨bb,rfl,hbb,hx2⟩;have BQ:=ah hbb;clear hbb;cases bb with
   |false=>
    go_wp2;go_ret;exact⟨_,rfl,(fun h=>by omega),(fun h=>by have:=DZ.out;rw[h]at this;cases this),hext.trans hx2⟩
   |true=>
    go_wp2;go_roundw
    case rel=>exact⟨k+1,by omega,by go_num,ah (fun s hs=>by
     rw[jk DZ.out,oo]at hs;rcases hs with hs|hs
     ·exact jo.out s hs
     ·rw[kX]at hs
      rw[hs,Hxx.out];exact BQ.out (by trivial)),hext.trans hx2⟩
    case measure=>simp[intOf];omega
  ·have d1:=fT k l.length
   go_wp2;go_ret;exact⟨_,rfl,(fun _ s hs=>jo.out s (by rw[gY (by omega)];exact hs)),(fun _=>by decide),hext⟩
theorem aa4(A:Option Addr)(c:Nat)(l:List ByteArray)(w:World)(hs:Sl bP w A l)(hn:l.length<=1000000):
 Calls prog 215 #[.slice A l.length c,.func (.func 216) #[] #[]] w fun e w'=>∃b:Bool,e=.returned (.bool b)/\(b=false->∀s∈l,s≠⟨#[]⟩)/\(l=[]->b=false)/\Ext w w':=by
 have Hi:=ah (aa3 A c l w hs hn);clear hs;go_enter func215,ntmps215
 go_wp2_with fail
 refine(Hi.out).mono ?_;rintro e w2 ⟨z,rfl,hz,hz2,hx2⟩;have Hz:=ah hz;have Te:=ah hz2;clear hz hz2;go_wp2;go_ret;exact⟨_,rfl,(fun h=>Hz.out (by simpa using h)),(fun h=>by simpa using Te.out h),hx2⟩
theorem Tf(A:Option Addr)(c:Nat)(l:List ByteArray)(w:World)(hs:Sl bP w A l)(hn:l.length<=1000000):Calls prog 183 #[.slice A l.length c] w (EM (∀s∈l,s≠⟨#[]⟩) (l=[]) w):=by
 have Hi:=ah (aa4 A c l w hs hn);clear hs;by_cases h2:l.length<=256
 ·have d2:decide ((l.length:Int)<=256)=true:=bJ (by omega)
  go_enter func183,ntmps183
  go_wp2_with fail
  refine(Hi.out).mono ?_;rintro e w2 ⟨z,rfl,hz,hz2,hx2⟩;have Hz:=ah hz;have Te:=ah hz2;clear hz hz2;go_wp2;go_ret;exact⟨_,rfl,(fun h=>Hz.out (by simpa using h)),(fun h=>by simpa using Te.out h),hx2⟩
 ·have d2:decide ((l.length:Int)<=256)=false:=aY (by omega)
  go_enter func183,ntmps183
  go_wp2;go_ret;exact⟨_,rfl,(fun h=>by cases h),(fun h=>by rw[h]at h2;exact absurd (bI _) h2),Ext.refl _⟩
theorem Vw(A:Option Addr)(c:Nat)(l:List ByteArray)(w:World)(hs:Sl bP w A l)(hn:l.length<=1000000):Calls prog 183 #[.slice A l.length c] w (lN w):=(Tf A c l w hs hn).mono fun _ _ h=>h.b
theorem agi(A:Option Addr)(c:Nat)(l:List aJ)(w:World)(hs:Sl aQ w A l)(hn:l.length<=1000):Calls prog 266 #[.slice A l.length c] w (EM (∀x∈l,x.t≠⟨#[]⟩) (l=[]) w):=by
 have Hs:=ah hs;clear hs;go_enter func266,ntmps266
 go_wp2
 go_loopw [3,8] (fun vo vk wr=>∃(k:Nat) (xs:List ByteArray),k<=l.length/\vk=.int .i64 (k:Nat)/\Hid (xs=(l.take k).map aJ.t)/\Own bP w.heap.size wr vo xs/\Ext w wr) (fun _ vk _=>l.length-(intOf vk).toNat)
 case atStart=>exact⟨0,[],bI _,rfl,ah (by simp),Own.nil _,Ext.refl _⟩
 case round=>
  obtain⟨k,xs,hk,rfl,rA,hown,hext⟩:=hrel;have hxl:xs.length<=k:=by rw[rA.out,jA,fu];omega
  obtain⟨Ao,co,rfl,-,hso⟩:=hown.form;by_cases hlt:k<l.length
  ·obtain⟨q,hq⟩:=aH (l[k])
   obtain⟨b,off,lI,hb,u0,u1,u2,u3⟩:=Lc (Hs.out.ext hext) hlt;rw[hq]at u0 u1 u2 u3;subst lI;have Hqq:=ah hq;have DZ:=ah hlt;have d1:=eY k l.length;have hsz:=hext.size;have rY:=ah (hown.ext (((Ext.refl wr).alloc (.cells #[.string q.t,.int .i64 q.a,.int .i64 q.i,.int .i64 q.k] 48)).alloc (.cells #[.string q.t] 9)));have NV:=ah (hext.trans (((Ext.refl wr).alloc (.cells #[.string q.t,.int .i64 q.a,.int .i64 q.i,.int .i64 q.k] 48)).alloc (.cells #[.string q.t] 9)));clear hq hext hso hown;go_wp2_with (at_builtin;go_loud (refine fK bP rfl (.tmp 12) (.tmp 15) rfl 1 rfl rY.out (ys:=[q.t]) rfl (Sl.new' bP (by simp) rfl) (by simp;omega) (by simp;omega) ?_;intro v' w2 hown2 iK hg2;clear hg2))
   go_roundw
   case rel=>exact⟨k+1,xs++[q.t],by omega,by go_num,ah (by rw[jk DZ.out,List.map_append,<-rA.out,Hqq.out];rfl),hown2,NV.out.trans' iK⟩
   case measure=>simp[intOf];omega
  ·have d1:=fT k l.length
   have Hv:=ah (Tf Ao co xs wr hso (by omega));have hk2:k=l.length:=by omega
   have HL:=ah (show xs=l.map aJ.t from by rw[rA.out,hk2,List.take_length]);by_cases h2:l.length<=256
   ·have d2:decide ((l.length:Int)<=256)=true:=bJ (by omega)
    clear hso hown hk2;go_wp2_with fail
    refine(Hv.out).mono ?_;rintro e w2 ⟨z,rfl,hz,hz2,hx2⟩;have Hz:=ah hz;have Te:=ah hz2;clear hz hz2;go_wp2;go_ret;exact⟨_,rfl,(fun h x hx=>Hz.out h _ (by rw[HL.out];exact List.mem_map_of_mem hx)),(fun h=>Te.out (by rw[HL.out,h];rfl)),hext.trans hx2⟩
   ·have d2:decide ((l.length:Int)<=256)=false:=aY (by omega)
    clear hso hown hk2;go_wp2;go_ret;exact⟨_,rfl,(fun h=>by cases h),(fun h=>by rw[h]at h2;exact absurd (bI _) h2),hext⟩
def NW(fr purpose:ByteArray)(day:Int)(M:List bK):Bool:=(decide (fr=⟨#[]⟩)||decide (fr=purpose))&&(lQ day&&dz M day)
theorem ah2(r:dY)(M:List bK)(A:Option Addr)(c B P D base:Nat)(purpose:ByteArray)(day:Int)(v:Value)(xs:List dY)(w:World)(hs:Sl cK w A M)(hM:M.length<=4194304)(hB:w.heap[B]? =some (.cells #[v] 33 (0,0)))(hO:Own bF base w v xs)(hb:B<base)(hbw:base<=w.heap.size)(hn:xs.length<=100000)
 (hP:w.cell? ⟨P,0,none⟩=some (.string purpose)) (hPb:P<w.heap.size) (hD:w.cell? ⟨D,0,none⟩=some (.int .i64 day)) (hDb:D<w.heap.size):
 Calls prog 25 #[.agg r.cells.toArray,.slice A M.length c,.pointer (some ⟨P,0,none⟩),.pointer (some ⟨D,0,none⟩),.pointer (some ⟨B,0,none⟩)] w fun e w'=>e=.returned (.tuple #[])/\pV B v w w'/\∃v',w'.heap[B]? =some (.cells #[v'] 33 (0,0))/\Own bF base w' v' (if NW r.it.fr purpose day M then xs++[r]else xs):=by
 have HO:=ah hO;have HB:=ah hB;have hBw:=ay hB;obtain⟨AO,cO,rfl,-,-⟩:=hO.form;have FN:=ah hbw;have Hc:=ah (fun wq (he:Ext w wq)=>Sd M A c day wq (hs.ext he) hM);obtain⟨b3,hb3⟩:=aH ((lQ day&&dz M day));obtain⟨b1,hb1⟩:=aH (decide (r.it.fr=⟨#[]⟩));obtain⟨b2,hb2⟩:=aH (decide (r.it.fr=purpose));have arz:=ah (show NW r.it.fr purpose day M=((b1||b2)&&b3)from by unfold NW;rw[hb1,hb2,hb3]);rw[hb3]at Hc;obtain⟨R,hR⟩:=aH ((if NW r.it.fr purpose day M then xs++[r]else xs));have HR:=ah (show R=if((b1||b2)&&b3)=true then xs++[r]else xs from by rw[<-hR,arz.out]);rw[hR];clear hR
 have g1:r.it.fr.toList.isEmpty=b1:=by
  rw[<-hb1];by_cases h:r.it.fr=⟨#[]⟩
  ·rw[h]
   simp[ByteArray.toList_eq]
  ·rw[(Ic h).2]
   simp[h]
 have g2:(r.it.fr.toList==purpose.toList)=b2:=by rw[rW,hb2]
 clear hO hs hB hbw hb3 hb1 hb2;go_enter func25,ntmps25
 go_upto_region 1 with(refine aG bF (.tmp 0) rfl rfl r rfl fun wA aR bG bB aO=> ?_)
 have p12:=aO.one 19 (u:=.string r.it.fr) rfl;simp only[bV]at p12;have oZ:=ah aO;have hP2:=(aR.cell (p:=⟨P,0,none⟩) hPb).trans hP;have hD2:=(aR.cell (p:=⟨D,0,none⟩) hDb).trans hD;have hlA:=ay bB;clear bG bB aO hP hD;cases b1 with
 |true=>
  go_wp2_with fail
  refine(Hc.out wA aR).mono ?_;rintro e w2 ⟨rfl,hx2⟩;cases b3 with
  |false=>
   go_wp2;refine bodyPost_end (results_none rfl _ _ _) rfl ?_;have hx:=aR.trans hx2;exact⟨rfl,⟨hx.os,hx.tape,hx.output,hx.size,fun k hk _ _=>hx.block hk⟩,_,(hx.block hBw).trans HB.out,by rw[HR.out];simpa using HO.out.ext hx⟩
  |true=>
   have hx:=aR.trans hx2
   have hcB:w2.cell? ⟨B,0,none⟩=some (.slice AO xs.length cO):=by
    rw[hx.cell (p:=⟨B,0,none⟩) hBw];simp[World.cell?,HB.out]
   have pU:=ah (oZ.out.ext hx2 hlA);have Hx:=ah hx;clear hx2 hx p12 hP2 hD2;go_wp2_with (first|((with_reducible refine au bF (.tmp 5) ?_ ?_ ?_ w.heap.size 0 ?_ r ?_ ?_);rfl;rfl;rfl;rfl;exact pU.out)|(((with_reducible refine gP bF (.tmp 24) ?_ ?_ r (.agg (bF.E r).toArray) ?_ ?_ ?_ ?_);rfl;rfl;rfl;rfl;decide;intro w25 hx25 adW Mf);have rJ:=ah (Hx.out.trans hx25);have pK:=ah Mf;clear hx25 adW Mf)|(refine fK bF rfl (.tmp 23) (.tmp 25) rfl 1 rfl (HO.out.ext rJ.out) rfl pK.out (by simp;omega) (bX FN.out rJ.out.size) ?_;intro v3 w3 hown3 hB3 hg3;have jw:w3.heap[B]? =some (.cells #[.slice AO xs.length cO] 33 (0,0)):=((hB3.block B hb).trans ((rJ.out.block hBw).trans HB.out)))|(refine aP rfl 33 (.tmp 4) (.tmp 26) rfl B 0 v3 rfl rfl [v3] (by obtain⟨A9,c9,rfl,-,-⟩:=hown3.form;rfl) sizeOf33 (by obtain⟨A9,c9,rfl,-,-⟩:=hown3.form;simp[Value.oneCell']) 33 _ jw (by simp) ?_;intro w4 hw4 dP dQ dR hs4 eX))
   refine bodyPost_end (results_none rfl _ _ _) rfl ?_;refine⟨rfl,⟨dP.trans (hg3.os.trans rJ.out.os),dQ.trans (hg3.tape.trans rJ.out.tape),dR.trans (hg3.output.trans rJ.out.output),by rw[hs4];exact bX rJ.out.size hg3.size,fun k hk hkB hkv=>(hw4 k hkB).trans ((hg3.block k (bQ hk rJ.out.size) (fun h=>hkv h.symm)).trans (rJ.out.block hk))⟩,v3,eX.trans (by simp),?_⟩;rw[HR.out];exact hown3.keep fun k hk=>hw4 k (fun h=>by subst h;have:=(hown3.lt k hk).1;omega)
 |false=>
  cases b2 with
  |true=>
   go_wp2_with fail
   refine(Hc.out wA aR).mono ?_;rintro e w2 ⟨rfl,hx2⟩;cases b3 with
   |false=>
    go_wp2;refine bodyPost_end (results_none rfl _ _ _) rfl ?_;have hx:=aR.trans hx2;exact⟨rfl,⟨hx.os,hx.tape,hx.output,hx.size,fun k hk _ _=>hx.block hk⟩,_,(hx.block hBw).trans HB.out,by rw[HR.out];simpa using HO.out.ext hx⟩
   |true=>
    have hx:=aR.trans hx2
    have hcB:w2.cell? ⟨B,0,none⟩=some (.slice AO xs.length cO):=by
     rw[hx.cell (p:=⟨B,0,none⟩) hBw];simp[World.cell?,HB.out]
    have pU:=ah (oZ.out.ext hx2 hlA);have Hx:=ah hx;clear hx2 hx p12 hP2 hD2;go_wp2_with (first|((with_reducible refine au bF (.tmp 5) ?_ ?_ ?_ w.heap.size 0 ?_ r ?_ ?_);rfl;rfl;rfl;rfl;exact pU.out)|(((with_reducible refine gP bF (.tmp 24) ?_ ?_ r (.agg (bF.E r).toArray) ?_ ?_ ?_ ?_);rfl;rfl;rfl;rfl;decide;intro w25 hx25 adW Mf);have rJ:=ah (Hx.out.trans hx25);have pK:=ah Mf;clear hx25 adW Mf)|(refine fK bF rfl (.tmp 23) (.tmp 25) rfl 1 rfl (HO.out.ext rJ.out) rfl pK.out (by simp;omega) (bX FN.out rJ.out.size) ?_;intro v3 w3 hown3 hB3 hg3;have jw:w3.heap[B]? =some (.cells #[.slice AO xs.length cO] 33 (0,0)):=((hB3.block B hb).trans ((rJ.out.block hBw).trans HB.out)))|(refine aP rfl 33 (.tmp 4) (.tmp 26) rfl B 0 v3 rfl rfl [v3] (by obtain⟨A9,c9,rfl,-,-⟩:=hown3.form;rfl) sizeOf33 (by obtain⟨A9,c9,rfl,-,-⟩:=hown3.form;simp[Value.oneCell']) 33 _ jw (by simp) ?_;intro w4 hw4 dP dQ dR hs4 eX))
    refine bodyPost_end (results_none rfl _ _ _) rfl ?_;refine⟨rfl,⟨dP.trans (hg3.os.trans rJ.out.os),dQ.trans (hg3.tape.trans rJ.out.tape),dR.trans (hg3.output.trans rJ.out.output),by rw[hs4];exact bX rJ.out.size hg3.size,fun k hk hkB hkv=>(hw4 k hkB).trans ((hg3.block k (bQ hk rJ.out.size) (fun h=>hkv h.symm)).trans (rJ.out.block hk))⟩,v3,eX.trans (by simp),?_⟩;rw[HR.out];exact hown3.keep fun k hk=>hw4 k (fun h=>by subst h;have:=(hown3.lt k hk).1;omega)
  |false=>
   go_wp2;refine bodyPost_end (results_none rfl _ _ _) rfl ?_;exact⟨rfl,⟨aR.os,aR.tape,aR.output,aR.size,fun k hk _ _=>aR.block hk⟩,_,(aR.block hBw).trans HB.out,by rw[HR.out];simpa using HO.out.ext aR⟩
end Go.Proofs.YtgboomjahhnldaaGreatDoor
