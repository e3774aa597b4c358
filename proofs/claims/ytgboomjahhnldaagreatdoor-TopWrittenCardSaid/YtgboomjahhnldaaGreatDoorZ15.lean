/- A part of the proof of TopWritten, printed small: TBoth TDays TMap TTurns TInit. -/
import Derived.Test.YtgboomjahhnldaaGreatDoorZ14
import Derived.Test.YtgboomjahhnldaaGreatDoorZ10
import Derived.Sort.OwnSortedInts
import Derived.Test.YtgboomjahhnldaaGreatDoorZ06
import Derived.MapKept
import Derived.Maps.OwnSet
import Derived.WideKeyRuns
set_option maxRecDepth 100000
set_option maxHeartbeats 25600000
set_option linter.all false
namespace Go.Proofs.YtgboomjahhnldaaGreatDoor
open Go.Proofs.Tryz Go.RowKit
theorem Qq(A:Option Addr)(c:Nat)(l:List bK)(w:World)(hs:Sl cK w A l)(hn:l.length<=4194304):
 Calls prog 199 #[.slice A l.length c] w (Dw cK w l):=by
 have hq:=fun W=>Lib.run_eql_slice_nil (P:=prog) W 79 114 A l.length c 0 0 underlying79;cases A with
 |none=>
  have h0:l=[]:=by
   cases l with
   |nil=>rfl
   |cons x l=>obtain⟨_,_,h,_⟩:=hs (by simp);cases h
  subst h0;simp only[List.length_nil]at hq;go_enter func199,ntmps199
  go_wp2;go_ret;exact⟨_,rfl,Own.nil _,Ext.refl _⟩
 |some ad=>
  go_enter func199,ntmps199
  go_wp2_with (at_builtin;refine fK cK rfl _ _ rfl c rfl (Own.made cK (aI _)) rfl (hs.ext ((Ext.refl _).alloc _)) (by simp;omega) (by simp) ?_;intro v' w1 hown' hb1 hg1)
  go_ret;exact⟨_,rfl,hown',((Ext.refl _).alloc _).trans' hb1⟩
def zn(zs:List Int):List Int:=zs.mergeSort fun x y=>decide (x<=y)
theorem CQ(zs:List Int):(zn zs).length=zs.length:=List.length_mergeSort zs
theorem aaw(v:Value)(base:Nat)(zs:List Int)(w:World)(hown:Own fD base w v zs)(hl:zs.length<=8388608):
 Calls prog 200 #[v] w fun e w'=>e=.returned (.tuple #[])/\Own fD base w' v (zn zs)/\w.grownBy w' v.ownBlock:=by
 have hfl:=vK zs;rcases hown.2 with⟨rfl,hz⟩|⟨g,cap,cur,rfl,hbase,hgb,r1,r2,r3,r4⟩
 ·have hzs:zs=[]:=kM hz
  subst hzs;refine(AnyM.slices_Sort_int_none Tryz.sortI none 0 w).mono fun e w' ⟨h1,h2⟩=>⟨h1,?_,?_⟩
  ·subst h2
   rw[show zn []=[]from by simp[zn]];exact hown
  ·subst h2
   exact⟨rfl,rfl,rfl,aI _,fun _ _ _=>rfl⟩
 ·have r4':cur.toList.take zs.length=zs.map (Value.int .i64):=by
   have h:=r4;rw[hfl]at h;simpa[fD]using h
  have hH:=holds_of_blockI hgb r4';refine(AnyM.slices_Sort_int Tryz.sortI g 0 cap zs w hH (ay hgb) (by omega)).mono ?_;rintro e w' ⟨rfl,n,os,rfl⟩;refine⟨rfl,?_,grownBy_sortedI _⟩;have h:=ownsRow_sortedI (w:=w) (n:=n) (os:=os) (ts:=zn zs) (CQ zs) hbase hgb r1 r2 (by simpa[fD]using r3);unfold Own;rw[vK,CQ];exact h
theorem LZ(zs:List Int):(Lib.compact zs).length<=zs.length:=by
 unfold Lib.compact Lib.compactUpTo;rw[jA];exact bX (List.length_filter_le _ _) (by simp)
theorem Vq(v:Value)(base:Nat)(zs:List Int)(w:World)(hown:Own fD base w v zs)(hl:zs.length<=8388608):
 Calls prog 201 #[v] w fun e w'=>∃v',e=.returned v'/\Own fD base w' v' (Lib.compact zs)/\w.grownBy w' v.ownBlock:=by
 rcases hown.2 with⟨rfl,hz⟩|⟨g,cap,cur,rfl,hbase,hgb,r1,r2,r3,r4⟩
 ·have hzs:zs=[]:=kM hz
  subst hzs;exact(Tryz.slices_Compact_int_empty none 0 w).mono fun e w' ⟨h1,h2⟩=>⟨_,h1,h2▸hown,h2▸⟨rfl,rfl,rfl,aI _,fun _ _ _=>rfl⟩⟩
 ·have r4':cur.toList.take zs.length=zs.map (Value.int .i64):=by
   have h:=r4;rw[vK]at h;simpa[fD]using h
  have hH:=holds_of_blockI hgb r4';have hcl:=LZ zs;refine(Tryz.slices_Compact_int g 0 cap zs w hH (by omega) r1).mono ?_;rintro e w' ⟨rfl,n,rfl⟩;obtain⟨ts,hts⟩:=aH (Lib.compact zs++List.replicate (zs.length-(Lib.compact zs).length) (0:Int));have htl:ts.length=zs.length:=by rw[<-hts,eu,List.length_replicate];omega
  have htk:ts.take (Lib.compact zs).length=Lib.compact zs:=by rw[<-hts];exact List.take_left
  rw[hts];have h:=ownsRow_sortedI (w:=w) (n:=n) (os:= #[]) (ts:=ts) htl hbase hgb r1 r2 (by simpa[fD]using r3);have hg:=grownBy_sortedI (w:=w) (g:=g) (n:=n) (os:= #[]) ts.toArray;rw[Sort.grow_empty]at h hg;obtain⟨W',hW'⟩:=aH (Sort.putRow (Value.int .i64) (Sort.ahead w n) g 0 ts.toArray);rw[hW']at h hg⊢;refine⟨_,rfl,?_,hg⟩
  have ho:Own fD base W' (.slice (some ⟨g,0,none⟩) zs.length cap) ts:=by
   unfold Own;rw[vK,htl];exact h
  have h2:=ho.afG (k:=(Lib.compact zs).length) (by omega);rw[htk]at h2;exact h2
theorem aax(zs:List Int){x:Int}:x∈zn zs↔x∈zs:=(List.mergeSort_perm zs _).mem_iff
theorem adJ(zs:List Int):(zn zs).Pairwise fun x y=>x<=y:=by
 have h:=List.pairwise_mergeSort (le:=fun x y:Int=>decide (x<=y)) (fun a b c h1 h2=>by simp at*;omega) (fun a b=>by simp;omega) zs;exact h.imp fun h=>by simpa using h
def zo(l:List bK):List Int:=l.flatMap fun x=>[x.f,x.t]
theorem CR{l:List bK}{s:bK}(h:s∈l):s.f∈zo l/\s.t∈zo l:=by
 unfold zo;exact⟨List.mem_flatMap.2 ⟨s,h,by simp⟩,List.mem_flatMap.2 ⟨s,h,by simp⟩⟩
theorem XZ{l:List bK}{k:Nat}(hk:k<l.length):zo (l.take (k+1))=zo (l.take k)++[l[k].f,l[k].t]:=by
 unfold zo;rw[jk hk,List.flatMap_append];simp
def R8(F:FuncId)(g:Bool->Bool->Bool):Prop:=∀(a b:Bool) (w:World),Calls prog F #[.bool a,.bool b] w fun e w'=>e=.returned (.bool (g a b))/\w'=w
theorem X0:R8 150 (fun a b=>a||b):=by
 intro a b w;cases a<;>cases b<;>
 ·go_enter func150,ntmps150
  go_wp2;go_ret;exact⟨rfl,rfl⟩
theorem X3:R8 151 (fun a b=>a&&b):=by
 intro a b w;cases a<;>cases b<;>
 ·go_enter func151,ntmps151
  go_wp2;go_ret;exact⟨rfl,rfl⟩
theorem R9(F:FuncId)(hF:∀args w,(callFunc F args).run prog w=.ok (.enter F args) w)(g:Bool->Bool->Bool)(hg:g false false=false)(hfn:R8 F g)(a b:List bK)(A B:Option Addr)(ca cb:Nat)(w:World)(ha:Sl cK w A a)(hb:Sl cK w B b)(hna:a.length<=4194304)(hnb:b.length<=4194304):
 Calls prog 149 #[.slice A a.length ca,.slice B b.length cb,.func (.func F) #[] #[]] w (wR w (fun d=>lQ d&&g (dz a d) (dz b d))):=by
 have HFn:=ah hfn;have HA:=ah (vg a A ca w ha hna);have HB:=ah (fun wq (he:Ext w wq)=>vg b B cb wq (hb.ext he) hnb);clear hfn ha hb;go_enter func149,ntmps149
 go_wp2_with fail
 refine HA.out.mono ?_;rintro e w1 ⟨A1,c1,M1,rfl,hc1,hs1,hn1,hm1,hx1⟩;go_wp2_with fail
 refine(HB.out w1 hx1).mono ?_;rintro e w2 ⟨B2,c2,M2,rfl,hc2,hs2,hn2,hm2,hx2⟩;have hl1:=hn1.len2;have hl2:=hn2.len2;have LJ:=ah (Qq A1 c1 M1 w2 (hs1.ext hx2) (by omega));clear HA HB;go_wp2_with fail
 refine LJ.out.mono ?_;rintro e w3 ⟨v3,rfl,hown3,hx3⟩;obtain⟨X,hX⟩:=aH (M1++M2);have hXl:X.length<=1048578:=by rw[<-hX,eu];omega
 have ajo:∀s∈M1,s∈X:=fun s h=>by rw[<-hX];exact nK _ h
 have ajp:∀s∈M2,s∈X:=fun s h=>by rw[<-hX];exact qh _ h
 have AR:=ah hown3;have Jt:=ah (hs1.ext hx2);have wQ:=ah hs2;have eD:=ah (hx1.trans hx2);have eU:=ah hx3;have Wt:=ah hn1;have sN:=ah hn2;have Hm1:=ah hm1;have Hm2:=ah hm2;have HX:=ah hX;have hb3:w2.heap.size<=w3.heap.size:=hx3.size;have hb2:w.heap.size<=w2.heap.size:=by have:=hx1.size;have:=hx2.size;omega
 clear hown3 hs1 hs2 hx1 hx2 hx3 hn1 hn2 hm1 hm2 hX LJ;go_upto_region 4 with(refine fK cK rfl (.tmp 18) (.tmp 19) rfl c2 rfl AR.out rfl (wQ.out.ext eU.out) (by omega) hb3 ?_;intro v4 w4 kC ajq hg4;have hx4:Ext w2 w4:=eU.out.trans' ajq (aI _);rw[HX.out]at kC;obtain⟨A4,z4,rfl,yI,hs4⟩:=kC.form;clear kC ajq hg4)
 have Hs4:=ah hs4;have mM:=ah hx4;clear hs4 hx4 AR
 go_loopw [7,22] (fun vo vk wr=>∃(k:Nat) (cs:List Int),k<=X.length/\vk=.int .i64 (k:Nat)/\Own fD w4.heap.size wr vo cs/\Hid (cs=zo (X.take k))/\cs.length<=2*k/\Ext w4 wr) (fun _ vk _=>X.length-(intOf vk).toNat)
 case atStart=>exact⟨0,[],bI _,rfl,Own.nil _,ah (by simp[zo]),aI _,Ext.refl _⟩
 case round=>
  obtain⟨k,cs,hk,rfl,hown,jD,hcl,hext⟩:=hrel;by_cases hlt:k<X.length
  ·have f1:=eY k X.length
   obtain⟨bq,off,hA,hb,hcs⟩:=(Hs4.out.ext hext).at_ hlt;have mV:=ah (XZ hlt);obtain⟨q,hq⟩:=aH (X[k]);rw[hq]at hcs mV;have Hcq:=ah (show At wr bq (off+k*2) q.cells from hcs);obtain⟨AO,cO,rfl,-,-⟩:=hown.form;have HO:=ah hown;have HA:=ah hA;clear hcs hq hA hown;rw[HA.out];go_wp2_with (first|((with_reducible refine au cK (.tmp 24) ?_ ?_ ?_ bq (off+k*2) ?_ q ?_ ?_);rfl;rfl;rfl;rfl;exact Hcq.out)|(refine aL cK rfl rfl fun wA aR bG bB=> ?_)|((with_reducible refine aD cK (.tmp 9) (.tmp 25) ?_ ?_ wr wr.heap.size ?_ q ?_ _ _ bB ?_ aR (aI _) ?_);rfl;rfl;rfl;rfl;rfl;intro w3 hx3 hz3 hk3 dX ho3;have p0:=dX.zero (u:=.int .i64 q.f) rfl;have p1:=dX.one 1 (u:=.int .i64 q.t) rfl;simp only[bV]at p1;clear hz3 hk3 dX ho3 bG bB aR)|(refine fK fD rfl (.tmp 26) (.tmp 31) rfl 2 rfl (HO.out.ext (hx3.trans ((Ext.refl _).alloc _))) rfl (Sl.new fD (xs:=[q.f,q.t]) (by simp[El.flat,fD])) (by simp;omega) (by have:=hext.size;have:=hx3.size;simp;omega) ?_;intro v7 w7 JE hB7 hg7;have HO7:=ah JE;have BP:=ah (show Ext w4 w7 from(hext.trans (hx3.trans ((Ext.refl _).alloc _))).trans' hB7 (aI _));clear JE hB7 hg7))
   go_roundw
   case rel=>exact⟨k+1,cs++[q.f,q.t],by omega,by go_num,HO7.out,ah (by rw[mV.out,jD.out]),by simp;omega,BP.out⟩
   case measure=>simp[intOf];omega
  ·have f1:=fT k X.length
   have Hcx:=ah (show cs=zo X by have:=jD.out;rwa[gY (by omega)]at this);obtain⟨AO,cO,FM,-,-⟩:=hown.form;obtain⟨vo,ajr⟩:=aH (Value.slice AO cs.length cO);rw[ajr]at FM;have aq3:=FM.symm;clear FM ajr;subst aq3;have Hso:=ah (aaw vo w4.heap.size cs wr hown (by omega));have hlo:∀k,vo.ownBlock=some k->w4.heap.size<=k:=fun k hk=>(hown.lt k hk).1;have hsz:=hext.size;clear hown;go_wp2_with fail
   refine Hso.out.mono ?_;rintro e w5 ⟨rfl,hown5,hg5⟩;have hx5:Ext w4 w5:=Below.grown hext hg5 hsz hlo;have Hco:=ah (Vq vo w4.heap.size (zn cs) w5 hown5 (by rw[CQ];omega));have hlc:=LZ (zn cs);rw[CQ]at hlc;have ajs:∀k,vo.ownBlock=some k->w4.heap.size<=k:=fun k hk=>(hown5.lt k hk).1;clear hown5 hg5 Hso;go_wp2_with fail
   refine Hco.out.mono ?_;rintro e w6 ⟨v6,rfl,hown6,hg6⟩;have hx6:Ext w4 w6:=Below.grown hx5 hg6 hx5.size ajs;obtain⟨C,hC⟩:=aH (Lib.compact (zn cs));rw[hC]at hown6 hlc;have Hup:=ah (show C.Pairwise fun x y=>x<=y from by rw[<-hC];exact XY (adJ cs));have yY:=ah (show∀x∈zo X,x∈C from fun x hx=>by rw[<-hC];exact Vp ((aax cs).2 (by rw[Hcx.out];exact hx)));obtain⟨A6,c6,rfl,hc6,hs6⟩:=hown6.form;have Hs6:=ah hs6;have DU:=ah hx6;have aq4:=ah (Jt.out.ext (mM.out.trans hx6));have aq5:=ah (wQ.out.ext (mM.out.trans hx6));clear hown6 hg6 Hco hC hs6 hx6 hx5 hlo ajs;have hCl:C.length<=4194304:=by omega
   go_wp2
   go_loopw [10,11] (fun vr vk wr=>∃(j:Nat) (out:List bK),vk=.int .i64 ((j+1:Nat):Int)/\(j=0∨j+1<=C.length)/\Own cK w6.heap.size wr vr out/\Hid (out=yX (fun c=>g (dz M1 c) (dz M2 c)) C j)/\out.length<=j/\Ext w6 wr) (fun _ vk _=>C.length-(intOf vk).toNat)
   case atStart=>exact⟨0,[],rfl,.inl rfl,Own.nil _,ah rfl,aI _,Ext.refl _⟩
   case round=>
    obtain⟨j,out,rfl,hj,hown,aju,hol,hext⟩:=hrel;by_cases hlt2:j+1<C.length
    ·have f2:=eY ((j+1:Nat):Int) C.length
     have f2':decide ((j:Int)+1<(C.length:Int))=true:=bJ (by omega);have hlt3:j<C.length:=by omega
     obtain⟨b6,aq6,hA6,hb6,k0⟩:=Eo (Hs6.out.ext hext) hlt3;subst hA6;have JF:=ah (show C.getD j 0=C[j]/\C.getD (j+1) 0=C[j+1]from⟨qR hlt3,qR hlt2⟩)
     have Wu:=ah (fun wq (he:Ext w6 wq)=>show wq.cell? ⟨b6,aq6+(j+1),none⟩=some (.int .i64 C[j+1])from by
      obtain⟨b7,avP,hA7,-,k1⟩:=Eo (Hs6.out.ext he) hlt2;cases hA7
      exact k1)
     obtain⟨d,hd⟩:=aH (C[j]);obtain⟨d2,hd2⟩:=aH (C[j+1]);rw[hd]at k0;rw[hd2]at Wu;rw[hd,hd2]at JF;have Hh1:=ah (NP M1 A1 c1 d wr (aq4.out.ext hext) Wt.out);have O8:=ah (fun wq (he:Ext w6 wq)=>NP M2 B2 c2 d wq (aq5.out.ext he) sN.out);obtain⟨AO,cO,FM,-,-⟩:=hown.form;subst FM;have HO:=ah hown;have e1:((j+1:Nat):Int)-1=(j:Nat):=by omega
     clear hd hd2 hown;go_wp2_with fail
     refine Hh1.out.mono ?_;rintro e w7 ⟨rfl,hx7⟩;go_wp2_with fail
     refine(O8.out w7 (hext.trans hx7)).mono ?_;rintro e w8 ⟨rfl,jL⟩;have Sb:=ah (HFn.out (dz M1 d) (dz M2 d) w8);have ajv:=hext.trans (hx7.trans jL);have k1:=Wu.out w8 ajv;obtain⟨m1,hm1⟩:=aH (dz M1 d);obtain⟨m2,hm2⟩:=aH (dz M2 d);obtain⟨gg,hgg⟩:=aH (g m1 m2);rw[hm1,hm2]at Sb⊢;rw[hgg]at Sb
     have ajw:=ah (show yX (fun c=>g (dz M1 c) (dz M2 c)) C (j+1)=out++(if gg then [⟨d,d2⟩]else [])from by
      rw[yX,<-aju.out,JF.out.1,JF.out.2];show out++(if g (dz M1 d) (dz M2 d)=true then _ else _)=_;rw[hm1,hm2,hgg])
     have O9:=ah (HO.out.ext (hx7.trans jL));have Pb:=ah ajv;clear hm1 hm2 hgg hx7 jL Hh1 O8 k0 HO hext;go_wp2_with fail
     refine Sb.out.mono ?_;rintro e w9 ⟨rfl,rfl⟩;cases gg with
     |false=>
      have wQ:=ah (show out=yX (fun c=>g (dz M1 c) (dz M2 c)) C (j+1)from by rw[ajw.out];simp);go_wp2;go_roundw
      case rel=>exact⟨j+1,out,by go_num,.inr (by omega),O9.out,wQ,by omega,Pb.out⟩
      case measure=>simp[intOf];omega
     |true=>
      have wQ:=ah (show out++[⟨d,d2⟩]=yX (fun c=>g (dz M1 c) (dz M2 c)) C (j+1)from by rw[ajw.out];simp);go_wp2_with (first|(((with_reducible refine gP cK (.tmp 63) ?_ ?_ ⟨d,d2⟩ (.agg (cK.E ⟨d,d2⟩).toArray) ?_ ?_ ?_ ?_);rfl;rfl;rfl;rfl;decide;intro w64 ajx aq7 anb);have adK:=ah ajx;clear ajx aq7)|(refine fK cK rfl (.tmp 57) (.tmp 64) rfl 1 rfl (O9.out.ext adK.out) rfl anb (by simp;omega) (by have:=Pb.out.size;have:=adK.out.size;omega) ?_;intro v10 uT ajy ajz aq8;have aq9:=ah ajy;have ara:=ah ((Pb.out.trans adK.out).trans' ajz (aI _));clear ajy ajz aq8))
      go_roundw
      case rel=>exact⟨j+1,out++[⟨d,d2⟩],by go_num,.inr (by omega),aq9.out,wQ,by simp;omega,ara.out⟩
      case measure=>simp[intOf];omega
    ·have f2:=fT ((j+1:Nat):Int) C.length
     have f2':decide ((j:Int)+1<(C.length:Int))=false:=aY (by omega);have QU:j=C.length-1:=by omega
     have Hmo:=ah (fun d=>show(lQ d&&dz out d)=(lQ d&&g (dz a d) (dz b d))from by
      rw[aju.out,QU,adI g hg Hup.out (fun s hs=>⟨yY.out _ (CR (ajo s hs)).1,yY.out _ (CR (ajo s hs)).2⟩) (fun s hs=>⟨yY.out _ (CR (ajp s hs)).1,yY.out _ (CR (ajp s hs)).2⟩) d,Hm1.out d,Hm2.out d];cases lQ d<;>simp)
     obtain⟨AO,cO,FM,-,hso⟩:=hown.form;subst FM;have Hno:=ah (vg out AO cO wr hso (by omega));have Hxf:=ah (show Ext w wr from eD.out.trans (mM.out.trans (DU.out.trans hext)));clear QU hown hso;go_wp2_with fail
     refine Hno.out.mono ?_;rintro e w7 ⟨A7,c7,M7,rfl,Js,hs7,Sc,Wi,hx7⟩;go_wp2;go_ret;exact⟨A7,c7,M7,rfl,Js,hs7,Sc,fun d=>(Wi d).trans (Hmo.out d),Hxf.out.trans hx7⟩
theorem aaC(a b:List bK)(A B:Option Addr)(ca cb:Nat)(w:World)(ha:Sl cK w A a)(hb:Sl cK w B b)(hna:a.length<=4194304)(hnb:b.length<=4194304):
 Calls prog 79 #[.slice A a.length ca,.slice B b.length cb] w (wR w (fun d=>lQ d&&(dz a d||dz b d))):=by
 have H:=ah (R9 150 call150 (fun a b=>a||b) rfl X0 a b A B ca cb w ha hb hna hnb);obtain⟨P,hP⟩:∃P:Int->Bool,(fun d=>lQ d&&(dz a d||dz b d))=P:=⟨_,rfl⟩;rw[hP]at H⊢;clear hP ha hb;go_enter func79,ntmps79
 go_wp2_with fail
 refine H.out.mono ?_;rintro e w1 ⟨A1,c1,M1,rfl,hc1,hs1,hn1,hm1,hx1⟩;go_wp2;go_ret;exact⟨A1,c1,M1,rfl,hc1,hs1,hn1,hm1,hx1⟩
theorem aaD(a b:List bK)(A B:Option Addr)(ca cb:Nat)(w:World)(ha:Sl cK w A a)(hb:Sl cK w B b)(hna:a.length<=4194304)(hnb:b.length<=4194304):
 Calls prog 82 #[.slice A a.length ca,.slice B b.length cb] w (wR w (fun d=>lQ d&&(dz a d&&dz b d))):=by
 have H:=ah (R9 151 call151 (fun a b=>a&&b) rfl X3 a b A B ca cb w ha hb hna hnb);obtain⟨P,hP⟩:∃P:Int->Bool,(fun d=>lQ d&&(dz a d&&dz b d))=P:=⟨_,rfl⟩;rw[hP]at H⊢;clear hP ha hb;go_enter func82,ntmps82
 go_wp2_with fail
 refine H.out.mono ?_;rintro e w1 ⟨A1,c1,M1,rfl,hc1,hs1,hn1,hm1,hx1⟩;go_wp2;go_ret;exact⟨A1,c1,M1,rfl,hc1,hs1,hn1,hm1,hx1⟩
def GR(f:Int->Bool)(day:Int)(d:Int):Bool:=lQ d&&(f d&&decide (d<day))
def KA(f:Int->Bool)(day:Int)(d:Int):Bool:=lQ d&&(f d&&decide (d<day)||decide (day<=d))
theorem Pf(l:List bK)(A:Option Addr)(c:Nat)(day:Int)(w:World)(hs:Sl cK w A l)(hn:l.length<=4194304):
 Calls prog 60 #[.slice A l.length c,.int .i64 day] w (wR w (GR (dz l) day)):=by
 have H:=ah (fun wq (he:Ext w wq) (B:Option Addr) (hb:Sl cK wq B [⟨0,day⟩])=>aaD l [⟨0,day⟩] A B c 1 wq (hs.ext he) hb hn (by simp))
 have HP:=ah (show∀d,(lQ d&&(dz l d&&dz [(⟨0,day⟩:bK)] d))=GR (dz l) day d from fun d=>by
  unfold GR;rw[vQ];have:lQ d=true->decide ((0:Int)<=d)=true:=fun h=>by simp[lQ]at h;simp;omega
  cases hd:lQ d with
  |false=>simp
  |true=>rw[show decide ((⟨0,day⟩:bK).f<=d)=true from this hd];simp)
 clear hs;go_enter func60,ntmps60
 go_wp2_with (((with_reducible refine gP cK (.tmp 7) ?_ ?_ ⟨0,day⟩ (.agg (cK.E ⟨0,day⟩).toArray) ?_ ?_ ?_ ?_);rfl;rfl;rfl;rfl;decide;intro w8 jL hz8 ajB))
 have Hc:=ah (H.out w8 jL _ ajB);clear H ajB hz8;refine Hc.out.mono ?_;rintro e w1 ⟨A1,c1,M1,rfl,hc1,hs1,hn1,hm1,hx1⟩;go_wp2;go_ret;exact⟨A1,c1,M1,rfl,hc1,hs1,hn1,fun d=>(hm1 d).trans (HP.out d),jL.trans hx1⟩
theorem L6(l:List bK)(A:Option Addr)(c:Nat)(day:Int)(w:World)(hs:Sl cK w A l)(hn:l.length<=4194304):
 Calls prog 58 #[.slice A l.length c,.int .i64 day] w (wR w (KA (dz l) day)):=by
 have H1:=ah (Pf l A c day w hs hn)
 have HP:=ah (show∀(f:Int->Bool),(∀d,f d=GR (dz l) day d)->∀d,(lQ d&&(f d||dz [(⟨day,1048577⟩:bK)] d))=KA (dz l) day d from fun f hf d=>by
  rw[hf d];unfold GR KA;rw[vQ];have:lQ d=true->decide (d<(⟨day,1048577⟩:bK).t)=true:=fun h=>by simp[lQ]at h;simp;omega
  cases hd:lQ d with
  |false=>simp
  |true=>rw[this hd];simp)
 clear hs;go_enter func58,ntmps58
 go_wp2_with fail
 refine H1.out.mono ?_;rintro e w1 ⟨A1,c1,M1,rfl,hc1,hs1,hn1,hm1,hx1⟩;have hl1:=hn1.len2;go_wp2_with (((with_reducible refine gP cK (.tmp 9) ?_ ?_ ⟨day,1048577⟩ (.agg (cK.E ⟨day,1048577⟩).toArray) ?_ ?_ ?_ ?_);rfl;rfl;rfl;rfl;decide;intro uT yZ arb afU))
 have Hc:=ah (aaC M1 [⟨day,1048577⟩] A1 _ c1 1 uT (hs1.ext yZ) afU (by omega) (by simp));clear afU arb H1;refine Hc.out.mono ?_;rintro e w2 ⟨A2,c2,M2,rfl,hc2,hs2,hn2,hm2,hx2⟩;go_wp2;go_ret;exact⟨A2,c2,M2,rfl,hc2,hs2,hn2,fun d=>(hm2 d).trans (HP.out _ hm1 d),hx1.trans (yZ.trans hx2)⟩
theorem Sd(l:List bK)(A:Option Addr)(c:Nat)(day:Int)(w:World)(hs:Sl cK w A l)(hn:l.length<=4194304):
 Calls prog 26 #[.slice A l.length c,.int .i64 day] w fun e w'=>e=.returned (.bool (lQ day&&dz l day))/\Ext w w':=by
 have H:=ah (vg l A c w hs hn);clear hs;obtain⟨B,hB⟩:=aH ((lQ day&&dz l day));rw[hB];have HB:=ah hB;clear hB;go_enter func26,ntmps26
 go_wp2_with fail
 refine H.out.mono ?_;rintro e w1 ⟨A1,c1,M1,rfl,hc1,hs1,hn1,hm1,hx1⟩;have Hh:=ah (NP M1 A1 c1 day w1 hs1 hn1);rw[show dz M1 day=B from(hm1 day).trans HB.out]at Hh;clear hm1 hs1 H;go_wp2_with fail
 refine Hh.out.mono ?_;rintro e w2 ⟨rfl,hx2⟩;go_wp2;go_ret;exact⟨rfl,hx1.trans hx2⟩
section plain
variable {κ ν:Type} [DecidableEq κ]
def assoc:List (κ×ν)->κ->Option ν
 |[],_=>none
 |p::ps,x=>if x=p.1 then some p.2 else assoc ps x
def upd:List (κ×ν)->κ->ν->List (κ×ν)
 |[],x,v=>[(x,v)]
 |p::ps,x,v=>if x=p.1 then(x,v)::ps else p::upd ps x v
theorem GU:∀(l:List (κ×ν)) (x y:κ) (v:ν),assoc (upd l x v) y=if y=x then some v else assoc l y
 |[],x,y,v=>by
  rw[upd,assoc,assoc,assoc]
 |p::ps,x,y,v=>by
  rw[upd];by_cases h:x=p.1
  ·rw[bH h,assoc,assoc]
   by_cases hy:y=x
   ·rw[bH hy,bH hy]
   ·rw[aU hy,aU hy,aU (by rw[<-h];exact hy)]
  ·rw[aU h,assoc,assoc,GU ps x y v]
   by_cases hp:y=p.1
   ·rw[bH hp,bH hp,aU (by rw[hp];exact fun e=>h e.symm)]
   ·rw[aU hp,aU hp]
def pG:List (κ×ν)->κ->Nat->Option (Nat×ν)
 |[],_,_=>none
 |p::ps,x,i=>if x=p.1 then some (i,p.2)else pG ps x (i+1)
theorem EC:∀(l:List (κ×ν)) (x:κ) (i:Nat),pG l x i=none->assoc l x=none/\∀v,upd l x v=l++[(x,v)]
 |[],x,i,_=>⟨rfl,fun _=>rfl⟩
 |p::ps,x,i,h=>by
  rw[pG]at h
  split at h
  ·cases h
  ·rename_i hx
   obtain⟨h1,h2⟩:=EC ps x (i+1) h;exact⟨by rw[assoc,aU hx,h1],fun v=>by rw[upd,aU hx,h2];rfl⟩
theorem ED:∀(l:List (κ×ν)) (x:κ) (i j:Nat) (u:ν),pG l x i=some (j,u)->assoc l x=some u/\∃k,j=i+k/\l[k]? =some (x,u)/\∀v,upd l x v=l.set k (x,v)
 |[],x,i,j,u,h=>by rw[pG]at h;cases h
 |p::ps,x,i,j,u,h=>by
  rw[pG]at h
  split at h
  ·rename_i hx
   simp only[Option.some.injEq,Prod.mk.injEq]at h;obtain⟨rfl,rfl⟩:=h;refine⟨by rw[assoc,bH hx],0,rfl,?_,fun v=>by rw[upd,bH hx];rfl⟩;rw[hx];rfl
  ·rename_i hx
   obtain⟨h1,k,h2,h3,h4⟩:=ED ps x (i+1) j u h;exact⟨by rw[assoc,aU hx,h1],k+1,by omega,by simpa using h3,fun v=>by rw[upd,aU hx,h4];rfl⟩
end plain
structure vw {κ:Type} [DecidableEq κ] (kt:TypeId) (K:κ->Value):Prop where
 DW:∀(w:World) (b:Bool) (x:κ),(Instr.checkKey b 10000 kt (K x)).run prog w=.ok () w
 find:∀(w:World) (x:κ) (es:List MapEntry) (ps:List (κ×Value)),es.map (fun e=>(e.key,e.val))=ps.map (fun p=>(K p.1,p.2))->(Instr.findKey kt (K x) es).run prog w=.ok (pG ps x 0) w
 same:∀x:κ,Instr.sameBits 10000 (K x) (K x)=true
def iG{κ ν:Type}(K:κ->Value)(V:ν->Value)(B:Nat)(w:World)(l:List (κ×ν)):Prop:=∃es clock,w.heap[B]? =some (.map es clock)/\es.toList.map (fun e=>(e.key,e.val))=l.map (fun p=>(K p.1,V p.2))
section
variable {κ ν:Type} {K:κ->Value} {V:ν->Value} {w w':World} {B:Nat} {l:List (κ×ν)}
theorem iG.made(w:World):iG K V w.heap.size (w.alloc (.map #[] 0)) []:=⟨#[],0,heap_alloc_new _ _,by simp⟩
theorem iG.lt(h:iG K V B w l):B<w.heap.size:=by
 obtain⟨es,clock,h1,_⟩:=h;exact ay h1
theorem iG.keep(h:iG K V B w l)(hb:w'.heap[B]? =w.heap[B]?):iG K V B w' l:=by
 obtain⟨es,clock,h1,h2⟩:=h;exact⟨es,clock,hb.trans h1,h2⟩
theorem iG.ext(h:iG K V B w l)(he:Ext w w'):iG K V B w' l:=h.keep (he.block h.lt)
variable [DecidableEq κ] {mt kt et:TypeId}
theorem Pg(f:ν->Value):∀(l:List (κ×ν)) (x:κ) (i:Nat),pG (l.map fun p=>(p.1,f p.2)) x i=(pG l x i).map fun q=>(q.1,f q.2)
 |[],_,_=>rfl
 |p::ps,x,i=>by
  rw[gX,pG,pG]
  split
  ·rfl
  ·exact Pg f ps x (i+1)
theorem iG.find(hk:vw kt K)(w':World){es:Array MapEntry}(h2:es.toList.map (fun e=>(e.key,e.val))=l.map (fun p=>(K p.1,V p.2)))(x:κ):(Instr.findKey kt (K x) es.toList).run prog w'=.ok ((pG l x 0).map fun q=>(q.1,V q.2)) w':=by
 rw[hk.find w' x es.toList (l.map fun p=>(p.1,V p.2)) (by rw[h2,List.map_map];rfl),Pg]
theorem iG.look(hk:vw kt K)(ht:prog.underlying mt=some (.map kt et))(z:Value)(hz:(zeroValue et).run prog w=.ok z w)(h:iG K V B w l)(x:κ)(b:Bool):
 (Instr.lookup mt (.map (some B)) (K x) b).run prog w=.ok (if b then .tuple #[((assoc l x).map V).getD z,.bool (assoc l x).isSome]else((assoc l x).map V).getD z) w:=by
 obtain⟨es,clock,h1,h2⟩:=h;have hf:=iG.find hk w h2 x;cases hr:pG l x 0 with
 |none=>
  obtain⟨ha,-⟩:=EC l x 0 hr;rw[hr]at hf;simp only[Option.map_none]at hf;rw[ha];simp only[Instr.lookup,Sem.run_bind,run_underlying ht,MapKept.run_getObj_map h1,hk.DW w,hf,Result.andThen,hz,Sem.run_pure];cases b<;>simp
 |some q=>
  obtain⟨j,u⟩:=q;obtain⟨ha,-⟩:=ED l x 0 j u hr;rw[hr]at hf;simp only[Option.map_some]at hf;rw[ha];simp only[Instr.lookup,Sem.run_bind,run_underlying ht,MapKept.run_getObj_map h1,hk.DW w,hf,Result.andThen,Sem.run_pure];cases b<;>simp
theorem iG.set(hk:vw kt K)(ht:prog.underlying mt=some (.map kt et))(h:iG K V B w l)(x:κ)(v:ν):∃w',(Instr.mapUpdate mt (.map (some B)) (K x) (V v)).run prog w=.ok () w'/\iG K V B w' (upd l x v)/\(∀j,j≠B->w'.heap[j]? =w.heap[j]?)/\w'.heap.size=w.heap.size/\w'.os=w.os/\w'.tape=w.tape/\w'.output=w.output:=by
 obtain⟨es,clock,h1,h2⟩:=h;have hf:=iG.find hk w h2 x;cases hr:pG l x 0 with
 |none=>
  obtain⟨-,hu⟩:=EC l x 0 hr;rw[hr]at hf;simp only[Option.map_none]at hf;refine⟨{w with heap:=w.heap.setIfInBounds B (.map (es.push ⟨K x,V v,clock⟩) (clock+1))},?_,⟨_,_,(MapKept.heap_set h1).1,?_⟩,fun j hj=>(MapKept.heap_set h1).2 j hj,by simp,rfl,rfl,rfl⟩
  ·simp[Instr.mapUpdate,run_underlying ht,MapKept.run_getObj_map h1,hk.DW w,hf,MapKept.run_setObj_map _ h1,Result.andThen]
  ·rw[hu,Array.toList_push,List.map_append,h2,List.map_append]
   rfl
 |some q=>
  obtain⟨j,u⟩:=q;obtain⟨-,k,hj,hlk,hu⟩:=ED l x 0 j u hr;rw[bV]at hj;subst hj;rw[hr]at hf;simp only[Option.map_some]at hf;have hlen:es.toList.length=l.length:=by have:=nI List.length h2;simpa using this
  have hkl:j<l.length:=(List.getElem?_eq_some_iff.1 hlk).1;have hke:j<es.size:=by rw[<-lK,hlen];exact hkl
  have hek:es[j].key=K x:=by
   have:=nI (fun z=>z[j]?) h2;simp only[List.getElem?_map,hlk,Option.map_some]at this;rw[fP (by rw[hlen];exact hkl),Option.map_some,Option.some.injEq,Prod.mk.injEq]at this;simpa using this.1
  have hj':es[j]? =some es[j]:=Cu hke;refine⟨{w with heap:=w.heap.setIfInBounds B (.map (es.modify j fun e=>{e with key:=K x,val:=V v}) clock)},?_,⟨_,_,(MapKept.heap_set h1).1,?_⟩,fun j hj=>(MapKept.heap_set h1).2 j hj,by simp,rfl,rfl,rfl⟩
  ·simp[Instr.mapUpdate,run_underlying ht,MapKept.run_getObj_map h1,hk.DW w,hf,hj',hek,Instr.keyThatStays,hk.same x,MapKept.run_setObj_map _ h1,Result.andThen]
  ·rw[hu]
   apply List.ext_getElem?;intro n;have h3:=nI (fun z=>z[n]?) h2;simp only[List.getElem?_map]at h3⊢;rw[List.getElem?_set];by_cases hn:j=n
   ·subst hn
    rw[bH rfl,bH hkl];simp[Array.getElem?_modify,hke]
   ·rw[aU hn,<-h3]
    simp[Array.getElem?_modify,hn]
variable {ops:Array Oper} {rest:List Oper} {o:Oper} {a:Act} {Q:Exit->Act->World->Prop}
theorem GV(m x:Operand)(b:Bool)(hop:o.op=.lookup mt m x b)(hk:vw kt K)(ht:prog.underlying mt=some (.map kt et))(z:Value)(hz:(zeroValue et).run prog w=.ok z w)(hw:Region.wanted o (yielded ops a.tmps)=true)(h:iG K V B w l)(hm:a.eval m=.map (some B))(k:κ)(hx:a.eval x=K k)
 (hK:wpList prog ops Q rest (a.put o.dst (if b then .tuple #[((assoc l k).map V).getD z,.bool (assoc l k).isSome]else((assoc l k).map V).getD z)) w):wpList prog ops Q (o::rest) a w:=by
 have hb:=h.look hk ht z hz k b;refine wpList_want hw fun K' hK'=> ?_;unfold Oper.wp;simp only[execOp,hop,hm,hx];simp only[Sem.run_bind,hb,Result.andThen_ok,Sem.run_pure];exact hK' _ _ hK
theorem zq(m x v:Operand)(hop:o.op=.mapUpdate mt m x v)(hk:vw kt K)(ht:prog.underlying mt=some (.map kt et))(hw:Region.wanted o (yielded ops a.tmps)=true)(h:iG K V B w l)(hm:a.eval m=.map (some B))(k:κ)(hx:a.eval x=K k)(c:ν)(hv:a.eval v=V c)
 (hK:∀w',iG K V B w' (upd l k c)->(∀j,j≠B->w'.heap[j]? =w.heap[j]?)->w'.heap.size=w.heap.size->w'.os=w.os->w'.tape=w.tape->w'.output=w.output->wpList prog ops Q rest (a.put o.dst undef) w'):wpList prog ops Q (o::rest) a w:=by
 obtain⟨w',h1,h2,h3,h4,h5,h6,h7⟩:=h.set hk ht k c;refine wpList_want hw fun K' hK'=> ?_;unfold Oper.wp;simp only[execOp,hop,hm,hx,hv];simp only[Sem.run_bind,h1,Result.andThen_ok,Sem.run_pure];exact hK' _ _ (hK w' h2 h3 h4 h5 h6 h7)
end
section
variable {κ ν:Type} {K:κ->Value} {V:ν->Value} {w w':World} {B:Nat} {l:List (κ×ν)} [DecidableEq κ] {mt kt et:TypeId} {ops:Array Oper} {rest:List Oper} {o:Oper} {a:Act} {Q:Exit->Act->World->Prop}
theorem GX(m x:Operand)(hop:o.op=.lookup mt m x false)(hk:vw kt K)(ht:prog.underlying mt=some (.map kt et))(z:Value)(hz:(zeroValue et).run prog w=.ok z w)(hw:Region.wanted o (yielded ops a.tmps)=true)(h:iG K V B w l)(hm:a.eval m=.map (some B))(k:κ)(hx:a.eval x=K k)
 (u:Value) (hu:((assoc l k).map V).getD z=u) (hK:wpList prog ops Q rest (a.put o.dst u) w):wpList prog ops Q (o::rest) a w:=
 GV m x false hop hk ht z hz hw h hm k hx (by simp only[Bool.false_eq_true,if_false];rw[hu];exact hK)
theorem Sg(m x:Operand)(hop:o.op=.lookup mt m x true)(hk:vw kt K)(ht:prog.underlying mt=some (.map kt et))(z:Value)(hz:(zeroValue et).run prog w=.ok z w)(hw:Region.wanted o (yielded ops a.tmps)=true)(h:iG K V B w l)(hm:a.eval m=.map (some B))(k:κ)(hx:a.eval x=K k)
 (u:Value) (b:Bool) (hu:((assoc l k).map V).getD z=u) (hb:(assoc l k).isSome=b) (hK:wpList prog ops Q rest (a.put o.dst (.tuple #[u,.bool b])) w):wpList prog ops Q (o::rest) a w:=
 GV m x true hop hk ht z hz hw h hm k hx (by simp only[if_true];rw[hu,hb];exact hK)
end
theorem Si(w:World):(zeroValue 4).run prog w=.ok (.bool false) w:=by
 have u:=underlying4
 go_simp
theorem jg:vw 3 (fun x:Int=>Value.int .i64 x):=by
 have hc:∀(w:World) (b:Bool) (x:Int),(Instr.checkKey b 10000 3 (.int .i64 x)).run prog w=.ok () w:=fun w b x=>by
  have hk:=MapKept.run_checkKey (P:=prog) (w:=w) (kt:=3) underlying3 (k:=.int .i64 x) (by simp[MapKept.IsKey]) b 9999;rw[show(10000:Nat)=9999+1 from rfl];exact hk
 have hs:∀x:Int,Instr.sameBits 10000 (.int .i64 x) (.int .i64 x)=true:=fun x=>by
  rw[show(10000:Nat)=9999+1 from rfl,Instr.sameBits];simp
 refine⟨hc,fun w x es ps h=> ?_,hs⟩;refine MapKept.run_findKey underlying3 ?_
 have go:∀(es:List MapEntry) (ps:List (Int×Value)) (i:Nat),es.map (fun e=>(e.key,e.val))=ps.map (fun p=>(Value.int .i64 p.1,p.2))->Instr.findNow (.int .i64) (.int .i64 x) es i=some (pG ps x i):=by
  intro es
  induction es with
  |nil=>
   intro ps i h;cases ps with
   |nil=>rfl
   |cons p ps=>simp at h
  |cons e es ih=>
   intro ps i h;cases ps with
   |nil=>simp at h
   |cons p ps=>
    simp only[gX,List.cons.injEq,Prod.mk.injEq]at h;obtain⟨⟨h1,h2⟩,h3⟩:=h;rw[Instr.findNow,h1,pG];simp only[Instr.sameNow,if_true];by_cases hx:x=p.1
    ·simp[hx,h2]
    ·have:(x==p.1)=false:=by simpa using hx
     simp only[this];rw[aU hx];exact ih ps (i+1) h3
 exact go es ps 0 h
theorem Wv{κ:Type}[DecidableEq κ]{kt:TypeId}{K:κ->Value}(wide:(match prog.underlying kt with|some (.array _ _)|some (.struct _)=>true|_=>false)=true)
 (DW:∀(w:World) (b:Bool) (x:κ),(Instr.checkKey b 10000 kt (K x)).run prog w=.ok () w) (eq:∀(w:World) (x y:κ),(Op.equal kt (K x) (K y)).run prog w=.ok (decide (x=y)) w) (same:∀x:κ,Instr.sameBits 10000 (K x) (K x)=true):vw kt K:=by
 refine⟨DW,fun w x es ps h=> ?_,same⟩;rw[run_findKey_eq w wide]
 have go:∀(es:List MapEntry) (ps:List (κ×Value)) (i:Nat),es.map (fun e=>(e.key,e.val))=ps.map (fun p=>(K p.1,p.2))->(Instr.findAsking kt (K x) es i).run prog w=.ok (pG ps x i) w:=by
  intro es
  induction es with
  |nil=>
   intro ps i h;cases ps with
   |nil=>rfl
   |cons p ps=>simp at h
  |cons e es ih=>
   intro ps i h;cases ps with
   |nil=>simp at h
   |cons p ps=>
    simp only[gX,List.cons.injEq,Prod.mk.injEq]at h;obtain⟨⟨h1,h2⟩,h3⟩:=h;rw[Instr.findAsking,Sem.run_bind,h1,eq,Result.andThen_ok,pG];by_cases hx:x=p.1
    ·rw[bH hx,bJ hx,h2]
     rfl
    ·rw[aU hx,aY hx]
     exact ih ps (i+1) h3
 exact go es ps 0 h
section
variable {κ ν:Type} [DecidableEq κ] {K:κ->Value} {V:ν->Value} {mt kt et:TypeId} {w:World} {B:Nat} {l:List (κ×ν)} {ops:Array Oper} {rest:List Oper} {o:Oper} {a:Act} {Q:Exit->Act->World->Prop}
theorem fG(m x v:Operand)(hop:o.op=.insert mt m x v)(hk:vw kt K)(ht:prog.underlying mt=some (.map kt et))(hw:Region.wanted o (yielded ops a.tmps)=true)(h:iG K V B w l)(hm:a.eval m=.map (some B))(k:κ)(hx:a.eval x=K k)(c:ν)(hv:a.eval v=V c)
 (hK:∀w',iG K V B w' (upd l k c)->(∀j,j≠B->w'.heap[j]? =w.heap[j]?)->w'.heap.size=w.heap.size->w'.os=w.os->w'.tape=w.tape->w'.output=w.output->wpList prog ops Q rest (a.put o.dst undef) w'):wpList prog ops Q (o::rest) a w:=by
 obtain⟨w',h1,h2,h3,h4,h5,h6,h7⟩:=h.set hk ht k c;refine wpList_want hw fun K' hK'=> ?_;unfold Oper.wp;simp only[execOp,hop,hm,hx,hv];simp only[Sem.run_bind,h1,Result.andThen_ok,Sem.run_pure];exact hK' _ _ (hK w' h2 h3 h4 h5 h6 h7)
end
def dZ(f:Nat):Value:=.func (.func f) #[] #[]
def QB:List (Int×Nat):=[(7,58),(9,58),(8,60)]
theorem Ph(w:World):Calls prog 46 #[] w fun e w'=>∃B,e=.returned (.map (some B))/\iG (fun x:Int=>Value.int .i64 x) dZ B w' QB/\Ext w w':=by
 have hmm:= @run_makeMap prog;have hx0:Ext w (w.alloc (.map #[] 0)):=(Ext.refl w).alloc _;go_enter func46,ntmps46
 go_wp2_with (first|(refine fG (K:=fun x:Int=>Value.int .i64 x) (V:=dZ) (.tmp 1) (.const (.int .i64 7)) (.func 58) rfl jg underlying108 rfl (iG.made w) rfl 7 rfl 58 rfl ?_;intro w2 hM2 hb2 hs2 uD uE uF;have hx2:Ext w w2:=Ext.put hx0 (b:=w.heap.size) (aI _) hb2 uD uE uF hs2;clear hb2 uD uE uF hs2)|(refine fG (K:=fun x:Int=>Value.int .i64 x) (V:=dZ) (.tmp 1) (.const (.int .i64 9)) (.func 58) rfl jg underlying108 rfl hM2 rfl 9 rfl 58 rfl ?_;intro w3 hM3 hb3 hs3 gQ gT gU;have hx3:Ext w w3:=Ext.put hx2 (b:=w.heap.size) (aI _) hb3 gQ gT gU hs3;clear hb3 gQ gT gU hs3)|(refine fG (K:=fun x:Int=>Value.int .i64 x) (V:=dZ) (.tmp 1) (.const (.int .i64 8)) (.func 60) rfl jg underlying108 rfl hM3 rfl 8 rfl 60 rfl ?_;intro w4 Pj hb4 hs4 dP dQ dR;have hx4:Ext w w4:=Ext.put hx3 (b:=w.heap.size) (aI _) hb4 dP dQ dR hs4;clear hb4 dP dQ dR hs4))
 go_ret;exact⟨_,rfl,Pj,hx4⟩
def mI(k:Int):Option Nat:=assoc QB k
theorem L8{k:Int}{f:Nat}(h:mI k=some f):(7<=k/\k<=9)/\(f=58∨f=60):=by
 unfold mI QB at h;rw[assoc]at h
 split at h
 ·rename_i h1
  simp only[Option.some.injEq]at h;exact⟨by simp only at h1;omega,.inl h.symm⟩
 ·rw[assoc]at h
  split at h
  ·rename_i h1
   simp only[Option.some.injEq]at h;exact⟨by simp only at h1;omega,.inl h.symm⟩
  ·rw[assoc]at h
   split at h
   ·rename_i h1
    simp only[Option.some.injEq]at h;exact⟨by simp only at h1;omega,.inr h.symm⟩
   ·rw[assoc]at h;cases h
def X4:Ty:=⟨fun v w=>∃B,v=.map (some B)/\iG (fun x:Int=>Value.int .i64 x) dZ B w QB,fun _ _ _ he ⟨B,h1,h2⟩=>⟨B,h1,h2.ext he⟩⟩
theorem ajC(w:World):(zeroValue 106).run prog w=.ok .nilFunc w:=by
 have u:=underlying106
 go_simp
def Jf(k:Int):Value:=.tuple #[((mI k).map dZ).getD .nilFunc,.bool (mI k).isSome]
theorem Sj{ρ:Operand->Value}{o:Oper}{w:World}(m x:Operand)(ho:o.op=.lookup 108 m x true)(hm:X4.p (ρ m) w)(k:Int)(hx:ρ x=.int .i64 k):bL prog ρ o w (Ty.is (Jf k)).p:=by
 obtain⟨B,hB,hM⟩:=hm;have hb:=hM.look jg underlying108 .nilFunc (ajC w) k true;simp only[if_true]at hb;refine eT (w':=w) (v:=Jf k) ?_ (Ext.refl _) rfl;simp only[execOp,ho,hB,hx];simp only[Sem.run_bind,hb,Result.andThen_ok,Sem.run_pure];rfl
theorem kK{fn:Func}{t:Tmp}{ty:TypeId}(h:fn.results= #[.cell t ty])(hag:∀w,(isAgg ty).run prog w=.ok true w)(cs:List Value)(hsz:∀w,(sizeOf ty).run prog w=.ok cs.length w)(tmps:Array Value)(w:World)(b:Nat)(hp:tmps.getD t undef=.pointer (some ⟨b,0,none⟩))(hc:w.heap[b]? =some (.cells cs.toArray ty (0,0))):
 (results fn tmps).run prog w=.ok (.agg cs.toArray) w:=by
 have hl:=run_loadCells_list (P:=prog) w ⟨b,0,none⟩ cs (fun j u hu=>by
  have hadd:(⟨b,0,none⟩:Addr).add j=⟨b,j,none⟩:=by unfold Addr.add;split<;>simp_all
  rw[hadd];simp only[World.cell?,hc];simpa using hu)
 have hp':tmps[t]?.getD undef=.pointer (some ⟨b,0,none⟩):=by simpa using hp
 simp[results,h,hp',asAddr,loadVar,hag,hsz,hl]
structure lC where
 k:Int
 d:Int
 e:ByteArray
def lC.cells(x:lC):List Value:=[.int .i64 x.k,.int .i64 x.d,.string x.e]
def xV(a b:lC):lC:=if b.k≠0 then b else a
theorem ahU(a b:lC)(w:World):Calls prog 45 #[.agg a.cells.toArray,.agg b.cells.toArray] w fun e w'=>e=.returned (.agg (xV a b).cells.toArray)/\Ext w w':=by
 obtain⟨k,d,e⟩:=a;obtain⟨k',d',e'⟩:=b;simp only[xV,lC.cells];by_cases hk:k'=0
 ·have f1:decide (k'=0)=true:=bJ hk
  have f2:(k'==0)=true:=by simp[hk]
  have Hk:=ah hk;clear hk;go_enter func45,ntmps45
  go_wp2;refine bodyPost_ret (kK rfl isAgg39 [.int .i64 k,.int .i64 d,.string e] sizeOf39 _ _ (w.heap.size+1+1) rfl (by have:=heap_alloc_new ((w.alloc (.cells #[.int .i64 k,.int .i64 d,.string e] 39)).alloc (.cells #[.int .i64 k',.int .i64 d',.string e'] 39)) (.cells #[.int .i64 k,.int .i64 d,.string e] 39);simpa using this)) rfl ?_;refine⟨?_,(((Ext.refl w).alloc _).alloc _).alloc _⟩;simp[Hk.out]
 ·have f1:decide (k'=0)=false:=aY hk
  have f2:(k'==0)=false:=by simp[hk]
  have Hk:=ah hk;clear hk;go_enter func45,ntmps45
  go_wp2;refine bodyPost_ret (kK rfl isAgg39 [.int .i64 k',.int .i64 d',.string e'] sizeOf39 _ _ (w.heap.size+1+1) rfl (by have:=heap_alloc_new ((w.alloc (.cells #[.int .i64 k,.int .i64 d,.string e] 39)).alloc (.cells #[.int .i64 k',.int .i64 d',.string e'] 39)) (.cells #[.int .i64 k',.int .i64 d',.string e'] 39);simpa using this)) rfl ?_;refine⟨?_,(((Ext.refl w).alloc _).alloc _).alloc _⟩;simp[Hk.out]
theorem X5(r:dY)(name:ByteArray)(B:Nat)(w:World)(hB:B<w.heap.size)(hc:w.cell? ⟨B,0,none⟩=some (.string name)):
 Calls prog 81 #[.agg r.cells.toArray,.pointer (some ⟨B,0,none⟩)] w (lN w):=by
 unfold lN;go_enter func81,ntmps81
 go_upto_region 1 with(refine aG bF (.tmp 0) rfl rfl r rfl fun wA aR bG bB aO=> ?_)
 have p3:=aO.one 3 (u:=.int .i64 r.it.kind) rfl;have p26:=aO.one 26 (u:=.string r.it.ev) rfl;simp only[bV]at p3 p26;have c0:=(aR.cell (p:=⟨B,0,none⟩) hB).trans hc;clear bG bB aO hc;by_cases hk:r.it.kind=10
 ·have f1:decide (r.it.kind=10)=true:=bJ hk
  have f2:(r.it.kind==10)=true:=by simp[hk]
  clear hk;go_wp2;go_ret;exact⟨_,rfl,aR⟩
 ·have f1:decide (r.it.kind=10)=false:=aY hk
  have f2:(r.it.kind==10)=false:=by simp[hk]
  clear hk;go_wp2;go_ret;exact⟨_,rfl,aR⟩
theorem Sk(rs:List dY)(A:Option Addr)(c B:Nat)(name:ByteArray)(w:World)(hs:Sl bF w A rs)(hn:rs.length<=100000)(hB:B<w.heap.size)(hc:w.cell? ⟨B,0,none⟩=some (.string name)):
 Calls prog 80 #[.slice A rs.length c,.func (.func 81) #[] #[.pointer (some ⟨B,0,none⟩)]] w fun e w'=>∃j:Int,e=.returned (.int .i64 j)/\(j= -1∨∃n:Nat,n<rs.length/\j=(n:Int))/\Ext w w':=by
 go_enter func80,ntmps80
 go_wp2
 go_loopw [8] (fun vi wr=>∃k:Nat,k<=rs.length/\vi=.int .i64 (k:Nat)/\Ext w wr) (fun vi _=>rs.length-(intOf vi).toNat)
 case atStart=>exact⟨0,bI _,rfl,Ext.refl _⟩
 case round=>
  obtain⟨k,hk,rfl,hext⟩:=hrel;by_cases hlt:k<rs.length
  ·have f1:=eY k rs.length
   obtain⟨b,off,hA,hb,hcs⟩:=(hs.ext hext).at_ hlt;obtain⟨q,hq⟩:=aH (rs[k]);rw[hq]at hcs;have jD:=ah (show At wr b (off+k*28) q.cells from hcs);have He:=ah (X5 q name B wr (bQ hB hext.size) ((hext.cell (p:=⟨B,0,none⟩) hB).trans hc));have HA:=ah hA;clear hcs hq hA;rw[HA.out];go_wp2_with (((with_reducible refine au bF (.tmp 14) ?_ ?_ ?_ b (off+k*28) ?_ q ?_ ?_);rfl;rfl;rfl;rfl;exact jD.out))
   refine He.out.mono ?_;rintro e w2 ⟨bb,rfl,hx2⟩;cases bb with
   |true=>
    go_wp2;go_ret;exact⟨_,rfl,.inr ⟨k,hlt,rfl⟩,hext.trans hx2⟩
   |false=>
    go_wp2;go_roundw
    case rel=>exact⟨k+1,by omega,by go_num,hext.trans hx2⟩
    case measure=>simp[intOf];omega
  ·have f1:=fT k rs.length
   go_wp2;go_ret;exact⟨_,rfl,.inl rfl,hext⟩
theorem Sm(rs:List dY)(A:Option Addr)(c:Nat)(name:ByteArray)(w:World)(hs:Sl bF w A rs)(hn:rs.length<=100000):
 Calls prog 59 #[.string name,.slice A rs.length c] w fun e w'=>∃(d:Int) (b:Bool),e=.returned (.tuple #[.int .i64 d,.bool b])/\Ext w w':=by
 have hx1:Ext w (w.alloc (.cells #[.string name] 9)):=(Ext.refl w).alloc _;have Hi:=ah (Sk rs A c w.heap.size name _ (hs.ext hx1) hn (by simp) (by have h:=heap_alloc_new w (.cells #[.string name] 9);simp only[World.cell?,h];rfl));obtain⟨w1,hw1⟩:=aH (w.alloc (.cells #[.string name] 9));rw[hw1]at hx1 Hi;have DX:=ah hw1;clear hw1;go_enter func59,ntmps59
 go_wp2_with fail
 rw[DX.out];refine Hi.out.mono ?_;rintro e w2 ⟨j,rfl,hj,hx2⟩;rcases hj with rfl|⟨n,hn2,rfl⟩
 ·go_wp2
  refine bodyPost_ret (results_tmp2 rfl _ _ _) rfl ?_;exact⟨_,_,rfl,hx1.trans hx2⟩
 ·have f1:=fT n 0
  obtain⟨b,off,hA,hb,hcs⟩:=(hs.ext (hx1.trans hx2)).at_ hn2;obtain⟨q,hq⟩:=aH (rs[n]);rw[hq]at hcs;have p25:w2.cell? ⟨b,off+n*28+25,none⟩=some (.int .i64 q.it.day):=hcs 25 (.int .i64 q.it.day) rfl;have HA:=ah hA;clear hcs hq hA;rw[HA.out];go_wp2;refine bodyPost_ret (results_tmp2 rfl _ _ _) rfl ?_;exact⟨_,_,rfl,hx1.trans hx2⟩
theorem Vr(s:lC)(rs:List dY)(A:Option Addr)(c:Nat)(w:World)(hs:Sl bF w A rs)(hn:rs.length<=100000):
 Calls prog 44 #[.agg s.cells.toArray,.slice A rs.length c] w fun e w'=>∃p,wR w p e w'/\(s.k=1->∀x,p x=KA (fun _=>false) s.d x):=by
 obtain⟨k,d,ev⟩:=s;simp only[lC.cells];have hx1:Ext w (w.alloc (.cells #[.int .i64 k,.int .i64 d,.string ev] 39)):=(Ext.refl w).alloc _;have hb:=heap_alloc_new w (.cells #[.int .i64 k,.int .i64 d,.string ev] 39);obtain⟨w1,hw1⟩:=aH (w.alloc (.cells #[.int .i64 k,.int .i64 d,.string ev] 39));rw[hw1]at hx1 hb;have c0:w1.cell? ⟨w.heap.size,0,none⟩=some (.int .i64 k):=by simp[World.cell?,hb]
 have c1:w1.cell? ⟨w.heap.size,1,none⟩=some (.int .i64 d):=by simp[World.cell?,hb]
 have c2:w1.cell? ⟨w.heap.size,2,none⟩=some (.string ev):=by simp[World.cell?,hb]
 have Hx:=ah (fun(d:Int) wq=>L6 [] none 0 d wq Sl.nil (by simp));have GA:=ah (Sm rs A c ev w1 (hs.ext hx1) hn);have DX:=ah hw1;have He0:=ah (show dz ([]:List bK)=fun _=>false from funext fun x=>rfl);rw[He0.out]at Hx;simp only[List.length_nil]at Hx;clear hw1 hb hs;by_cases h1:k=1
 ·have f1:decide (k=1)=true:=bJ h1
  have f2:(k==1)=true:=by simp[h1]
  have Hr:=ah (Hx.out d w1);clear h1;go_enter func44,ntmps44
  go_wp2_with fail
  rw[DX.out];go_wp2_with fail
  refine Hr.out.mono ?_;rintro e w2 ⟨A1,c1,M1,rfl,hc1,hs1,hn1,hm1,hx2⟩;go_wp2;go_ret;exact⟨_,⟨A1,c1,M1,rfl,hc1,hs1,hn1,hm1,hx1.trans hx2⟩,fun _ x=>rfl⟩
 ·have f1:decide (k=1)=false:=aY h1
  have f2:(k==1)=false:=by simp[h1]
  have Wu:=ah h1;clear h1;by_cases h3:k=3
  ·have f3:decide (k=3)=true:=bJ h3
   have f4:(k==3)=true:=by simp[h3]
   clear h3;go_enter func44,ntmps44
   go_wp2_with fail
   rw[DX.out];go_wp2_with fail
   refine GA.out.mono ?_;rintro e w2 ⟨d2,bb,rfl,hx2⟩;cases bb with
   |false=>
    go_wp2;go_ret;exact⟨_,⟨none,0,[],rfl,aI _,Sl.nil,Norm.nil,fun x=>rfl,hx1.trans hx2⟩,fun h=>absurd h Wu.out⟩
   |true=>
    have Hr:=ah (Hx.out d2 w2);go_wp2_with fail
    refine Hr.out.mono ?_;rintro e w3 ⟨A1,c1,M1,rfl,hc1,hs1,hn1,hm1,hx3⟩;go_wp2;go_ret;exact⟨_,⟨A1,c1,M1,rfl,hc1,hs1,hn1,hm1,hx1.trans (hx2.trans hx3)⟩,fun h=>absurd h Wu.out⟩
  ·have f3:decide (k=3)=false:=aY h3
   have f4:(k==3)=false:=by simp[h3]
   clear h3;go_enter func44,ntmps44
   go_wp2_with fail
   rw[DX.out];go_wp2;go_ret;exact⟨_,⟨none,0,[],rfl,aI _,Sl.nil,Norm.nil,fun x=>rfl,hx1⟩,fun h=>absurd h Wu.out⟩
end Go.Proofs.YtgboomjahhnldaaGreatDoor
