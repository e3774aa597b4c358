/- A part of the proof of TopWritten, printed small: TFindN TWout PutW RepW TInvP. -/
import Derived.Test.YtgboomjahhnldaaGreatDoorZ08
import Derived.Test.YtgboomjahhnldaaGreatDoorZ11
import Derived.Test.YtgboomjahhnldaaGreatDoorZ09
import Derived.Test.YtgboomjahhnldaaGreatDoorZ27
import Derived.Test.YtgboomjahhnldaaGreatDoorZ29
import Derived.Test.YtgboomjahhnldaaGreatDoorZ05
set_option maxRecDepth 100000
set_option maxHeartbeats 25600000
set_option linter.all false
namespace Go.Proofs.YtgboomjahhnldaaGreatDoor
open Go.Proofs.Tryz Go.RowKit
def Ul(x:Option av)(w:World)(e:Ending)(w':World):Prop:=Ext w w'/\match x with
 |none=>e=.returned (.tuple #[.agg dU.cells.toArray,.bool false])
 |some u=>∃r':aB,e=.returned (.tuple #[.agg r'.cells.toArray,.bool true])/\Reads (mask (fresh w.heap.size) w') u r'
theorem CY(u:av)(r:aB)(id:bf)(w:World)(hr:Reads w u r)(hok:dI u):Calls prog 55 #[.agg r.cells.toArray,.agg id.cells.toArray] w (Ul (findF id u) w):=by
 have vN:=ah (fun wq (he:Ext w wq)=>Bl _ u r id wq (aI _) (Reads.ext he u r hr) hok);have fI:=ah (fun x (hx:x∈cZ id u)=>hok.pre (yT id u x hx));have hln:=bX (vM id u) hok.cnt;unfold findF;obtain⟨W,hW⟩:=aH (cZ id u);rw[hW]at vN fI hln⊢;have uq:=UI.new r id w;have hx0:Ext w ((w.alloc (.cells r.cells.toArray 30)).alloc (.cells id.cells.toArray 26)):=((Ext.refl w).alloc _).alloc _;have hx3:Ext ((w.alloc (.cells r.cells.toArray 30)).alloc (.cells id.cells.toArray 26)) (((w.alloc (.cells r.cells.toArray 30)).alloc (.cells id.cells.toArray 26)).alloc (.cells dU.cells.toArray 30)):=(Ext.refl _).alloc _;have xP:=heap_alloc_new ((w.alloc (.cells r.cells.toArray 30)).alloc (.cells id.cells.toArray 26)) (.cells dU.cells.toArray 30);replace uq:=uq.ext hx3;replace hx0:=hx0.trans hx3;clear hx3;rw[show((w.alloc (.cells r.cells.toArray 30)).alloc (.cells id.cells.toArray 26)).heap.size=w.heap.size+2 by simp]at xP;obtain⟨ra,ri,rn,rk,rl,fU,hn,hc,wA,wn,wc,kA,kn,kc⟩:=r;obtain⟨ia,ii,iN⟩:=id;simp only[aB.cells,bf.cells,dU]at*;obtain⟨wb,hwb⟩:=aH (((w.alloc (.cells #[.int .i64 ra,.int .i64 ri,.int .i64 rn,.int .i64 rk,.string rl,.slice fU hn hc,.slice wA wn wc,.slice kA kn kc] 30)).alloc (.cells #[.int .i64 ia,.int .i64 ii,.int .i64 iN] 26)).alloc (.cells #[.int .i64 0,.int .i64 0,.int .i64 0,.int .i64 0,.string ⟨#[]⟩,.slice none 0 0,.slice none 0 0,.slice none 0 0] 30));rw[hwb]at uq hx0 xP;have BG:=ah (show w.heap.size+3=wb.heap.size by rw[<-hwb];simp);have lH:=ah hwb;have Rz:=ah uq;have jv:=ah hx0;have uz:=ah xP;clear xP;clear hwb uq hx0 hr hok hW;have xQ:=ah (vN.out wb jv.out);obtain⟨c0,c1,c2,c3,c4,c5,c6,c7,i0,i1,i2⟩:=Rz.out.cells;dsimp only at c0 c1 c2 c3 c4 c5 c6 c7 i0 i1 i2;go_enter func55,ntmps55
 go_wp2_with fail
 rw[lH.out];go_wp2_with fail
 refine(xQ.out).mono ?_;rintro e w2 ⟨hx2,hres⟩;have xM:=(hx2.block (k:=w.heap.size+2) (by rw[<-BG.out];omega)).trans uz.out;have hlt2:w.heap.size+2<w2.heap.size:=by have:=hx2.size;have:=ay uz.out;omega
 clear c0 c1 c2 c3 c4 c5 c6 c7 i0 i1 i2 vN xQ;rcases hres with⟨rfl,rfl⟩|⟨hne,b2,c2,j3,rfl,hl2,hown2,xO⟩
 ·go_wp2_with (refine aP rfl 30 (.tmp 4) (.tmp 13) rfl (w.heap.size+2) 0 (.agg #[.int .i64 0,.int .i64 0,.int .i64 0,.int .i64 0,.string ⟨#[]⟩,.slice none 0 0,.slice none 0 0,.slice none 0 0]) rfl rfl (aB.cells dU) rfl sizeOf30 (by simp[aB.cells,dU,Value.oneCell']) 30 _ xM (by simp[dU,aB.cells]) ?_;intro w3 hw3 gQ gT gU hs3 jw)
  have hfin:w3.heap[w.heap.size+2]? =some (.cells dU.cells.toArray 30 (0,0)):=by
   rw[jw];simp[aB.cells,dU]
  refine bodyPost_ret (dA rfl _ _ (w.heap.size+2) _ rfl hfin) rfl ?_;exact⟨(jv.out.trans hx2).put (by omega) hw3 gQ gT gU hs3,rfl⟩
 ·have hn1:0<j3.length:=by rw[hl2];exact List.length_pos_iff.2 hne
  have hsl2:Sl aj w2 (some ⟨b2,0,none⟩) j3:=by
   obtain⟨A',c',hv,-,hs⟩:=hown2.form;cases hv
   exact hs
  have hlt:j3.length-1<j3.length:=by omega
  have hltW:j3.length-1<W.length:=by omega
  obtain⟨q,hq⟩:=aH (j3[j3.length-1]);obtain⟨_,_,lI,hb2,u0,u1,u2,u3,u4,u5,u6,u7⟩:=qb hsl2 hlt hq;cases lI
  obtain⟨x,hx⟩:=aH (W[j3.length-1]);have Gn:Reads w2 x q:=by rw[<-hx,<-hq];exact ReadsAll.get xO _ hltW hlt
  have hlast:W.getLast? =some x:=by
   rw[List.getLast?_eq_getElem?,<-hl2,fP hltW,hx]
  have Es:dI x:=fI.out x (by rw[<-hx];exact dW hltW);have RA:=ah (Jv x q w2 Gn Es.LB);obtain⟨j,hj⟩:=aH (j3.length-1);have hj2:j3.length=j+1:=by omega
  rw[hj]at u0 u1 u2 u3 u4 u5 u6 u7;rw[bV]at u0 u1 u2 u3 u4 u5 u6 u7;have XE:=ah hlast;simp only[aB.cells]at RA;have hjb:j<=1000:=by omega
  rw[hj2];clear hq hx Gn hlast Es xO hown2 hsl2 fI hlt hltW hj hl2 hn1 hne hj2;go_wp2_with fail
  refine(RA.out).mono ?_;rintro e w3 ⟨r',rfl,hx3,hrd⟩;have Km:=(hx3.block hlt2).trans xM;have adr:=hx3.size;have qZ:=ah (Reads.cin (aZ.iV _ _) _ _ hrd);have Kn:=ah hrd;clear u0 u1 u2 u3 u4 u5 u6 u7 xM RA hrd;go_wp2_with (refine aP rfl 30 (.tmp 4) (.tmp 20) rfl (w.heap.size+2) 0 (.agg r'.cells.toArray) rfl rfl (aB.cells r') rfl sizeOf30 (by simp[aB.cells,Value.oneCell']) 30 _ Km (by simp[dU,aB.cells]) ?_;intro w4 hw4 dP dQ dR hs4 eX)
  have hfin:w4.heap[w.heap.size+2]? =some (.cells r'.cells.toArray 30 (0,0)):=by
   rw[eX];simp[aB.cells,dU]
  refine bodyPost_ret (dA rfl _ _ (w.heap.size+2) _ rfl hfin) rfl ?_;have hci:aZ (mask (fresh w2.heap.size) w3) (mask (fresh w.heap.size) w4):=aZ.keep (p:=fresh w2.heap.size) (q:=fresh w.heap.size) (by omega) (fun k hk hpk=>⟨hw4 k (by simp[fresh]at hpk;omega),by simp[fresh]at hpk⊢;omega⟩);unfold Ul;rw[XE.out];exact⟨((jv.out.trans hx2).trans hx3).put (by omega) hw4 dP dQ dR hs4,r',rfl,Reads.cin hci _ _ Kn.out⟩
def oL(d:Nat->Bool)(b:Nat):Nat->Bool:=fun k=>d k||decide (k=b)
theorem P8{d:Nat->Bool}{b k:Nat}(h:oL d b k=false):d k=false/\k≠b:=by simpa[oL]using h
theorem EZ{d:Nat->Bool}{b k:Nat}(h:oL d b k=true):d k=true∨k=b:=by simpa[oL]using h
theorem aZ.dark{d:Nat->Bool}{w w':World}{b:Nat}(he:Ext w w')(hb:w.heap.size<=b):aZ (mask d w) (mask (oL d b) w'):=
 aZ.qM he (fun k hk h=>by unfold oL;rw[h,Bool.false_or];exact aY (by omega))
theorem aZ.light{d:Nat->Bool}{w w':World}{b:Nat}(hs:w'.heap.size=w.heap.size)(h:∀k,k≠b->w'.heap[k]? =w.heap[k]?):aZ (mask (oL d b) w) (mask d w'):=
 aZ.keep (by omega) (fun k hk hd=>⟨h k (P8 hd).2,(P8 hd).1⟩)
def alk(d:Nat->Bool)(id:bf)(u:av)(w:World)(e:Ending)(w':World):Prop:=∃(p:av) (j:Nat) (r':aB),e=.returned (.agg r'.cells.toArray)/\Ext w w'/\pF id u p j/\Reads (mask d w') (fZ p.id (fun x=>x.dJ (x.kids.eraseIdx j)) u) r'
theorem J3(d:Nat->Bool)(u:av)(r:aB)(id:bf)(w:World)(hd:∀j,d j=true->j<w.heap.size)(hr:Reads (mask d w) u r)(hok:dI u)(h2:2<=(cZ id u).length)(hpre:∀p j,pF id u p j->∀x∈bO u,x.id=p.id->j<x.kids.length):
 Calls prog 105 #[.agg r.cells.toArray,.agg id.cells.toArray] w (alk d id u w):=by
 have Ck:=ah (fun wq (he:Ext w wq)=>uR u r id wq (Reads.ext he u r (Reads.cin (aZ.iV d w) u r hr)) hok)
 have ow:=ah (fun(B j b:Nat) (p:av) (wq:World) (he:Ext w wq) (hb:w.heap.size<=b) (hb2:b<wq.heap.size) (hB:B<wq.heap.size) (hc:wq.cell? ⟨B,0,none⟩=some (.int .i64 (j:Nat))) (hp:pF id u p j)=>
  vP (oL d b) u r p.id wq (fun _ _=>rfl) (aai B j wq _ hB hc) (fun k hk=>by rcases EZ hk with h|h;exact bQ (hd k h) he.size;omega) (Reads.cin (aZ.dark he hb) u r hr) hok (hpre p j hp))
 have H2:=ah h2;clear hd hr hok h2 hpre;go_enter func105,ntmps105
 go_upto_region 1 with(first|(refine aG aj (.tmp 0) rfl rfl r rfl fun wA aR bG bB aO=> ?_)|(refine aG aM (.tmp 1) rfl rfl id rfl fun wB eH ji hkB eG=> ?_)|(refine aL aj rfl rfl fun wC dD jK fE=> ?_))
 have aev:=ah (aO.ext (eH.trans dD) (ay bB));have alm:=ah (eG.ext dD (ay hkB));have sG:=ah fE;have Hx:=ah (aR.trans (eH.trans dD));have Hz:=ah (show wA.heap.size=w.heap.size+1/\wB.heap.size=w.heap.size+2/\wC.heap.size=w.heap.size+3 from⟨bG,by omega,by omega⟩);have Bc:=ah (Ck.out wC Hx.out);clear Ck aR eH dD bG ji jK bB hkB fE aO eG;go_wp2_with (first|((with_reducible refine au aj (.tmp 2) ?_ ?_ ?_ w.heap.size 0 ?_ r ?_ ?_);rfl;rfl;rfl;rfl;exact aev.out)|((with_reducible refine au aM (.tmp 3) ?_ ?_ ?_ wA.heap.size 0 ?_ id ?_ ?_);rfl;rfl;rfl;rfl;exact alm.out))
 refine Bc.out.mono ?_;rintro e w2 ⟨hx2,hres⟩;rcases hres with⟨hlt,-⟩|⟨p,j,rfl,hp⟩
 ·exact absurd hlt (by have:=H2.out;omega)
 have vY:=ah ((hx2.block (k:=wB.heap.size) (by have:=Hz.out;omega)).trans sG.out);have anr:=ah (aev.out.ext hx2 (by have:=Hz.out;omega));have eD:=ah hx2;have Hp:=ah hp;clear hx2 hp Bc aev alm sG;go_wp2_with (first|(refine aL aM rfl rfl fun wD gW oH kg=> ?_)|((refine aD aM (.tmp 5) (.tmp 12) ?_ ?_ w2 w2.heap.size ?_ p.id ?_ _ _ ((((Ext.refl wD).alloc _).block (ay kg)).trans kg) ?_ (gW.alloc _) (aI _) ?_);rfl;rfl;rfl;rfl;rfl;intro wE jT o9 jO pW Al;have Io:wE.heap[w2.heap.size+1]? =some (.cells #[.int .i64 0] 3 (0,0)):=by(rw[Al _ (by omega),<-oH];exact heap_alloc_new wD _))|(refine aP rfl 3 (.tmp 6) (.tmp 13) rfl (w2.heap.size+1) 0 (.int .i64 (j:Nat)) rfl rfl [.int .i64 (j:Nat)] rfl sizeOf3 (by simp[Value.oneCell']) 3 _ Io (by simp) ?_;intro wF hwF aln alo alp hsF aew;have iZ:Ext w2 wF:=Ext.put jT (Nat.le_succ _) hwF aln alo alp hsF;have agT:=anr.out.ext iZ (by have:=Hz.out;have:=eD.out.size;omega);have pq:At wF w2.heap.size 0 (aM.E p.id):=(fun j u hu=>by have:=pW j u hu;simpa[World.cell?,hwF w2.heap.size (by omega)]using this))|((with_reducible refine au aj (.tmp 2) ?_ ?_ ?_ w.heap.size 0 ?_ r ?_ ?_);rfl;rfl;rfl;rfl;exact agT)|((with_reducible refine au aM (.tmp 5) ?_ ?_ ?_ w2.heap.size 0 ?_ p.id ?_ ?_);rfl;rfl;rfl;rfl;exact pq))
 have hcJ:wF.cell? ⟨w2.heap.size+1,0,none⟩=some (.int .i64 (j:Nat)):=by
  simp[World.cell?,aew]
 have z8:=ah ((iZ.block (k:=wB.heap.size) (by have:=Hz.out;have:=eD.out.size;omega)).trans vY.out);have eU:=ah (Hx.out.trans (eD.out.trans iZ));have zF:=ah (ow.out (w2.heap.size+1) j wB.heap.size p wF eU.out (by have:=Hz.out;omega) (ay z8.out) (ay aew) hcJ Hp.out);have adr:=bX eD.out.size iZ.size;clear hwF aln alo alp hsF aew hcJ iZ jT o9 jO pW Al Io pq agT gW oH kg;refine zF.out.mono ?_;rintro e w5 ⟨r',rfl,hx5,lY⟩;have ar5:=(hx5.block (k:=wB.heap.size) (by have:=Hz.out;omega)).trans z8.out;have hx6:=eU.out.trans hx5;have hbC:w.heap.size<=wB.heap.size:=by have:=Hz.out;omega
 go_wp2_with (first|((refine aD aj (.tmp 4) (.tmp 18) ?_ ?_ w wB.heap.size ?_ r' ?_ _ _ ar5 ?_ hx6 hbC ?_);rfl;rfl;rfl;rfl;rfl;intro wG dL fF dM lZ jS))
 refine bodyPost_ret (kJ rfl _ _ wB.heap.size r' rfl dM) rfl ?_;exact⟨p,j,r',rfl,dL,Hp.out,Reads.cin (aZ.light fF jS) _ _ lY⟩
def tK(w:List aJ)(gone:Nat)(fresh:List ByteArray)(act item:Int):Nat->Nat->List Nat->List aJ
 |_,b,[]=>w.drop b
 |i,b,p::ps=>(w.drop b).take (p-b)++(gB act item ((i:Int)*fresh.length) fresh++tK w gone fresh act item (i+1) (p+gone) ps)
def sH(n gone:Nat):Nat->List Nat->Prop
 |b,[]=>b<=n
 |b,p::ps=>b<=p/\p+gone<=n/\sH n gone (p+gone) ps
def Cn(w:List aJ)(gone:Nat)(fresh:List ByteArray)(act item:Int)(ps:List Nat)(k:Nat):List aJ:=
 match ps.drop k with
 |[]=>w
 |p::_=>w.take p++tK w gone fresh act item k p (ps.drop k)
theorem M4{w:List aJ}{gone:Nat}{fresh:List ByteArray}{act item:Int}{ps:List Nat}{k b:Nat}(h:sH w.length gone b (ps.drop k)):
 Cn w gone fresh act item ps k=w.take b++tK w gone fresh act item k b (ps.drop k):=by
 unfold Cn
 split
 ·rename_i e;rw[e,tK,jl]
 ·rename_i p r e
  rw[e]at h⊢;have h1:=h.1;simp only[tK];rw[Nat.sub_self,List.take_zero,jW,<-dV (w.take b)]
  congr 1
  rw[<-jl b (w.take p),List.take_take,jF h1,List.drop_take]
theorem Co{n gone:Nat}:∀{ps:List Nat} {b k p:Nat},sH n gone b ps->ps[k]? =some p->b<=p/\p+gone<=n/\sH n gone (p+gone) (ps.drop (k+1))
 |[],_,_,_,_,h=>by simp at h
 |q::ps,b,0,p,h,hk=>by
  simp only[List.getElem?_cons_zero,Option.some.injEq]at hk;subst hk;exact⟨h.1,h.2.1,by simpa using h.2.2⟩
 |q::ps,b,k+1,p,h,hk=>by
  have ih:=Co h.2.2 (show ps[k]? =some p by simpa using hk);have h1:=h.1;exact⟨by omega,ih.2.1,by simpa using ih.2.2⟩
theorem abV{w:List aJ}{gone:Nat}{fresh:List ByteArray}{act item:Int}{ps:List Nat}{k p:Nat}(h:sH w.length gone 0 ps)(hp:ps[k]? =some p):
 p+gone<=(Cn w gone fresh act item ps (k+1)).length/\
 Cn w gone fresh act item ps k=(Cn w gone fresh act item ps (k+1)).take p++(gB act item ((k:Int)*fresh.length) fresh++(Cn w gone fresh act item ps (k+1)).drop (p+gone)):=by
 obtain⟨h1,h2,h3⟩:=Co h hp;have hk:k<ps.length:=(List.getElem?_eq_some_iff.1 hp).1
 have hd:ps.drop k=p::ps.drop (k+1):=by
  rw[iW hk]
  congr 1
  have:=fP hk;rw[hp]at this;exact(lM this).symm
 rw[M4 h3];have hl:(w.take (p+gone)).length=p+gone:=by simp;omega
 refine⟨by rw[eu,hl];omega,?_⟩;unfold Cn;rw[hd];simp only[tK];rw[Nat.sub_self,List.take_zero,jW,Ee (by omega),List.take_take,jF (by omega)];rw[List.drop_left' hl]
theorem abW{w:List aJ}{gone:Nat}{fresh:List ByteArray}{act item:Int}{ps:List Nat}(h:sH w.length gone 0 ps):Cn w gone fresh act item ps 0=tK w gone fresh act item 0 0 ps:=by
 rw[M4 (b:=0) (by simpa using h)];simp
def Og(w:World)(xs:List aJ)(e:Ending)(w':World):Prop:=
 ((xs.length<=256/\∃A c,e=.returned (.tuple #[.slice A xs.length c,.int .i64 0])/\xs.length<=c/\Sl aQ w' A xs)∨(256<xs.length/\e=.returned (.tuple #[.slice none 0 0,.int .i64 6])))/\Ext w w'
theorem Oh(A B C:Option Addr)(c d f:Nat)(l:List aJ)(xs:List Int)(ps:List Nat)(gone:Nat)(fresh:List ByteArray)(act item:Int)(w:World)(hl:Sl aQ w A l)(hx:Sl fD w B xs)(hy:Sl bP w C fresh)
 (hn:l.length<=65536) (hp:xs.length<=65536) (hg:gone<=65536) (hm:fresh.length<=65536) (Hx:Hid (xs=ps.map (fun n:Nat=>(n:Int)))) (hgood:sH l.length gone 0 ps):
 Calls prog 177 #[.slice A l.length c,.slice B xs.length d,.int .i64 gone,.slice C fresh.length f,.int .i64 act,.int .i64 item] w (Og w (tK l gone fresh act item 0 0 ps)):=by
 have hpl:ps.length=xs.length:=by rw[Hx.out,jA]
 have Hpl:=ah hpl;have HG:=ah hgood;have hz:=abW (fresh:=fresh) (act:=act) (item:=item) hgood;have hend:l=Cn l gone fresh act item ps xs.length:=by unfold Cn;rw[List.drop_of_length_le (by omega)]
 rw[<-hz];have adM:=ah hend;have hprod:xs.length*fresh.length<=65536*65536:=Nat.mul_le_mul hp hm;obtain⟨pr,hpr⟩:=aH (xs.length*fresh.length);rw[hpr]at hprod;have Hpr:=ah hpr;clear hpl hgood hz hend hpr;go_enter func177,ntmps177
 go_wp2_with (first|(at_make;refine Oy aQ rfl _ _ rfl _ _ rfl rfl l.length rfl rfl (by omega) (aI _) ?_;intro w1 hown1 mh hsz1)|
  (refine K9 aQ rfl (.tmp 21) (.tmp 22) rfl c _ rfl rfl hown1 (hl.ext mh) rfl ?_;intro w2 hown2 hg2))
 obtain⟨A0,c0,hv0,hc0,hs0⟩:=hown2.form;have iK:Ext w w2:=mh.trans' (base:=w.heap.size) ((Below.refl _ _).grown hg2 (by omega) (fun k hk=>by cases hk;exact aI _));cases hv0
 clear hown1 hown2 hg2 hsz1 mh
 go_loopw [14,15] (fun out i wr=>∃(k:Nat) (ys:List aJ) (A1:Option Addr) (c1:Nat),k<=xs.length/\i=.int .i64 ((k:Int)-1)/\out=.slice A1 ys.length c1/\Hid (ys=Cn l gone fresh act item ps k)/\ys.length+k*fresh.length<=l.length+pr/\
  ys.length<=c1/\Sl aQ wr A1 ys/\Ext w wr) (fun _ i _=>(intOf i+1).toNat)
 case atStart=>exact⟨xs.length,l,_,_,aI _,rfl,rfl,adM,by rw[Hpr.out];omega,hc0,hs0,iK⟩
 case round=>
  obtain⟨k,ys,A1,c1,hk,rfl,rfl,DY,hlen,hc1,hs1,hext⟩:=hrel;have hsz:=hext.size;by_cases hk0:k=0
  ·subst hk0
   by_cases hbig:ys.length<=256
   ·go_wp2
    go_ret2
    rw[<-DY.out];exact⟨.inl ⟨hbig,A1,c1,rfl,hc1,hs1⟩,hext⟩
   ·go_wp2
    go_ret2
    rw[<-DY.out];exact⟨.inr ⟨by omega,rfl⟩,hext⟩
  ·obtain⟨k',rfl⟩:∃k',k=k'+1:=⟨k-1,by omega⟩
   have ek:(((k'+1:Nat):Int)-1)=(k':Int):=by omega
   rw[ek];have hkp:k'<ps.length:=by rw[Hpl.out];omega
   obtain⟨p,hpk⟩:∃p,ps[k']? =some p:=⟨_,fP hkp⟩;have hlt:k'<xs.length:=by omega
   have hxk:xs[k']=(p:Int):=by
    have e1:=Hx.out;subst e1;simp[fP hkp]at hpk;simp[hpk]
   obtain⟨hG1,hG2,_⟩:=Co HG.out hpk;obtain⟨yw,lT⟩:=abV (fresh:=fresh) (act:=act) (item:=item) HG.out hpk;rw[<-DY.out]at yw lT;have y5:=ah lT;obtain⟨b,off,rfl,hb,hcell⟩:=Eo hx hlt;have hcr:=(hext.cell (p:=⟨b,off+k',none⟩) hb).trans hcell;rw[hxk]at hcr;have hyw:=hy.ext hext;have hsucc:(k'+1)*fresh.length=k'*fresh.length+fresh.length:=Nat.succ_mul _ _;have hbound:k'*fresh.length<=l.length+pr:=by omega
   have hbi:(0:Int)<=(k':Int)*(fresh.length:Int):=by rw[<-Int.natCast_mul];omega
   have av4:(k':Int)*(fresh.length:Int)<=4295032832:=by rw[<-Int.natCast_mul];omega
   clear hpk hxk hcell hkp lT ek hk0 hsucc;go_wp2_with (refine Fv aQ rfl (.tmp 35) (.tmp 38) rfl rfl _ rfl hs1 (p+gone) (by omega) yw hc1 ?_;intro A2 rs c2 yH hl2 hs2)
   refine iJ 14 (fun i=>match i with|0=>Ty.is (.slice A1 ys.length c1)|1=>Ty.is (.int .i64 p)|2=>Ty.is (.int .i64 p)|3=>afv aQ (ys.take p)|4=>Ty.is (.slice C fresh.length f)|5=>Ty.is (.int .i64 act)|6=>Ty.is (.int .i64 item)|7=>Ty.is (.int .i64 k')|8=>Ty.is (.slice C fresh.length f)|9=>Ty.is (.int .i64 fresh.length)|10=>Ty.is (.int .i64 (k'*fresh.length))|11=>Gg aQ (gB act item ((k':Int)*fresh.length) fresh)|12=>La aQ wr.heap.size (ys.take p) (gB act item ((k':Int)*fresh.length) fresh)|13=>Ty.is (.slice A2 rs.length c2)|_=>Ty.any) (by kernel_rfl) (by kernel_rfl) (by kernel_rfl) (by decide) rfl ?_;intro v;refine⟨?_,?_,?_,?_,?_,?_,?_,?_,?_,?_,?_,?_,?_,?_,?_⟩
   ·intro wq hq hd
    refine ak rfl ?_;refine aF (.tmp 14) rfl rfl rfl
   ·intro wq hq hd
    refine ak rfl ?_;refine aF (.tmp 16) rfl rfl rfl
   ·intro wq hq hd
    refine ak rfl ?_;refine aF (.tmp 16) rfl rfl rfl
   ·rintro wq hq ⟨h0,h1,h2,-⟩
    change v 0=_ at h0;change v 1=_ at h1;change v 2=_ at h2;refine ak rfl ?_;exact Xh aQ (.tmp 40) (.tmp 41) (.tmp 42) rfl c1 h0 p h1 h2 (hs1.ext hq) (by omega) hc1
   ·intro wq hq hd
    refine ak rfl ?_;refine aF (.tmp 3) rfl rfl rfl
   ·intro wq hq hd
    refine ak rfl ?_;refine aF (.tmp 4) rfl rfl rfl
   ·intro wq hq hd
    refine ak rfl ?_;refine aF (.tmp 5) rfl rfl rfl
   ·intro wq hq hd
    refine ak rfl ?_;refine aF (.tmp 15) rfl rfl rfl
   ·intro wq hq hd
    refine ak rfl ?_;refine aF (.tmp 3) rfl rfl rfl
   ·rintro wq hq ⟨h0,-⟩
    change v 8=_ at h0;refine ak rfl ?_;refine Bg (.tmp 48) 37 _ underlying37 rfl _ _ _ h0 rfl
   ·rintro wq hq ⟨h0,h1,-⟩
    change v 7=_ at h0;change v 9=_ at h1;refine ak rfl ?_;refine eF .mul 3 3 (.tmp 47) (.tmp 49) rfl _ _ h0 h1 (Ve _ _ _ (by omega) (by omega)) rfl
   ·rintro wq hq ⟨h0,h1,h2,h3,-⟩
    change v 4=_ at h0;change v 5=_ at h1;change v 6=_ at h2;change v 10=_ at h3;refine ak rfl ?_;refine fC 110 call110 _ _ rfl rfl [_,_,_,_] ⟨h0,h1,h2,h3,trivial⟩ ?_;refine(KO _ _ _ _ _ _ _ (hyw.ext hq) (by omega) (by omega) (by omega)).mono ?_;rintro e w' ⟨v',rfl,hown,mW⟩;obtain⟨A3,c3,rfl,hc3,hs3⟩:=hown.form;exact⟨_,rfl,mW,A3,c3,rfl,hc3,hs3⟩
   ·rintro wq hq ⟨h0,h1,h2,-⟩
    refine ak rfl ?_;obtain⟨A3,h0,hs3⟩:=h0;obtain⟨A4,c4,h1,hc4,hs4⟩:=h1;exact Vi aQ (.tmp 43) (.tmp 51) rfl c4 _ h0 h1 hs3 hs4 (by rw[kI,fu];omega) hq.size
   ·intro wq hq hd
    refine ak rfl ?_;refine aF (.tmp 17) rfl rfl rfl
   ·intro wq hq hT
    have h12:=hT 12 (by decide);have CB:=hT 13 (by decide);change v 13=_ at CB;change (La aQ wr.heap.size (ys.take p) (gB act item ((k':Int)*fresh.length) fresh)).p (v 12) wq at h12;clear hT;simp only[List.drop_succ_cons,List.drop_zero,gH,dK,List.set_cons_succ,List.set_cons_zero,Nat.reduceAdd];rw[CB];generalize v 12=x12 at h12⊢;go_wp2_with (at_builtin;refine Lb aQ rfl (.tmp 52) (.tmp 53) rfl c2 rfl rfl h12 (hs2.ext hq) (by rw[kI,yH.out];simp;omega) hq.size ?_;intro A5 c5 zs w5 M5 ZY hs5 hb5)
    go_roundw
    case rel=>
     refine⟨k',zs,A5,c5,by omega,rfl,rfl,?_,?_,ZY,hs5,hext.trans (Ext.trans' hq hb5)⟩
     ·unfold Hid
      rw[y5.out,M5.out,yH.out,dV]
     ·have e:=nI List.length M5.out
      simp only[eu,fu,kI,yH.out,jV]at e;have e3:(k'+1)*fresh.length=k'*fresh.length+fresh.length:=Nat.succ_mul _ _;omega
    case measure=>simp[intOf]
def qg(w:World)(r:List aJ×Int)(e:Ending)(w':World):Prop:=∃A c,e=.returned (.tuple #[.slice A r.1.length c,.int .i64 r.2])/\r.1.length<=c/\Sl aQ w' A r.1/\Ext w w'
def yx(xs:List aJ):List aJ×Int:=if xs.length<=256 then(xs,0)else([],6)
theorem Og.pair{w w':World}{xs:List aJ}{e:Ending}(h:Og w xs e w'):qg w (yx xs) e w':=by
 obtain⟨h1|h1,he⟩:=h
 ·obtain⟨h0,A,c,rfl,hc,hs⟩:=h1
  unfold yx;rw[bH h0];exact⟨A,c,rfl,hc,hs,he⟩
 ·unfold yx
  rw[aU (by omega)];exact⟨none,0,h1.2,aI _,Sl.nil,he⟩
theorem qg.err{w w':World}{k:Int}(he:Ext w w'):qg w ([],k) (.returned (.tuple #[.slice none 0 0,.int .i64 k])) w':=⟨none,0,rfl,aI _,Sl.nil,he⟩
theorem YM{n g:Nat}:∀{b b':Nat} {ps:List Nat},sH n g b ps->b'<=b->sH n g b' ps
 |_,_,[],h,hb=>bX hb h
 |_,_,_::_,h,hb=>⟨bX hb h.1,h.2⟩
theorem KV(l part:List ByteArray)(hp:0<part.length):∀(f i:Nat),i<=l.length->∃ps:List Nat,yu l part f i=ps.map (fun n:Nat=>(n:Int))/\sH l.length part.length i ps
 |0,i,h=>⟨[],rfl,h⟩
 |f+1,i,h=>by
  rw[yu]
  split
  ·rename_i hs
   obtain⟨ps,h1,h2⟩:=KV l part hp f (i+part.length) hs.1;exact⟨i::ps,by rw[h1];rfl,aI _,hs.1,h2⟩
  ·rcases gM i l.length with h0|h0
   ·obtain⟨ps,h1,h2⟩:=KV l part hp f (i+1) h0
    exact⟨ps,h1,YM h2 (by omega)⟩
   ·rw[Jg l part f (i+1) (by omega)]
    exact⟨[],rfl,h⟩
theorem J4(l part:List ByteArray)(nth:Int)(hp:0<part.length):∃ps:List Nat,kr (je l part) nth=ps.map (fun n:Nat=>(n:Int))/\sH l.length part.length 0 ps:=by
 have hf:je l part=yu l part (l.length+1) 0:=by unfold je;rw[aU (by rintro rfl;simp at hp)]
 obtain⟨ps,h1,h2⟩:=KV l part hp (l.length+1) 0 (bI _);rw[hf,h1];unfold kr
 split
 ·exact⟨ps,rfl,h2⟩
 ·split
  ·exact⟨[],rfl,bI _⟩
  ·rw[<-List.map_drop,<-List.map_take]
   refine⟨_,rfl,?_⟩;cases hd:ps.drop (nth-1).toNat with
   |nil=>exact bI _
   |cons p r=>
    have hk:ps[(nth-1).toNat]? =some p:=by rw[<-List.head?_drop,hd];rfl
    have:=(Co h2 hk).2.1;exact⟨bI _,this,show p+part.length<=l.length from this⟩
theorem J5{n g:Nat}:∀{b:Nat} {ps:List Nat},sH n g b ps->sH n 0 b (ps.map (· +g))
 |_,[],h=>h
 |b,p::ps,h=>⟨show b<=p+g by have:=h.1;omega,show p+g+0<=n by have:=h.2.1;omega,show sH n 0 (p+g+0) (ps.map (· +g))from J5 h.2.2⟩
def Aa(l:List aJ)(old fresh:List ByteArray)(nth act item:Int):List aJ×Int:=
 if old.length=0∨nth<0 then([],1)
 else if kr (je (l.map aJ.t) old) nth=[]then([],4)
 else yx (tK l old.length fresh act item 0 0 ((kr (je (l.map aJ.t) old) nth).map Int.toNat))
theorem P9(ps:List Nat):(ps.map (fun n:Nat=>(n:Int))).map Int.toNat=ps:=by
 rw[List.map_map];exact(List.map_congr_left (fun _ _=>rfl)).trans (List.map_id _)
theorem VL(A B C:Option Addr)(c d f:Nat)(l:List aJ)(old fresh:List ByteArray)(nth act item:Int)(w:World)(hl:Sl aQ w A l)(hx:Sl bP w B old)(hy:Sl bP w C fresh)
 (hn:l.length<=65536) (ho:old.length<=65536) (hm:fresh.length<=65536):
 Calls prog 106 #[.slice A l.length c,.slice B old.length d,.slice C fresh.length f,.int .i64 nth,.int .i64 act,.int .i64 item] w (qg w (Aa l old fresh nth act item)):=by
 by_cases h0:old.length=0
 ·have hb:((old.length:Int)==0)=true:=by rw[h0];rfl
  have e:Aa l old fresh nth act item=([],1):=by unfold Aa;rw[bH (.inl h0)]
  rw[e];clear h0;go_enter func106,ntmps106
  go_wp2
  go_ret2
  exact qg.err (Ext.refl _)
 ·have hb:((old.length:Int)==0)=false:=beq_eq_false_iff_ne.2 (by omega)
  by_cases h1:nth<0
  ·have e:Aa l old fresh nth act item=([],1):=by unfold Aa;rw[bH (.inr h1)]
   rw[e];clear h0;go_enter func106,ntmps106
   go_wp2
   go_ret2
   exact qg.err (Ext.refl _)
  ·obtain⟨ps,hps,hgood⟩:=J4 (l.map aJ.t) old nth (by omega)
   have hlen:=D7 (je (l.map aJ.t) old) nth;have CG:=Cc (l.map aJ.t) old;rw[jA]at CG hgood
   have e:Aa l old fresh nth act item=if kr (je (l.map aJ.t) old) nth=[]then([],4)else yx (tK l old.length fresh act item 0 0 ((kr (je (l.map aJ.t) old) nth).map Int.toNat)):=by
    unfold Aa;rw[aU (by omega)]
   obtain⟨xs,hxs⟩:=aH (kr (je (l.map aJ.t) old) nth);rw[hxs]at hlen e hps;rw[e];have Hxs:=ah hxs;have Um:=ah hps;have HG:=ah hgood;clear h0 hxs hps hgood e;by_cases h2:xs.length=0
   ·have hb2:((xs.length:Int)==0)=true:=by rw[h2];rfl
    rw[bH (kM h2)];clear h2;go_enter func106,ntmps106
    go_wp2_with fail
    refine(AZ _ _ _ _ _ _ _ _ hl hx (by omega) (by omega) (by omega)).mono ?_;rw[Hxs.out];rintro e w1 ⟨A1,c1,rfl,hc1,hs1,mh⟩;go_wp2
    go_ret2
    exact qg.err mh
   ·have hb2:((xs.length:Int)==0)=false:=beq_eq_false_iff_ne.2 (by omega)
    rw[aU (by rintro rfl;simp at h2),Um.out,P9];clear h2;go_enter func106,ntmps106
    go_wp2_with fail
    refine(AZ _ _ _ _ _ _ _ _ hl hx (by omega) (by omega) (by omega)).mono ?_;rw[Hxs.out];rintro e w1 ⟨A1,c1,rfl,hc1,hs1,mh⟩;go_wp2_with fail
    refine(Oh _ _ _ _ _ _ _ _ ps _ _ _ _ _ (hl.ext mh) hs1 (hy.ext mh) hn (by omega) ho hm Um HG.out).mono ?_;intro e w2 hr;obtain⟨A2,c2,rfl,hc2,hs2,iK⟩:=hr.pair;go_wp2
    go_ret2
    exact⟨A2,c2,rfl,hc2,hs2,mh.trans iK⟩
def Ab(l:List aJ)(part fresh:List ByteArray)(nth act item:Int):List aJ×Int:=
 if fresh.length=0∨nth<0∨(part.length=0/\nth≠0)then([],1)
 else if part.length=0 then yx (tK l 0 fresh act item 0 0 [0])
 else if kr (je (l.map aJ.t) part) nth=[]then([],4)
 else yx (tK l 0 fresh act item 0 0 (((kr (je (l.map aJ.t) part) nth).map Int.toNat).map (· +part.length)))
theorem Un(A B C:Option Addr)(c d f:Nat)(l:List aJ)(part fresh:List ByteArray)(nth act item:Int)(w:World)(hl:Sl aQ w A l)(hx:Sl bP w B part)(hy:Sl bP w C fresh)
 (hn:l.length<=65536) (ho:part.length<=65536) (hm:fresh.length<=65536):
 Calls prog 108 #[.slice A l.length c,.slice B part.length d,.slice C fresh.length f,.int .i64 nth,.int .i64 act,.int .i64 item] w (qg w (Ab l part fresh nth act item)):=by
 by_cases hbad:fresh.length=0∨nth<0∨(part.length=0/\nth≠0)
 ·have e:Ab l part fresh nth act item=([],1):=by unfold Ab;rw[bH hbad]
  rw[e];clear e;by_cases h0:fresh.length=0
  ·have hb:((fresh.length:Int)==0)=true:=by rw[h0];rfl
   clear hbad h0;go_enter func108,ntmps108
   go_wp2
   go_ret2
   exact qg.err (Ext.refl _)
  ·have hb:((fresh.length:Int)==0)=false:=beq_eq_false_iff_ne.2 (by omega)
   by_cases h1:nth<0
   ·clear hbad h0
    go_enter func108,ntmps108
    go_wp2
    go_ret2
    exact qg.err (Ext.refl _)
   ·have hb1:((part.length:Int)==0)=true:=beq_iff_eq.2 (by omega)
    have hb2:(nth !=0)=true:=by rw[bne_iff_ne];omega
    clear hbad h0;go_enter func108,ntmps108
    go_wp2
    go_ret2
    exact qg.err (Ext.refl _)
 ·have hb:((fresh.length:Int)==0)=false:=beq_eq_false_iff_ne.2 (by omega)
  have h1:0<=nth:=by omega
  by_cases hp:part.length=0
  ·have ar6:nth=0:=by omega
   subst ar6;have e:Ab l part fresh 0 act item=yx (tK l 0 fresh act item 0 0 [0]):=by unfold Ab;rw[aU hbad,bH hp]
   rw[e];have hb1:((part.length:Int)==0)=true:=by rw[hp];rfl
   clear hbad hp e;go_enter func108,ntmps108
   go_wp2_with fail
   refine(Oh _ _ _ _ _ _ l [0] [0] 0 fresh act item _ (hl.ext ((Ext.refl _).alloc _)) (Sl.new fD rfl) (hy.ext ((Ext.refl _).alloc _)) hn (by decide) (by decide) hm rfl ⟨bI _,bI _,bI _⟩).mono ?_;intro e w2 hr;obtain⟨A2,c2,rfl,hc2,hs2,iK⟩:=hr.pair;go_wp2
   go_ret2
   exact⟨A2,c2,rfl,hc2,hs2,((Ext.refl _).alloc _).trans iK⟩
  ·have hb1:((part.length:Int)==0)=false:=beq_eq_false_iff_ne.2 (by omega)
   obtain⟨ps,hps,hgood⟩:=J4 (l.map aJ.t) part nth (by omega);have hlen:=D7 (je (l.map aJ.t) part) nth;have CG:=Cc (l.map aJ.t) part;rw[jA]at CG hgood
   have e:Ab l part fresh nth act item=if kr (je (l.map aJ.t) part) nth=[]then([],4)else yx (tK l 0 fresh act item 0 0 (((kr (je (l.map aJ.t) part) nth).map Int.toNat).map (· +part.length))):=by
    unfold Ab;rw[aU hbad,aU hp]
   obtain⟨xs,hxs⟩:=aH (kr (je (l.map aJ.t) part) nth);rw[hxs]at hlen e hps;rw[e];have Hxs:=ah hxs;have Um:=ah hps;have HG:=ah hgood;clear hp hbad hxs hps hgood e;by_cases h2:xs.length=0
   ·have hb2:((xs.length:Int)==0)=true:=by rw[h2];rfl
    have hx0:xs=[]:=kM h2;rw[bH hx0];subst hx0;clear h2;go_enter func108,ntmps108
    go_wp2_with fail
    refine(AZ _ _ _ _ _ _ _ _ hl hx (by omega) (by omega) (by omega)).mono ?_;rw[Hxs.out];rintro e w1 ⟨A1,c1,rfl,hc1,hs1,mh⟩;go_wp2_with fail
    refine(Iq _ _ _ _ hs1 (by simp)).mono ?_;rintro e w2 ⟨v2,rfl,hown2,iK⟩;obtain⟨A2,c2,rfl,hc2,hs2⟩:=hown2.form;go_wp2
    go_ret2
    exact qg.err (mh.trans iK)
   ·have hb2:((xs.length:Int)==0)=false:=beq_eq_false_iff_ne.2 (by omega)
    have hxne:xs≠[]:=by rintro rfl;simp at h2
    rw[aU hxne,Um.out,P9];clear h2;go_enter func108,ntmps108
    go_wp2_with fail
    refine(AZ _ _ _ _ _ _ _ _ hl hx (by omega) (by omega) (by omega)).mono ?_;rw[Hxs.out];rintro e w1 ⟨A1,c1,rfl,hc1,hs1,mh⟩;go_wp2_with fail
    refine(Iq _ _ _ _ hs1 (by omega)).mono ?_;rintro e w2 ⟨v2,rfl,hown2,iK⟩;obtain⟨g,c2,rfl,hg,hgl,hc2⟩:=hown2.head hxne;have hx2:=mh.trans iK;have hgw:w.heap.size<=g:=bX mh.size hg;clear hxne;go_wp2
    go_loopw [15,53] (fun u i wr=>∃(k:Nat) (zs:List Int),k<=xs.length/\i=.int .i64 k/\Hid (zs=(xs.take k).map (· +(part.length:Int))++xs.drop k)/\Hid (zs.length=xs.length)/\Own fD w1.heap.size wr (.slice (some ⟨g,0,none⟩) zs.length c2) zs/\Ext w wr) (fun _ i _=>xs.length-(intOf i).toNat)
    case atStart=>exact⟨0,xs,bI _,rfl,by simp[Hid],rfl,hown2,hx2⟩
    case round=>
     obtain⟨k,zs,hk,rfl,M5,DR,hown,hext⟩:=hrel;by_cases hlt:k<xs.length
     ·have hkp:k<ps.length:=by rw[show ps.length=xs.length from by rw[Um.out,jA]];exact hlt
      obtain⟨p,hpk⟩:∃p,ps[k]? =some p:=⟨_,fP hkp⟩
      have hxk:xs[k]=(p:Int):=by
       have e1:=Um.out;subst e1;simp[fP hkp]at hpk;simp[hpk]
      have hpl:=(Co HG.out hpk).2.1;have hzk:zs[k]? =some (p:Int):=by rw[M5.out,ZA _ _ _ hlt,hxk]
      obtain⟨hc,hf⟩:=hown.ahL hzk;have hown':=hown.setInt k ((p:Int)+part.length)
      have KD:Hid (zs.set k ((p:Int)+part.length)=(xs.take (k+1)).map (· +(part.length:Int))++xs.drop (k+1)):=by
       unfold Hid;rw[M5.out,<-Zz (· +(part.length:Int)) xs k hlt,hxk]
      clear hpk hxk hzk hkp;go_wp2;go_roundw
      case rel=>exact⟨k+1,zs.set k ((p:Int)+part.length),hlt,by go_num,KD,by unfold Hid;rw[List.length_set];exact DR.out,hown',Below.setCell hext hgw _⟩
      case measure=>simp[intOf];omega
     ·have hkx:k=xs.length:=by omega
      have hzs:zs=xs.map (· +(part.length:Int)):=by rw[M5.out,hkx,List.take_length,List.drop_length,kY]
      have Te:Hid (zs=(ps.map (· +part.length)).map (fun n:Nat=>(n:Int))):=by
       unfold Hid;rw[hzs,Um.out,List.map_map,List.map_map];exact List.map_congr_left fun a _=>by simp
      obtain⟨A3,c3,hv3,hc3,hs3⟩:=hown.form;cases hv3
      have hzl:zs.length<=65536:=by rw[DR.out];omega
      clear hkx hzs hown;go_wp2_with fail
      rw[<-DR.out];refine(Oh _ _ _ _ _ _ _ _ (ps.map (· +part.length)) 0 _ _ _ _ (hl.ext hext) hs3 (hy.ext hext) hn hzl (by decide) hm Te (J5 HG.out)).mono ?_;intro e w3 hr;obtain⟨A4,c4,rfl,hc4,hs4,L9⟩:=hr.pair;go_wp2
      go_ret2
      exact⟨A4,c4,rfl,hc4,hs4,hext.trans L9⟩
theorem E5{w:List aJ}{gone:Nat}{fresh:List ByteArray}{act item:Int}{x:aJ}:∀{ps:List Nat} {i b:Nat},x∈tK w gone fresh act item i b ps->x∈w∨(x.a=act/\x.i=item/\x.t∈fresh)
 |[],i,b,h=>.inl (List.mem_of_mem_drop (by rw[tK]at h;exact h))
 |p::ps,i,b,h=>by
  rw[tK]at h;rcases List.mem_append.1 h with h|h
  ·exact .inl (List.mem_of_mem_drop (List.mem_of_mem_take h))
  ·rcases List.mem_append.1 h with h|h
   ·exact .inr (xg h)
   ·exact E5 h
structure Words (l:List aJ) (fresh:List ByteArray) (act item:Int) (r:List aJ×Int):Prop where
 len:r.1.length<=256
 mem:∀x∈r.1,x∈l∨(x.a=act/\x.i=item/\x.t∈fresh)
theorem E8{l xs:List aJ}{fresh:List ByteArray}{act item:Int}(h:∀x∈xs,x∈l∨(x.a=act/\x.i=item/\x.t∈fresh)):Words l fresh act item (yx xs):=by
 unfold yx
 split
 ·rename_i hl;exact⟨hl,h⟩
 ·exact⟨by simp,fun x hx=>by cases hx⟩
theorem Bd{l:List aJ}{fresh:List ByteArray}{act item e:Int}:Words l fresh act item ([],e):=⟨by simp,fun x hx=>by cases hx⟩
theorem abX(l:List aJ)(old fresh:List ByteArray)(nth act item:Int):Words l fresh act item (Aa l old fresh nth act item):=by
 unfold Aa
 split
 ·exact Bd
 ·split
  ·exact Bd
  ·exact E8 fun x hx=>E5 hx
theorem abY(l:List aJ)(part fresh:List ByteArray)(nth act item:Int):Words l fresh act item (Ab l part fresh nth act item):=by
 unfold Ab
 split
 ·exact Bd
 ·split
  ·exact E8 fun x hx=>E5 hx
  ·split
   ·exact Bd
   ·exact E8 fun x hx=>E5 hx
def jQ(x:qo):List ByteArray:=if x.kind=0 then pJ x.unit else if x.kind=2∨x.kind=3∨x.kind=4 then x.iE else []
def alq(ds:List dn)(x:aJ):Prop:=∃d∈ds,d.act=x.a/\d.item=x.i/\x.t∈jQ d.it.x
structure RC (ds:List dn) (c:gZ):Prop where
 label:c.label.size<=100
 hn:c.head.length<=300
 wn:c.words.length<=300
 hs:∀x∈c.head,x.t.size<=100
 ws:∀x∈c.words,x.t.size<=100
 ha:∀x∈c.head,alq ds x
 wa:∀x∈c.words,alq ds x
theorem RC.kn{ds:List dn}{c:gZ}(h:RC ds c)(m:Nat):RC ds {c with kn:=m}:=⟨h.label,h.hn,h.wn,h.hs,h.ws,h.ha,h.wa⟩
theorem RC.kH{ds:List dn}{c:gZ}(h:RC ds c){l:ByteArray}(hl:l.size<=100):RC ds {c with label:=l}:=⟨hl,h.hn,h.wn,h.hs,h.ws,h.ha,h.wa⟩
theorem RC.kV{ds:List dn}{c:gZ}(h:RC ds c){d:dn}(hd:d∈ds)(hw:jQ d.it.x=d.it.x.iE)(hn:∀s∈d.it.x.iE,s.size<=100){r:List aJ×Int}(k:Words c.words d.it.x.iE d.act d.item r):RC ds {c with words:=r.1}:=
 ⟨h.label,h.hn,bX k.len (by decide),h.hs,fun x hx=>by
  rcases k.mem x hx with h1|⟨-,-,h1⟩
  ·exact h.ws x h1
  ·exact hn _ h1,h.ha,fun x hx=>by
  rcases k.mem x hx with h1|⟨h2,h3,h1⟩
  ·exact h.wa x h1
  ·exact⟨d,hd,h2.symm,h3.symm,by rw[hw];exact h1⟩⟩
theorem RC.setHead{ds:List dn}{c:gZ}(h:RC ds c){d:dn}(hd:d∈ds)(hw:jQ d.it.x=d.it.x.iE)(hn:∀s∈d.it.x.iE,s.size<=100)(hl:d.it.x.iE.length<=300):RC ds {c with head:=gB d.act d.item 0 d.it.x.iE}:=
 ⟨h.label,by show(gB _ _ _ _).length<=300;rw[kI];exact hl,h.wn,fun x hx=>hn _ (xg hx).2.2,h.ws,fun x hx=>by
  obtain⟨h1,h2,h3⟩:=xg hx;exact⟨d,hd,h1.symm,h2.symm,by rw[hw];exact h3⟩,h.wa⟩
def gD(ds:List dn)(n:Nat)(u:av):Prop:=iI (RC ds) n (dN u)
mutual
theorem Cq{p:av->Prop}:∀u:av,(∀x∈bO u,p x)->iD p u
 |.mk a i n k l hd wd kids,h=>by
  rw[bO]at h;rw[iD];exact⟨h _ (List.mem_cons_self ..),Qa kids fun x hx=>h x (lV _ hx)⟩
theorem Qa{p:av->Prop}:∀us:List av,(∀x∈eO us,p x)->gJ p us
 |[],_=>by rw[gJ];trivial
 |u::us,h=>by
  rw[eO]at h;rw[gJ];exact⟨Cq u fun x hx=>h x (nK _ hx),Qa us fun x hx=>h x (qh _ hx)⟩
end
mutual
theorem Ea:∀(u x:av),x∈bO u->cntF x<=cntF u
 |.mk a i n k l hd wd kids,x,h=>by
  rw[bO]at h;rcases List.mem_cons.1 h with rfl|h
  ·exact aI _
  ·have:=Uo kids x h
   rw[cntF];omega
theorem Uo:∀(us:List av) (x:av),x∈eO us->cntF x<=bZ us
 |[],x,h=>by rw[eO]at h;cases h
 |u::us,x,h=>by
  rw[eO]at h;rw[bZ];rcases List.mem_append.1 h with h|h
  ·have:=Ea u x h;omega
  ·have:=Uo us x h;omega
end
mutual
theorem Qb:∀{u x y:av},x∈bO u->y∈bO x->y∈bO u
 |.mk a i n k l hd wd kids,x,y,hx,hy=>by
  rw[bO]at hx;rcases List.mem_cons.1 hx with rfl|hx
  ·exact hy
  ·rw[bO]
   exact lV _ (M6 (us:=kids) hx hy)
theorem M6:∀{us:List av} {x y:av},x∈eO us->y∈bO x->y∈eO us
 |[],x,y,hx,_=>by rw[eO]at hx;cases hx
 |u::us,x,y,hx,hy=>by
  rw[eO]at hx⊢;rcases List.mem_append.1 hx with hx|hx
  ·exact nK _ (Qb hx hy)
  ·exact qh _ (M6 hx hy)
end
theorem ah7{us:List av}{x y:av}(hx:x∈us)(hy:y∈bO x):y∈eO us:=by
 induction us with
 |nil=>cases hx
 |cons v us ih=>
  rw[eO];rcases List.mem_cons.1 hx with rfl|hx
  ·exact nK _ hy
  ·exact qh _ (ih hx)
theorem ah8{u p x y:av}(hp:p∈bO u)(hx:x∈p.kids)(hy:y∈bO x):y∈bO u:=by
 refine Qb hp ?_;rw[jy];exact lV _ (ah7 hx hy)
theorem gD.ok{ds:List dn}{n:Nat}{u:av}(h:gD ds n u)(hn:n<=1000):dI u:=by
 have hc:cntF u<=1000:=by have:=h.len;rw[Iy]at this;omega
 refine⟨Cq u fun x hx=> ?_,hc⟩;have hr:=h.all _ (qG hx);have h1:=Ea u x hx;have h2:=jR x;have h3:=nV x.kids;exact⟨hr.label,hr.hn,hr.wn,by omega,hr.hs,hr.ws⟩
theorem gD.mono{ds:List dn}{m n:Nat}{u:av}(h:gD ds m u)(hm:m<=n):gD ds n u:=iI.mono h hm
theorem abZ{ds:List dn}{d:dn}(hd:d∈ds)(hk:d.it.x.kind=0)(ho:∀x∈bO d.it.x.unit,Lj x):iI (RC ds) (cntF d.it.x.unit) (dN (gK d.act d.item d.it.x.unit 1 0).1):=by
 obtain⟨-,h2,h3⟩:=Ba d.act d.item d.it.x.unit 1 0;have hw:jQ d.it.x=pJ d.it.x.unit:=by unfold jQ;rw[bH hk]
 refine⟨fun c hc=> ?_,by rw[h2];exact F4 _ _ _ _,?_⟩
 ·obtain⟨hs,x,hx,e1,e2,e3,e4,e5⟩:=h3 c hc
  obtain⟨o1,o2,o3,-,o5,o6⟩:=ho x hx;refine⟨by rw[e1];exact o1,by rw[e2];exact o2,by rw[e3];exact o3,fun y hy=> ?_,fun y hy=> ?_,fun y hy=> ?_,fun y hy=> ?_⟩
  ·have:y.t∈c.head.map aJ.t:=List.mem_map.2 ⟨y,hy,rfl⟩
   rw[e4]at this;obtain⟨z,hz,he⟩:=List.mem_map.1 this;rw[<-he];exact o5 z hz
  ·have:y.t∈c.words.map aJ.t:=List.mem_map.2 ⟨y,hy,rfl⟩
   rw[e5]at this;obtain⟨z,hz,he⟩:=List.mem_map.1 this;rw[<-he];exact o6 z hz
  ·obtain⟨h1,h2,h3⟩:=hs.hd y hy
   exact⟨d,hd,h1.symm,h2.symm,by rw[hw];exact h3⟩
  ·obtain⟨h1,h2,h3⟩:=hs.wd y hy
   exact⟨d,hd,h1.symm,h2.symm,by rw[hw];exact h3⟩
 ·have:=nI List.length h2
  have hl:∀(k:Nat) (n:Int),(lg d.act d.item n k).length=k:=by
   intro k
   induction k with
   |zero=>intro n;rfl
   |succ k ih=>intro n;rw[lg,iX,ih]
  unfold kW at this;rw[jA,hl]at this;omega
theorem gD.kV{ds:List dn}{n:Nat}{u x:av}{d:dn}{r:List aJ×Int}(h:gD ds n u)(hd:d∈ds)(hw:jQ d.it.x=d.it.x.iE)(hs:∀s∈d.it.x.iE,s.size<=100)(hx:x∈bO u)(k:Words x.words d.it.x.iE d.act d.item r):gD ds n (fZ x.id (fun y=>y.kV r.1) u):=by
 refine iI.aej h x.id _ fun y hy he=> ?_;have hyx:=wZ h.ids hy hx he;subst hyx;refine⟨{y.core with words:=r.1},rfl,fun hr=>hr.kV hd hw hs k,?_⟩;rw[iP];cases y
 rfl
theorem gD.setHead{ds:List dn}{n:Nat}{u:av}{d:dn}(h:gD ds n u)(hd:d∈ds)(hw:jQ d.it.x=d.it.x.iE)(hs:∀s∈d.it.x.iE,s.size<=100)(hl:d.it.x.iE.length<=300)(id:bf):gD ds n (fZ id (fun y=>y.setHead (gB d.act d.item 0 d.it.x.iE)) u):=by
 refine iI.aej h id _ fun y hy he=>⟨{y.core with head:=gB d.act d.item 0 d.it.x.iE},rfl,fun hr=>hr.setHead hd hw hs hl,?_⟩;rw[iP];cases y
 rfl
theorem gD.kH{ds:List dn}{n:Nat}{u:av}{l:ByteArray}(h:gD ds n u)(hl:l.size<=100)(id:bf):gD ds n (fZ id (fun y=>y.kH l) u):=by
 refine iI.aej h id _ fun y hy he=>⟨{y.core with label:=l},rfl,fun hr=>hr.kH hl,?_⟩;rw[iP];cases y
 rfl
theorem gD.strike{ds:List dn}{n:Nat}{u p:av}{j:Nat}(h:gD ds n u)(hp:p∈bO u)(hj:j<p.kids.length):gD ds n (fZ p.id (fun x=>x.dJ (x.kids.eraseIdx j)) u):=
 (iI.strike h hp hj fun c m hc _=>hc.kn m).1
def agV(j:Nat)(z:av)(xs:List av):List av:=xs.take j++z::xs.drop j
theorem gD.put{ds:List dn}{m n:Nat}{u z:av}{id:bf}{j:Nat}(h:gD ds m u)(hz:gD ds n z)(hd:∀x∈bO u,∀y∈bO z,x.id≠y.id):gD ds (m+n) (fZ id (fun x=>x.dJ (agV j z x.kids)) u):=
 iI.put h hz (fun x hx y hy=>by
  obtain⟨a,ha,rfl⟩:=zJ hx;obtain⟨b,hb,rfl⟩:=zJ hy;exact hd a ha b hb) fun c m hc=>hc.kn m
theorem gD.move{ds:List dn}{n:Nat}{u p:av}{j k:Nat}{id:bf}(h:gD ds n u)(hp:p∈bO u)(hj:j<p.kids.length):gD ds n (fZ id (fun x=>x.dJ (agV k p.kids[j] x.kids)) (fZ p.id (fun x=>x.dJ (x.kids.eraseIdx j)) u)):=by
 obtain⟨h1,h2⟩:=iI.strike h hp hj fun c m hc _=>hc.kn m;have hnd:(kW (dN (fZ p.id (fun x=>x.dJ (x.kids.eraseIdx j)) u)++dN p.kids[j])).Nodup:=h2.nodup_iff.2 h.ids
 have hlen:(dN (fZ p.id (fun x=>x.dJ (x.kids.eraseIdx j)) u)).length+(dN p.kids[j]).length<=n:=by
  have:=h2.length_eq;unfold kW at this;rw[jA,jA,eu]at this;have:=h.len;omega
 have hz:iI (RC ds) (dN p.kids[j]).length (dN p.kids[j]):=by
  refine⟨fun c hc=> ?_,?_,aI _⟩
  ·obtain⟨y,hy,rfl⟩:=zJ hc
   exact h.all _ (qG (ah8 hp (dW hj) hy))
  ·unfold kW at hnd⊢
   rw[List.map_append,List.nodup_append]at hnd;exact hnd.2.1
 have h1':iI (RC ds) (dN (fZ p.id (fun x=>x.dJ (x.kids.eraseIdx j)) u)).length (dN (fZ p.id (fun x=>x.dJ (x.kids.eraseIdx j)) u)):=⟨h1.all,h1.ids,aI _⟩;refine iI.mono (iI.put h1' hz (fun x hx y hy he=> ?_) fun c m hc=>hc.kn m) hlen;unfold kW at hnd;rw[List.map_append,List.nodup_append]at hnd;exact hnd.2.2 x.id (List.mem_map.2 ⟨x,hx,rfl⟩) y.id (List.mem_map.2 ⟨y,hy,rfl⟩) he
end Go.Proofs.YtgboomjahhnldaaGreatDoor
