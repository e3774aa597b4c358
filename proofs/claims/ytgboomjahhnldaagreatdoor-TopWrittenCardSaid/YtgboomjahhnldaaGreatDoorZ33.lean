/- A part of the proof of TopWritten, printed small: StampW TDo1 TDo2 TDo3. -/
import Derived.Test.YtgboomjahhnldaaGreatDoorZ28
import Derived.Test.YtgboomjahhnldaaGreatDoorZ31
import Derived.Test.YtgboomjahhnldaaGreatDoorZ32
import Derived.Test.YtgboomjahhnldaaGreatDoorZ22
set_option maxRecDepth 100000
set_option maxHeartbeats 25600000
set_option linter.all false
namespace Go.Proofs.YtgboomjahhnldaaGreatDoor
open Go.Proofs.Tryz Go.RowKit
theorem aZ.lit{p:Nat->Bool}{w w':World}(he:Ext w w')(h:∀k,k<w.heap.size->p k=false):aZ w (mask p w'):=by
 refine⟨by rw[mF];exact he.size,fun q c hc=> ?_⟩;have hb:=World.block_lt_of_cell? w q hc;exact ng (h _ hb) ((he.cell hb).trans hc)
def ar7(w:World)(u:av)(e:Ending)(w':World):Prop:=∃r':aB,e=.returned (.agg r'.cells.toArray)/\Ext w w'/\Reads (mask (fresh w.heap.size) w') u r'
theorem ab0(act item:Int)(u:av)(r:aB)(w:World)(hr:Reads w u r)(hA:iD (qm 300 60) u)(hc:cntF u<=1000):
 Calls prog 94 #[.agg r.cells.toArray,.int .i64 act,.int .i64 item] w (ar7 w (gK act item u 1 0).1):=by
 obtain⟨X,hX⟩:=aH (gK act item u 1 0)
 have QK:=TV act item _ u r (w.heap.size+2) 0 0 (((w.alloc (.cells #[.int .i64 r.a,.int .i64 r.i,.int .i64 r.n,.int .i64 r.kind,.string r.label,.slice r.hA r.hn r.hc,.slice r.wA r.wn r.wc,.slice r.kA r.kn r.kc] 30)).alloc (.cells #[.int .i64 0,.int .i64 0,.int .i64 0,.int .i64 0,.string ⟨#[]⟩,.slice none 0 0,.slice none 0 0,.slice none 0 0] 30)).alloc (.cells #[.int .i64 act,.int .i64 item,.int .i64 0,.int .i64 0] 205)) (aI _)
  (Reads.cin (aZ.lit ((((Ext.refl w).alloc _).alloc _).alloc _) (fun k hk=>by simp;omega)) _ _ hr) hA (by omega) (by omega) (by omega) (by omega) (by
    have e:=heap_alloc_new ((w.alloc (.cells #[.int .i64 r.a,.int .i64 r.i,.int .i64 r.n,.int .i64 r.kind,.string r.label,.slice r.hA r.hn r.hc,.slice r.wA r.wn r.wc,.slice r.kA r.kn r.kc] 30)).alloc (.cells #[.int .i64 0,.int .i64 0,.int .i64 0,.int .i64 0,.string ⟨#[]⟩,.slice none 0 0,.slice none 0 0,.slice none 0 0] 30)) (.cells #[.int .i64 act,.int .i64 item,.int .i64 0,.int .i64 0] 205);rw[show((w.alloc (.cells #[.int .i64 r.a,.int .i64 r.i,.int .i64 r.n,.int .i64 r.kind,.string r.label,.slice r.hA r.hn r.hc,.slice r.wA r.wn r.wc,.slice r.kA r.kn r.kc] 30)).alloc (.cells #[.int .i64 0,.int .i64 0,.int .i64 0,.int .i64 0,.string ⟨#[]⟩,.slice none 0 0,.slice none 0 0,.slice none 0 0] 30)).heap.size=w.heap.size+2 from by simp]at e;exact e)
 rw[Int.zero_add,hX]at QK;rw[hX]
 have hres:((w.alloc (.cells #[.int .i64 r.a,.int .i64 r.i,.int .i64 r.n,.int .i64 r.kind,.string r.label,.slice r.hA r.hn r.hc,.slice r.wA r.wn r.wc,.slice r.kA r.kn r.kc] 30)).alloc (.cells #[.int .i64 0,.int .i64 0,.int .i64 0,.int .i64 0,.string ⟨#[]⟩,.slice none 0 0,.slice none 0 0,.slice none 0 0] 30)).heap[w.heap.size+1]? =some (.cells dU.cells.toArray 30 (0,0)):=by
  have e:=heap_alloc_new (w.alloc (.cells #[.int .i64 r.a,.int .i64 r.i,.int .i64 r.n,.int .i64 r.kind,.string r.label,.slice r.hA r.hn r.hc,.slice r.wA r.wn r.wc,.slice r.kA r.kn r.kc] 30)) (.cells dU.cells.toArray 30);rw[show(w.alloc (.cells #[.int .i64 r.a,.int .i64 r.i,.int .i64 r.n,.int .i64 r.kind,.string r.label,.slice r.hA r.hn r.hc,.slice r.wA r.wn r.wc,.slice r.kA r.kn r.kc] 30)).heap.size=w.heap.size+1 from by simp]at e;exact e
 have hext:Ext w (((w.alloc (.cells #[.int .i64 r.a,.int .i64 r.i,.int .i64 r.n,.int .i64 r.kind,.string r.label,.slice r.hA r.hn r.hc,.slice r.wA r.wn r.wc,.slice r.kA r.kn r.kc] 30)).alloc (.cells #[.int .i64 0,.int .i64 0,.int .i64 0,.int .i64 0,.string ⟨#[]⟩,.slice none 0 0,.slice none 0 0,.slice none 0 0] 30)).alloc (.cells #[.int .i64 act,.int .i64 item,.int .i64 0,.int .i64 0] 205)):=(((Ext.refl w).alloc _).alloc _).alloc _;have hres2:=(heap_alloc_old _ (.cells #[.int .i64 act,.int .i64 item,.int .i64 0,.int .i64 0] 205) (by simp)).trans hres;have hsz:(((w.alloc (.cells #[.int .i64 r.a,.int .i64 r.i,.int .i64 r.n,.int .i64 r.kind,.string r.label,.slice r.hA r.hn r.hc,.slice r.wA r.wn r.wc,.slice r.kA r.kn r.kc] 30)).alloc (.cells #[.int .i64 0,.int .i64 0,.int .i64 0,.int .i64 0,.string ⟨#[]⟩,.slice none 0 0,.slice none 0 0,.slice none 0 0] 30)).alloc (.cells #[.int .i64 act,.int .i64 item,.int .i64 0,.int .i64 0] 205)).heap.size=w.heap.size+3:=by simp
 obtain⟨wz,hwz⟩:=aH ((((w.alloc (.cells #[.int .i64 r.a,.int .i64 r.i,.int .i64 r.n,.int .i64 r.kind,.string r.label,.slice r.hA r.hn r.hc,.slice r.wA r.wn r.wc,.slice r.kA r.kn r.kc] 30)).alloc (.cells #[.int .i64 0,.int .i64 0,.int .i64 0,.int .i64 0,.string ⟨#[]⟩,.slice none 0 0,.slice none 0 0,.slice none 0 0] 30)).alloc (.cells #[.int .i64 act,.int .i64 item,.int .i64 0,.int .i64 0] 205)));rw[hwz]at QK hext hres2 hsz;have LC:=ah hwz;have Gm:=ah hsz;have agW:=ah QK;simp only[aB.cells]at agW⊢;clear hwz hsz QK hres hX;go_enter func94,ntmps94
 go_wp2_with fail
 rw[LC.out];refine(agW.out).mono ?_;rintro e w2 ⟨r',rfl,hB,-,hrd⟩;have hsz:=Gm.out;have ant:=(hB.block (w.heap.size+1) (by omega) (by omega)).trans hres2;clear hsz hres2;go_wp2_with (refine aP rfl 30 (.tmp 6) (.tmp 12) rfl (w.heap.size+1) 0 (.agg r'.cells.toArray) rfl rfl r'.cells rfl sizeOf30 (aj.h1 r') 30 _ ant (by simp[dU,aB.cells]) ?_;intro w3 hw3 gQ gT gU hs3 jw)
 have hfin:w3.heap[w.heap.size+1]? =some (.cells r'.cells.toArray 30 (0,0)):=by
  rw[jw];simp[aB.cells,dU]
 (try simp only[Exit.inBlock,Exit.then])
 refine bodyPost_ret (kJ rfl _ _ (w.heap.size+1) _ rfl hfin) rfl ?_;have hsz:=Gm.out;have hx2:Ext w w2:=hB.uZ hext (by omega);refine⟨r',rfl,hx2.put (by omega) hw3 gQ gT gU hs3,Reads.cin (aZ.keep (by rw[hs3];exact aI _) fun k hk hpk=> ?_) _ _ hrd⟩;simp only[fresh,decide_eq_false_iff_not,Nat.not_lt]at hpk;exact⟨hw3 k (by omega),by simp[fresh];omega⟩
structure lG (d:Nat->Bool) (w:World):Prop where
 unit:∀j,d j=true->∃(r:aB) (t:TypeId),w.heap[j]? =some (.cells r.cells.toArray t (0,0))
theorem lG.lt{d:Nat->Bool}{w:World}(h:lG d w):∀j,d j=true->j<w.heap.size:=fun j hj=>by
 obtain⟨r,t,hb⟩:=h.unit j hj;exact ay hb
theorem lG.ext{d:Nat->Bool}{w w':World}(h:lG d w)(he:Ext w w'):lG d w':=⟨fun j hj=>by
 obtain⟨r,t,hb⟩:=h.unit j hj;exact⟨r,t,(he.block (ay hb)).trans hb⟩⟩
theorem lG.add{d:Nat->Bool}{w:World}{b:Nat}(h:lG d w){r:aB}{t:TypeId}(hb:w.heap[b]? =some (.cells r.cells.toArray t (0,0))):lG (oL d b) w:=⟨fun j hj=>by
 rcases EZ hj with hj|rfl
 ·exact h.unit j hj
 ·exact⟨r,t,hb⟩⟩
theorem Sl.ab1{d:Nat->Bool}{w:World}{A:Option Addr}{ws:List aJ}(h:Sl aQ w A ws)(hD:lG d w):Sl aQ (mask d w) A ws:=fun hn=>by
 obtain⟨b,off,hA,hb,hc⟩:=h hn
 have hd:d b=false:=by
  cases hd:d b with
  |false=>rfl
  |true=>
   exfalso;obtain⟨r,t,hbk⟩:=hD.unit b hd;obtain⟨y,ys,rfl⟩:=List.exists_cons_of_ne_nil hn;have h0:=hc 0 (.string y.t) (by simp[El.flat,aQ,aJ.cells]);have h1:=hc 1 (.int .i64 y.a) (by simp[El.flat,aQ,aJ.cells]);simp only[World.cell?,hbk]at h0 h1
   have hlen:off+0<r.cells.length:=by
    rcases gM (off+0) r.cells.length with h|h
    ·exact h
    ·simp only[List.getElem?_toArray]at h0
     rw[xB h]at h0;cases h0
   have hl8:r.cells.length=8:=rfl
   match off,hlen with
   |0,_=>simp[aB.cells]at h0
   |1,_=>simp[aB.cells]at h0
   |2,_=>simp[aB.cells]at h0
   |3,_=>simp[aB.cells]at h0
   |4,_=>simp[aB.cells]at h1
   |5,_=>simp[aB.cells]at h0
   |6,_=>simp[aB.cells]at h0
   |7,_=>simp[aB.cells]at h0
   |k+8,hk=>omega
 refine⟨b,off,hA,by rw[mF];exact hb,fun j z hz=>ng hd (hc j z hz)⟩
theorem uh{r:aB}{k:Nat}{z:Value}(h:(aM.E r.id)[k]? =some z):(aj.E r)[k]? =some z:=by
 have hk:k<3:=(List.getElem?_eq_some_iff.1 h).1
 match k,hk with
 |0,_=>exact h
 |1,_=>exact h
 |2,_=>exact h
theorem rP{W:World}{b:Nat}{q:dY}(h:At W b 0 (bF.E q)):W.cell? ⟨b,0,none⟩=some (.int .i64 q.act)/\W.cell? ⟨b,1,none⟩=some (.int .i64 q.item)/\W.cell? ⟨b,7,none⟩=some (.int .i64 q.it.nth)/\W.cell? ⟨b,16,none⟩=some (.slice q.it.oA q.it.oN q.it.oC)/\W.cell? ⟨b,17,none⟩=some (.slice q.it.nA q.it.nN q.it.nC)/\W.cell? ⟨b,18,none⟩=some (.string q.it.label):=
 ⟨by simpa using h.one 0 (u:=.int .i64 q.act) rfl,by simpa using h.one 1 (u:=.int .i64 q.item) rfl,by simpa using h.one 7 (u:=.int .i64 q.it.nth) rfl,by simpa using h.one 16 (u:=.slice q.it.oA q.it.oN q.it.oC) rfl,by simpa using h.one 17 (u:=.slice q.it.nA q.it.nN q.it.nC) rfl,by simpa using h.one 18 (u:=.string q.it.label) rfl⟩
theorem eZ.one{w:World}{y:fM}{r:bE}(h:eZ w y r):gF w y.x r:=by
 cases y
 rw[eZ]at h;exact h.1
theorem lu.one{y:fM}(h:lu y):sM y.x:=by
 cases y
 rw[lu]at h;exact h.1
def uj(d:Nat->Bool)(P:av->Int->Prop)(w:World)(e:Ending)(w':World):Prop:=∃(u':av) (r':aB) (E:Int),e=.returned (.tuple #[.agg r'.cells.toArray,.int .i64 E])/\Ext w w'/\Reads (mask d w') u' r'/\P u' E
theorem ab2(d:Nat->Bool)(u:av)(r xr:aB)(dd:dn)(q:dY)(w:World)(hD:lG d w)(hr:Reads (mask d w) u r)(hok:dI u)(hq:fH w dd q)(hi:lu dd.it):
 Calls prog 67 #[.agg r.cells.toArray,.agg xr.cells.toArray,.agg q.cells.toArray] w (uj d (fun u' E=>E=0/\u'=fZ xr.id (fun y=>y.setHead (gB dd.act dd.item 0 dd.it.x.iE)) u) w):=by
 have jN:=ah (fun wq (he:Ext w wq) (hb:w.heap.size<=w.heap.size+3)=>Reads.cin (aZ.dark (d:=d) he hb) u r hr);have HD:=ah hD;have fI:=ah hok;obtain⟨nN,nC,nS⟩:=(⟨hq.it.one.nN,hq.it.one.nC,hq.it.one.nS⟩:q.it.nN=dd.it.x.iE.length/\dd.it.x.iE.length<=q.it.nC/\Sl bP w q.it.nA dd.it.x.iE);have hnl:dd.it.x.iE.length<=300:=hi.one.n;have Ha:=ah hq.act;have Hi:=ah hq.item
 have Hmk:=ah (fun wq (he:Ext w wq)=>by
  have h:=KO q.it.nA q.it.nC dd.it.x.iE q.act q.item 0 wq (nS.ext he) (by omega) (by decide) (by decide);rw[<-nN,Ha.out,Hi.out]at h;rw[<-Ha.out,<-Hi.out]at h;exact h)
 clear hD hr hok hq hi nN nC nS hnl;go_enter func67,ntmps67
 go_upto_region 1 with(first|(refine aG aj (.tmp 0) rfl rfl r rfl fun wA aR bG bB aO=> ?_)|(refine aG aj (.tmp 1) rfl rfl xr rfl fun wB eH ji hkB eG=> ?_)|(refine aG bF (.tmp 2) rfl rfl q rfl fun wC dD jK fE oW=> ?_)|(refine aL aj rfl rfl fun wD gW oH kg=> ?_))
 have hzz:wA.heap.size=w.heap.size+1/\wB.heap.size=w.heap.size+2/\wC.heap.size=w.heap.size+3:=⟨bG,by omega,by omega⟩;have HX:=ah (aR.trans (eH.trans (dD.trans gW)));have dO:=ah (fun W (he:Ext wD W)=>aO.ext (eH.trans (dD.trans (gW.trans he))) (ay bB));have qV:=ah (show∀W,Ext wD W->At W (w.heap.size+1) 0 (aj.E xr)from fun W he=>by rw[<-hzz.1];exact eG.ext (dD.trans (gW.trans he)) (ay hkB));have mo:=ah (show∀W,Ext wD W->At W (w.heap.size+2) 0 (bF.E q)from fun W he=>by rw[<-hzz.2.1];exact oW.ext (gW.trans he) (ay fE));have jI:=ah (show wD.heap[w.heap.size+3]? =some (.cells aj.z.cells aj.e (0,0))from by rw[<-hzz.2.2];exact kg);have CZ:w.heap.size+3<wD.heap.size:=ay jI.out;have iT:=ah (show∀W,Ext wD W->At W (w.heap.size+1) 0 (aM.E xr.id)from fun W he j y hy=>qV.out W he j y (uh hy));have C8:=ah (fun W (he:Ext wD W)=>rP (mo.out W he));clear aR bG bB aO eH ji hkB eG dD jK fE oW gW oH kg hzz mo;obtain⟨c0,c1,-,-,c17,-⟩:=C8.out wD (Ext.refl _);have alr:=ah (Hmk.out wD HX.out);clear Hmk;go_wp2_with fail
 refine alr.out.mono ?_;rintro e w2 ⟨v,rfl,hown,hx2⟩;obtain⟨ws,hws⟩:=aH (gB q.act q.item 0 dd.it.x.iE);rw[hws]at hown;have BG:=ah hws;have eD:=ah hx2;have rY:=ah hown;have IE:=ah ((hx2.block (ay jI.out)).trans jI.out);obtain⟨Aw,cw,rfl,-,-⟩:=hown.form;have hz2:w.heap.size+3<w2.heap.size:=bQ CZ hx2.size;clear hws hx2 hown alr c0 c1 c17 jI;go_upto_region 2 with(refine aP rfl 27 (.tmp 8) (.tmp 16) rfl w2.heap.size 0 (.slice Aw ws.length cw) rfl rfl [.slice Aw ws.length cw] rfl sizeOf27 (by simp[Value.oneCell']) 27 _ (heap_alloc_new w2 (.cells #[.slice none 0 0] 27)) (by simp) ?_;intro w3 hw3 gQ gT gU hs3 jw)
 have rQ:Ext w2 w3:=((Ext.refl w2).alloc (.cells #[.slice none 0 0] 27)).put (aI _) hw3 gQ gT gU hs3;have iR:=ah (HX.out.trans (eD.out.trans rQ));have eU:=ah (eD.out.trans rQ);have uO:=ah ((rQ.block (ay IE.out)).trans IE.out);have HD3:=ah ((HD.out.ext iR.out).add (b:=w.heap.size+3) (r:=dU) uO.out)
 have IG:Wm w2.heap.size ws w3 (oL d (w.heap.size+3)):=by
  refine⟨ay jw,Aw,cw,by simp[World.cell?,jw],?_⟩
  obtain⟨A',c',hv,hc,-,hs⟩:=(rY.out.ext rQ).kG (p:=oL d (w.heap.size+3)) (fun k hk _=>by
   unfold oL
   have:d k=false:=by
    cases hd:d k with
    |false=>rfl
    |true=>have:=HD.out.lt k hd;have:=HX.out.size;omega
   rw[this,Bool.false_or];exact aY (by omega))
  cases hv
  exact⟨hc,hs⟩
 have ow:=ah (vP (oL d (w.heap.size+3)) u r xr.id w3 (fun _ _=>rfl) (XK w2.heap.size ws w3 _ IG) HD3.out.lt (jN.out w3 iR.out (by omega)) fI.out (fun _ _ _=>trivial));have mK:=ah (dO.out w3 eU.out);have vF:=ah (iT.out w3 eU.out);clear hw3 gQ gT gU hs3 jw rQ IG;go_wp2_with (first|((with_reducible refine au aj (.tmp 3) ?_ ?_ ?_ w.heap.size 0 ?_ r ?_ ?_);rfl;rfl;rfl;rfl;exact mK.out)|(refine fV rfl 30 0 (.tmp 4) rfl _ underlying30 _ rfl 3 sizeOf26 (by decide) (w.heap.size+1) 0 rfl ?_)|((with_reducible refine au aM (.tmp 18) ?_ ?_ ?_ (w.heap.size+1) 0 ?_ xr.id ?_ ?_);rfl;rfl;rfl;rfl;exact vF.out))
 refine ow.out.mono ?_;rintro e w5 ⟨r',rfl,hx5,lY⟩;have Cr:=(hx5.block (ay uO.out)).trans uO.out;have hx6:=iR.out.trans hx5;have FE:=ah lY;clear ow lY;go_wp2_with ((refine aD aj (.tmp 6) (.tmp 21) ?_ ?_ w (w.heap.size+3) ?_ r' ?_ _ _ Cr ?_ hx6 (by omega) ?_);rfl;rfl;rfl;rfl;rfl;intro wG dL fF dM lZ jS)
 refine bodyPost_ret (dA rfl _ _ (w.heap.size+3) r' rfl dM) rfl ?_;refine⟨_,r',0,rfl,dL,Reads.cin (aZ.light fF jS) _ _ FE.out,rfl,?_⟩;rw[<-BG.out,Ha.out,Hi.out]
theorem YN(d:Nat->Bool)(u:av)(r xr:aB)(dd:dn)(q:dY)(w:World)(hD:lG d w)(hr:Reads (mask d w) u r)(hok:dI u)(hq:fH w dd q)(hi:lu dd.it)(x:av)(hx:Reads (mask d w) x xr)(hxl:x.words.length<=300):
 Calls prog 65 #[.agg r.cells.toArray,.agg xr.cells.toArray,.agg q.cells.toArray] w (uj d (fun u' E=>(E=0->u'=fZ xr.id (fun y=>y.kV (Aa x.words dd.it.x.old dd.it.x.iE dd.it.x.nth dd.act dd.item).1) u)/\(E≠0->u'=u)) w):=by
 have jN:=ah (fun wq (he:Ext w wq) (hb:w.heap.size<=w.heap.size+3)=>Reads.cin (aZ.dark (d:=d) he hb) u r hr);have als:=ah (fun wq (he:Ext w wq)=>Reads.cin (aZ.ext (p:=d) he) u r hr);have HD:=ah hD;have fI:=ah hok;have hf:=hx.j5;obtain⟨-,-,-,-,-,-,hwn,hwc,rD,-⟩:=hf;have Z8:=ah hwn
 have nO:=ah (fun wq (he:Ext w wq)=>by
  have h:=VL xr.wA q.it.oA q.it.nA xr.wc q.it.oC q.it.nC x.words dd.it.x.old dd.it.x.iE q.it.nth q.act q.item wq ((rD.cin (aZ.iV d w)).ext he) (hq.it.one.oS.ext he) (hq.it.one.nS.ext he) (by have:=hxl;omega) (by have:=hi.one.o;omega) (by have:=hi.one.n;omega);rw[<-hwn,<-hq.it.one.oN,<-hq.it.one.nN]at h;exact h)
 obtain⟨R,hR⟩:=aH (Aa x.words dd.it.x.old dd.it.x.iE q.it.nth q.act q.item);rw[hR]at nO;have HR:=ah (show Aa x.words dd.it.x.old dd.it.x.iE dd.it.x.nth dd.act dd.item=R from by rw[<-hR,hq.it.one.nth,hq.act,hq.item]);rw[HR.out];clear hD hr hok hq hi hx hxl hwn hwc rD hR;go_enter func65,ntmps65
 go_upto_region 1 with(first|(refine aG aj (.tmp 0) rfl rfl r rfl fun wA aR bG bB aO=> ?_)|(refine aG aj (.tmp 1) rfl rfl xr rfl fun wB eH ji hkB eG=> ?_)|(refine aG bF (.tmp 2) rfl rfl q rfl fun wC dD jK fE oW=> ?_)|(refine aL aj rfl rfl fun wD gW oH kg=> ?_))
 have hzz:wA.heap.size=w.heap.size+1/\wB.heap.size=w.heap.size+2/\wC.heap.size=w.heap.size+3:=⟨bG,by omega,by omega⟩;have HX:=ah (aR.trans (eH.trans (dD.trans gW)));have dO:=ah (fun W (he:Ext wD W)=>aO.ext (eH.trans (dD.trans (gW.trans he))) (ay bB));have qV:=ah (show∀W,Ext wD W->At W (w.heap.size+1) 0 (aj.E xr)from fun W he=>by rw[<-hzz.1];exact eG.ext (dD.trans (gW.trans he)) (ay hkB));have mo:=ah (show∀W,Ext wD W->At W (w.heap.size+2) 0 (bF.E q)from fun W he=>by rw[<-hzz.2.1];exact oW.ext (gW.trans he) (ay fE));have jI:=ah (show wD.heap[w.heap.size+3]? =some (.cells aj.z.cells aj.e (0,0))from by rw[<-hzz.2.2];exact kg);have CZ:w.heap.size+3<wD.heap.size:=ay jI.out;have iT:=ah (show∀W,Ext wD W->At W (w.heap.size+1) 0 (aM.E xr.id)from fun W he j y hy=>qV.out W he j y (uh hy));have C8:=ah (fun W (he:Ext wD W)=>rP (mo.out W he));clear aR bG bB aO eH ji hkB eG dD jK fE oW gW oH kg hzz mo;obtain⟨c0,c1,c7,c16,c17,-⟩:=C8.out wD (Ext.refl _);have cw:wD.cell? ⟨w.heap.size+1,6,none⟩=some (.slice xr.wA xr.wn xr.wc):=by simpa using(qV.out wD (Ext.refl _)).one 6 (u:=.slice xr.wA xr.wn xr.wc) rfl
 have y5:=ah (nO.out wD HX.out);clear nO;go_wp2_with fail
 refine y5.out.mono ?_;rintro e w2 ⟨Aw,cc,rfl,hlc,hsl,hx2⟩;have eD:=ah hx2;have pK:=ah hsl;have IE:=ah ((hx2.block (ay jI.out)).trans jI.out);have hz2:w.heap.size+3<w2.heap.size:=bQ CZ hx2.size;obtain⟨ws,E⟩:=R;simp only at hlc pK⊢;clear hx2 hsl y5 c0 c1 c7 c16 c17 cw jI;go_upto_region 2 with(refine aP rfl 27 (.tmp 8) (.tmp 27) rfl w2.heap.size 0 (.slice Aw ws.length cc) rfl rfl [.slice Aw ws.length cc] rfl sizeOf27 (by simp[Value.oneCell']) 27 _ (heap_alloc_new w2 (.cells #[.slice none 0 0] 27)) (by simp) ?_;intro w3 hw3 gQ gT gU hs3 jw)
 have rQ:Ext w2 w3:=((Ext.refl w2).alloc (.cells #[.slice none 0 0] 27)).put (aI _) hw3 gQ gT gU hs3;have iR:=ah (HX.out.trans (eD.out.trans rQ));have eU:=ah (eD.out.trans rQ);have uO:=ah ((rQ.block (ay IE.out)).trans IE.out);have HD3:=ah ((HD.out.ext iR.out).add (b:=w.heap.size+3) (r:=dU) uO.out);have mK:=ah (dO.out w3 eU.out);have vF:=ah (iT.out w3 eU.out);by_cases hE:E=0
 ·subst hE
  have d0:((0:Int) !=0)=false:=rfl;have IG:Wm w2.heap.size ws w3 (oL d (w.heap.size+3)):=⟨ay jw,Aw,cc,by simp[World.cell?,jw],hlc,(pK.out.ext rQ).ab1 HD3.out⟩;have ow:=ah (vP (oL d (w.heap.size+3)) u r xr.id w3 (fun _ _=>rfl) (adx w2.heap.size ws w3 _ IG) HD3.out.lt (jN.out w3 iR.out (by omega)) fI.out (fun _ _ _=>trivial));clear hw3 gQ gT gU hs3 jw rQ IG;go_wp2_with (first|((with_reducible refine au aj (.tmp 3) ?_ ?_ ?_ w.heap.size 0 ?_ r ?_ ?_);rfl;rfl;rfl;rfl;exact mK.out)|(refine fV rfl 30 0 (.tmp 4) rfl _ underlying30 _ rfl 3 sizeOf26 (by decide) (w.heap.size+1) 0 rfl ?_)|((with_reducible refine au aM (.tmp 34) ?_ ?_ ?_ (w.heap.size+1) 0 ?_ xr.id ?_ ?_);rfl;rfl;rfl;rfl;exact vF.out))
  refine ow.out.mono ?_;rintro e w5 ⟨r',rfl,hx5,lY⟩;have Cr:=(hx5.block (ay uO.out)).trans uO.out;have hx6:=iR.out.trans hx5;have FE:=ah lY;clear ow lY;go_wp2_with ((refine aD aj (.tmp 6) (.tmp 37) ?_ ?_ w (w.heap.size+3) ?_ r' ?_ _ _ Cr ?_ hx6 (by omega) ?_);rfl;rfl;rfl;rfl;rfl;intro wG dL fF dM lZ jS)
  refine bodyPost_ret (dA rfl _ _ (w.heap.size+3) r' rfl dM) rfl ?_;exact⟨_,r',0,rfl,dL,Reads.cin (aZ.light fF jS) _ _ FE.out,fun _=>rfl,fun h=>absurd rfl h⟩
 ·have d0:(E !=0)=true:=by simpa using hE
  have HE:=ah hE;have aex:=uO.out;have hx3:=iR.out;clear hw3 gQ gT gU hs3 jw rQ hE;obtain⟨r',hrr⟩:=aH (r);subst hrr;go_wp2_with (first|((with_reducible refine au aj (.tmp 3) ?_ ?_ ?_ w.heap.size 0 ?_ r ?_ ?_);rfl;rfl;rfl;rfl;exact mK.out)|((refine aD aj (.tmp 6) (.tmp 31) ?_ ?_ w (w.heap.size+3) ?_ r ?_ _ _ aex ?_ hx3 (by omega) ?_);rfl;rfl;rfl;rfl;rfl;intro wG dL fF dM lZ jS))
  refine bodyPost_ret (dA rfl _ _ (w.heap.size+3) r rfl dM) rfl ?_;exact⟨u,r,E,rfl,dL,Reads.cin (aZ.light fF jS) _ _ (jN.out w3 iR.out (by omega)),fun h=>absurd h HE.out,fun _=>rfl⟩
theorem aey(d:Nat->Bool)(u:av)(r xr:aB)(dd:dn)(q:dY)(w:World)(hD:lG d w)(hr:Reads (mask d w) u r)(hok:dI u)(hq:fH w dd q)(hi:lu dd.it)(x:av)(hx:Reads (mask d w) x xr)(hxl:x.words.length<=300):
 Calls prog 66 #[.agg r.cells.toArray,.agg xr.cells.toArray,.agg q.cells.toArray] w (uj d (fun u' E=>(E=0->u'=fZ xr.id (fun y=>y.kV (Ab x.words dd.it.x.old dd.it.x.iE dd.it.x.nth dd.act dd.item).1) u)/\(E≠0->u'=u)) w):=by
 have jN:=ah (fun wq (he:Ext w wq) (hb:w.heap.size<=w.heap.size+3)=>Reads.cin (aZ.dark (d:=d) he hb) u r hr);have als:=ah (fun wq (he:Ext w wq)=>Reads.cin (aZ.ext (p:=d) he) u r hr);have HD:=ah hD;have fI:=ah hok;have hf:=hx.j5;obtain⟨-,-,-,-,-,-,hwn,hwc,rD,-⟩:=hf;have Z8:=ah hwn
 have nO:=ah (fun wq (he:Ext w wq)=>by
  have h:=Un xr.wA q.it.oA q.it.nA xr.wc q.it.oC q.it.nC x.words dd.it.x.old dd.it.x.iE q.it.nth q.act q.item wq ((rD.cin (aZ.iV d w)).ext he) (hq.it.one.oS.ext he) (hq.it.one.nS.ext he) (by have:=hxl;omega) (by have:=hi.one.o;omega) (by have:=hi.one.n;omega);rw[<-hwn,<-hq.it.one.oN,<-hq.it.one.nN]at h;exact h)
 obtain⟨R,hR⟩:=aH (Ab x.words dd.it.x.old dd.it.x.iE q.it.nth q.act q.item);rw[hR]at nO;have HR:=ah (show Ab x.words dd.it.x.old dd.it.x.iE dd.it.x.nth dd.act dd.item=R from by rw[<-hR,hq.it.one.nth,hq.act,hq.item]);rw[HR.out];clear hD hr hok hq hi hx hxl hwn hwc rD hR;go_enter func66,ntmps66
 go_upto_region 1 with(first|(refine aG aj (.tmp 0) rfl rfl r rfl fun wA aR bG bB aO=> ?_)|(refine aG aj (.tmp 1) rfl rfl xr rfl fun wB eH ji hkB eG=> ?_)|(refine aG bF (.tmp 2) rfl rfl q rfl fun wC dD jK fE oW=> ?_)|(refine aL aj rfl rfl fun wD gW oH kg=> ?_))
 have hzz:wA.heap.size=w.heap.size+1/\wB.heap.size=w.heap.size+2/\wC.heap.size=w.heap.size+3:=⟨bG,by omega,by omega⟩;have HX:=ah (aR.trans (eH.trans (dD.trans gW)));have dO:=ah (fun W (he:Ext wD W)=>aO.ext (eH.trans (dD.trans (gW.trans he))) (ay bB));have qV:=ah (show∀W,Ext wD W->At W (w.heap.size+1) 0 (aj.E xr)from fun W he=>by rw[<-hzz.1];exact eG.ext (dD.trans (gW.trans he)) (ay hkB));have mo:=ah (show∀W,Ext wD W->At W (w.heap.size+2) 0 (bF.E q)from fun W he=>by rw[<-hzz.2.1];exact oW.ext (gW.trans he) (ay fE));have jI:=ah (show wD.heap[w.heap.size+3]? =some (.cells aj.z.cells aj.e (0,0))from by rw[<-hzz.2.2];exact kg);have CZ:w.heap.size+3<wD.heap.size:=ay jI.out;have iT:=ah (show∀W,Ext wD W->At W (w.heap.size+1) 0 (aM.E xr.id)from fun W he j y hy=>qV.out W he j y (uh hy));have C8:=ah (fun W (he:Ext wD W)=>rP (mo.out W he));clear aR bG bB aO eH ji hkB eG dD jK fE oW gW oH kg hzz mo;obtain⟨c0,c1,c7,c16,c17,-⟩:=C8.out wD (Ext.refl _);have cw:wD.cell? ⟨w.heap.size+1,6,none⟩=some (.slice xr.wA xr.wn xr.wc):=by simpa using(qV.out wD (Ext.refl _)).one 6 (u:=.slice xr.wA xr.wn xr.wc) rfl
 have y5:=ah (nO.out wD HX.out);clear nO;go_wp2_with fail
 refine y5.out.mono ?_;rintro e w2 ⟨Aw,cc,rfl,hlc,hsl,hx2⟩;have eD:=ah hx2;have pK:=ah hsl;have IE:=ah ((hx2.block (ay jI.out)).trans jI.out);have hz2:w.heap.size+3<w2.heap.size:=bQ CZ hx2.size;obtain⟨ws,E⟩:=R;simp only at hlc pK⊢;clear hx2 hsl y5 c0 c1 c7 c16 c17 cw jI;go_upto_region 2 with(refine aP rfl 27 (.tmp 8) (.tmp 27) rfl w2.heap.size 0 (.slice Aw ws.length cc) rfl rfl [.slice Aw ws.length cc] rfl sizeOf27 (by simp[Value.oneCell']) 27 _ (heap_alloc_new w2 (.cells #[.slice none 0 0] 27)) (by simp) ?_;intro w3 hw3 gQ gT gU hs3 jw)
 have rQ:Ext w2 w3:=((Ext.refl w2).alloc (.cells #[.slice none 0 0] 27)).put (aI _) hw3 gQ gT gU hs3;have iR:=ah (HX.out.trans (eD.out.trans rQ));have eU:=ah (eD.out.trans rQ);have uO:=ah ((rQ.block (ay IE.out)).trans IE.out);have HD3:=ah ((HD.out.ext iR.out).add (b:=w.heap.size+3) (r:=dU) uO.out);have mK:=ah (dO.out w3 eU.out);have vF:=ah (iT.out w3 eU.out);by_cases hE:E=0
 ·subst hE
  have d0:((0:Int) !=0)=false:=rfl;have IG:Wm w2.heap.size ws w3 (oL d (w.heap.size+3)):=⟨ay jw,Aw,cc,by simp[World.cell?,jw],hlc,(pK.out.ext rQ).ab1 HD3.out⟩;have ow:=ah (vP (oL d (w.heap.size+3)) u r xr.id w3 (fun _ _=>rfl) (ai9 w2.heap.size ws w3 _ IG) HD3.out.lt (jN.out w3 iR.out (by omega)) fI.out (fun _ _ _=>trivial));clear hw3 gQ gT gU hs3 jw rQ IG;go_wp2_with (first|((with_reducible refine au aj (.tmp 3) ?_ ?_ ?_ w.heap.size 0 ?_ r ?_ ?_);rfl;rfl;rfl;rfl;exact mK.out)|(refine fV rfl 30 0 (.tmp 4) rfl _ underlying30 _ rfl 3 sizeOf26 (by decide) (w.heap.size+1) 0 rfl ?_)|((with_reducible refine au aM (.tmp 34) ?_ ?_ ?_ (w.heap.size+1) 0 ?_ xr.id ?_ ?_);rfl;rfl;rfl;rfl;exact vF.out))
  refine ow.out.mono ?_;rintro e w5 ⟨r',rfl,hx5,lY⟩;have Cr:=(hx5.block (ay uO.out)).trans uO.out;have hx6:=iR.out.trans hx5;have FE:=ah lY;clear ow lY;go_wp2_with ((refine aD aj (.tmp 6) (.tmp 37) ?_ ?_ w (w.heap.size+3) ?_ r' ?_ _ _ Cr ?_ hx6 (by omega) ?_);rfl;rfl;rfl;rfl;rfl;intro wG dL fF dM lZ jS)
  refine bodyPost_ret (dA rfl _ _ (w.heap.size+3) r' rfl dM) rfl ?_;exact⟨_,r',0,rfl,dL,Reads.cin (aZ.light fF jS) _ _ FE.out,fun _=>rfl,fun h=>absurd rfl h⟩
 ·have d0:(E !=0)=true:=by simpa using hE
  have HE:=ah hE;have aex:=uO.out;have hx3:=iR.out;clear hw3 gQ gT gU hs3 jw rQ hE;obtain⟨r',hrr⟩:=aH (r);subst hrr;go_wp2_with (first|((with_reducible refine au aj (.tmp 3) ?_ ?_ ?_ w.heap.size 0 ?_ r ?_ ?_);rfl;rfl;rfl;rfl;exact mK.out)|((refine aD aj (.tmp 6) (.tmp 31) ?_ ?_ w (w.heap.size+3) ?_ r ?_ _ _ aex ?_ hx3 (by omega) ?_);rfl;rfl;rfl;rfl;rfl;intro wG dL fF dM lZ jS))
  refine bodyPost_ret (dA rfl _ _ (w.heap.size+3) r rfl dM) rfl ?_;exact⟨u,r,E,rfl,dL,Reads.cin (aZ.light fF jS) _ _ (jN.out w3 iR.out (by omega)),fun h=>absurd h HE.out,fun _=>rfl⟩
def nQ:av:=.mk 0 0 0 0 ⟨#[]⟩ [] [] []
theorem yB(w:World):Reads w nQ dU:=by
 unfold nQ;rw[Reads];exact⟨⟨rfl,rfl,rfl,rfl,rfl⟩,⟨rfl,aI _,Sl.nil⟩,⟨rfl,aI _,Sl.nil⟩,rfl,aI _,[],Sl.nil,by rw[ReadsAll];trivial⟩
theorem Oi:dI nQ:=⟨iD.mk' ⟨by decide,by decide,by decide,by decide,(fun x hx=>by cases hx),(fun x hx=>by cases hx)⟩ (by unfold nQ;show gJ Lj [];rw[gJ];trivial),by unfold nQ;rw[cntF,bZ];decide⟩
theorem Reads.alu{w:World}{x:av}{r:aB}(l:ByteArray)(h:Reads w x r):Reads w (x.kH l) {r with label:=l}:=by
 obtain⟨a,i,n,k,l0,hd,wd,kids⟩:=x;unfold av.kH;rw[Reads]at h⊢;obtain⟨⟨h1,h2,h3,h4,-⟩,h5⟩:=h;exact⟨⟨h1,h2,h3,h4,rfl⟩,h5⟩
theorem VN(d:Nat->Bool)(u:av)(r xr:aB)(dd:dn)(q:dY)(w:World)(hD:lG d w)(hr:Reads (mask d w) u r)(hok:dI u)(hq:fH w dd q)(hi:lu dd.it)(hnd:(kW (dN u)).Nodup)(h2:2<=(cZ xr.id u).length):
 Calls prog 64 #[.agg r.cells.toArray,.agg xr.cells.toArray,.agg q.cells.toArray] w (uj d (fun u' E=>E=0/\∃p j,pF xr.id u p j/\u'=fZ p.id (fun y=>y.dJ (y.kids.eraseIdx j)) u) w):=by
 have jN:=ah (fun wq (he:Ext w wq) (hb:w.heap.size<=w.heap.size+3)=>Reads.cin (aZ.dark (d:=d) he hb) u r hr);have HD:=ah hD;have fI:=ah hok
 have KJ:=ah (show∀p j,pF xr.id u p j->∀y∈bO u,y.id=p.id->j<y.kids.length from fun p j hp y hy he=>by
  rw[wZ hnd hy hp.mem he];exact hp.lt)
 have H2:=ah h2;clear hD hr hok hq hi hnd h2;go_enter func64,ntmps64
 go_upto_region 1 with(first|(refine aG aj (.tmp 0) rfl rfl r rfl fun wA aR bG bB aO=> ?_)|(refine aG aj (.tmp 1) rfl rfl xr rfl fun wB eH ji hkB eG=> ?_)|(refine aG bF (.tmp 2) rfl rfl q rfl fun wC dD jK fE oW=> ?_)|(refine aL aj rfl rfl fun wD gW oH kg=> ?_))
 have hzz:wA.heap.size=w.heap.size+1/\wB.heap.size=w.heap.size+2/\wC.heap.size=w.heap.size+3:=⟨bG,by omega,by omega⟩;have HX:=ah (aR.trans (eH.trans (dD.trans gW)));have dO:=ah (fun W (he:Ext wD W)=>aO.ext (eH.trans (dD.trans (gW.trans he))) (ay bB));have qV:=ah (show∀W,Ext wD W->At W (w.heap.size+1) 0 (aj.E xr)from fun W he=>by rw[<-hzz.1];exact eG.ext (dD.trans (gW.trans he)) (ay hkB));have mo:=ah (show∀W,Ext wD W->At W (w.heap.size+2) 0 (bF.E q)from fun W he=>by rw[<-hzz.2.1];exact oW.ext (gW.trans he) (ay fE));have jI:=ah (show wD.heap[w.heap.size+3]? =some (.cells aj.z.cells aj.e (0,0))from by rw[<-hzz.2.2];exact kg);have CZ:w.heap.size+3<wD.heap.size:=ay jI.out;have iT:=ah (show∀W,Ext wD W->At W (w.heap.size+1) 0 (aM.E xr.id)from fun W he j y hy=>qV.out W he j y (uh hy));have HkX:=ah (show∀W,Ext wD W->W.heap[w.heap.size+1]? =some (.cells xr.cells.toArray aj.e (0,0))from fun W he=>(he.block (by omega)).trans (by rw[<-hzz.1];exact((dD.trans gW).block (ay hkB)).trans hkB));have C8:=ah (fun W (he:Ext wD W)=>rP (mo.out W he));clear aR bG bB aO eH ji hkB eG dD jK fE oW gW oH kg hzz mo;have HD3:=ah ((HD.out.ext HX.out).add (b:=w.heap.size+3) (r:=dU) jI.out);have Hwo:=ah (J3 (oL d (w.heap.size+3)) u r xr.id wD HD3.out.lt (jN.out wD HX.out (by omega)) fI.out H2.out KJ.out);have mK:=ah (dO.out wD (Ext.refl _));have vF:=ah (iT.out wD (Ext.refl _));go_wp2_with (first|((with_reducible refine au aj (.tmp 3) ?_ ?_ ?_ w.heap.size 0 ?_ r ?_ ?_);rfl;rfl;rfl;rfl;exact mK.out)|(refine fV rfl 30 0 (.tmp 4) rfl _ underlying30 _ rfl 3 sizeOf26 (by decide) (w.heap.size+1) 0 rfl ?_)|((with_reducible refine au aM (.tmp 9) ?_ ?_ ?_ (w.heap.size+1) 0 ?_ xr.id ?_ ?_);rfl;rfl;rfl;rfl;exact vF.out))
 refine Hwo.out.mono ?_;rintro e w5 ⟨p,j,r',rfl,hx5,hp,lY⟩;have Cr:=(hx5.block (ay jI.out)).trans jI.out;have hx6:=HX.out.trans hx5;have FE:=ah lY;have Hp:=ah hp;clear Hwo lY hp;go_wp2_with ((refine aD aj (.tmp 6) (.tmp 11) ?_ ?_ w (w.heap.size+3) ?_ r' ?_ _ _ Cr ?_ hx6 (by omega) ?_);rfl;rfl;rfl;rfl;rfl;intro wG dL fF dM lZ jS)
 refine bodyPost_ret (dA rfl _ _ (w.heap.size+3) r' rfl dM) rfl ?_;exact⟨_,r',0,rfl,dL,Reads.cin (aZ.light fF jS) _ _ FE.out,rfl,p,j,Hp.out,rfl⟩
theorem Uq(d:Nat->Bool)(u:av)(r xr:aB)(dd:dn)(q:dY)(w:World)(hD:lG d w)(hr:Reads (mask d w) u r)(hok:dI u)(hq:fH w dd q)(hi:lu dd.it)(x:av)(hx:Reads (mask d w) x xr)(hT:kN w):
 Calls prog 68 #[.agg r.cells.toArray,.agg xr.cells.toArray,.agg q.cells.toArray] w (uj d (fun u' E=>(E=0->u'=fZ xr.id (fun y=>y.kH dd.it.x.label) u)/\(E≠0->u'=u)) w):=by
 have jN:=ah (fun wq (he:Ext w wq) (hb:w.heap.size<=w.heap.size+3)=>Reads.cin (aZ.dark (d:=d) he hb) u r hr);have HD:=ah hD;have fI:=ah hok;have yL:=Reads.cin (aZ.iV d w) u r hr;have Ck:=ah (fun wq (he:Ext w wq)=>uR u r xr.id wq (Reads.ext he _ _ yL) hok);have E9:=ah (fun(id:bf) wq (he:Ext w wq)=>CY u r id wq (Reads.ext he _ _ yL) hok);have HT:=ah hT;have ar8:=ah hq.it.one.label;have rA:=ah (fun W (he:Ext w W)=>Reads.alu q.it.label (Reads.ext he _ _ (Reads.cin (aZ.iV d w) x xr hx)));clear hD hr hok hq hi yL hx hT;go_enter func68,ntmps68
 go_upto_region 1 with(first|(refine aG aj (.tmp 0) rfl rfl r rfl fun wA aR bG bB aO=> ?_)|(refine aG aj (.tmp 1) rfl rfl xr rfl fun wB eH ji hkB eG=> ?_)|(refine aG bF (.tmp 2) rfl rfl q rfl fun wC dD jK fE oW=> ?_)|(refine aL aj rfl rfl fun wD gW oH kg=> ?_))
 have hzz:wA.heap.size=w.heap.size+1/\wB.heap.size=w.heap.size+2/\wC.heap.size=w.heap.size+3:=⟨bG,by omega,by omega⟩;have HX:=ah (aR.trans (eH.trans (dD.trans gW)));have dO:=ah (fun W (he:Ext wD W)=>aO.ext (eH.trans (dD.trans (gW.trans he))) (ay bB));have qV:=ah (show∀W,Ext wD W->At W (w.heap.size+1) 0 (aj.E xr)from fun W he=>by rw[<-hzz.1];exact eG.ext (dD.trans (gW.trans he)) (ay hkB));have mo:=ah (show∀W,Ext wD W->At W (w.heap.size+2) 0 (bF.E q)from fun W he=>by rw[<-hzz.2.1];exact oW.ext (gW.trans he) (ay fE));have jI:=ah (show wD.heap[w.heap.size+3]? =some (.cells aj.z.cells aj.e (0,0))from by rw[<-hzz.2.2];exact kg);have CZ:w.heap.size+3<wD.heap.size:=ay jI.out;have iT:=ah (show∀W,Ext wD W->At W (w.heap.size+1) 0 (aM.E xr.id)from fun W he j y hy=>qV.out W he j y (uh hy));have HkX:=ah (show∀W,Ext wD W->W.heap[w.heap.size+1]? =some (.cells xr.cells.toArray aj.e (0,0))from fun W he=>(he.block (by omega)).trans (by rw[<-hzz.1];exact((dD.trans gW).block (ay hkB)).trans hkB));have C8:=ah (fun W (he:Ext wD W)=>rP (mo.out W he));clear aR bG bB aO eH ji hkB eG dD jK fE oW gW oH kg hzz mo;have HD3:=ah ((HD.out.ext HX.out).add (b:=w.heap.size+3) (r:=dU) jI.out);have Bc:=ah (Ck.out wD HX.out);clear Ck;have vH:=ah (dO.out wD (Ext.refl _));have agY:=ah (iT.out wD (Ext.refl _));go_wp2_with (first|((with_reducible refine au aj (.tmp 3) ?_ ?_ ?_ w.heap.size 0 ?_ r ?_ ?_);rfl;rfl;rfl;rfl;exact vH.out)|(refine fV rfl 30 0 (.tmp 4) rfl _ underlying30 _ rfl 3 sizeOf26 (by decide) (w.heap.size+1) 0 rfl ?_)|((with_reducible refine au aM (.tmp 15) ?_ ?_ ?_ (w.heap.size+1) 0 ?_ xr.id ?_ ?_);rfl;rfl;rfl;rfl;exact agY.out))
 refine Bc.out.mono ?_;rintro e w2 ⟨hx2,hres⟩
 obtain⟨pid,pj,pb,rfl⟩:∃(pid:bf) (pj:Int) (pb:Bool),e=.returned (.tuple #[.agg pid.cells.toArray,.int .i64 pj,.bool pb]):=by
  rcases hres with⟨-,h⟩|⟨p,j,h,-⟩
  ·exact⟨_,_,_,h⟩
  ·exact⟨_,_,_,h⟩
 have eD:=ah hx2;have hz2:w.heap.size+3<w2.heap.size:=bQ CZ hx2.size;clear hx2 hres Bc vH agY;go_upto_region 2 with(first|(refine aL aM rfl rfl fun wE jT o9 jO=> ?_)|((refine aD aM (.tmp 8) (.tmp 18) ?_ ?_ w2 w2.heap.size ?_ pid ?_ _ _ jO ?_ jT (aI _) ?_);rfl;rfl;rfl;rfl;rfl;intro wF iZ wX zM pq Am))
 have eU:=ah (eD.out.trans iZ);have mK:=ah (dO.out wF eU.out);have Dr:=ah pq;have Hf:=ah (E9.out pid wF (HX.out.trans eU.out));have hz3:w.heap.size+3<wF.heap.size:=by have:=iZ.size;omega
 clear jT o9 jO iZ wX zM pq Am E9 eD;go_wp2_with (first|((with_reducible refine au aj (.tmp 3) ?_ ?_ ?_ w.heap.size 0 ?_ r ?_ ?_);rfl;rfl;rfl;rfl;exact mK.out)|((with_reducible refine au aM (.tmp 8) ?_ ?_ ?_ w2.heap.size 0 ?_ pid ?_ ?_);rfl;rfl;rfl;rfl;exact Dr.out))
 refine Hf.out.mono ?_;rintro e w4 ⟨hx4,hres⟩
 obtain⟨pu,pr,pb2,rfl,J6,hpo⟩:∃(pu:av) (pr:aB) (pb2:Bool),e=.returned (.tuple #[.agg pr.cells.toArray,.bool pb2])/\(∀W,aZ (mask (fresh wF.heap.size) w4) W->Reads W pu pr)/\dI pu:=by
  cases Ur:findF pid u with
  |none=>
   rw[Ur]at hres;exact⟨nQ,dU,false,hres,fun W _=>yB W,Oi⟩
  |some pu=>
   rw[Ur]at hres;obtain⟨r',h1,h2⟩:=hres;exact⟨pu,r',true,h1,fun W hc=>Reads.cin hc _ _ h2,fI.out.pre (rC pid u pu Ur).2⟩
 have mM:=ah (eU.out.trans hx4);have Hpu:=ah J6;have LD:=ah hpo;have yI:wF.heap.size<=w4.heap.size:=hx4.size;have aez:=HkX.out w4 mM.out;have hlF:w2.heap.size<wF.heap.size:=by have:=Dr.out.lt (by simp[aM,bf.cells]);exact this
 clear hx4 hres J6 hpo Hf mK Dr;go_upto_region 3 with(first|(refine aL aj rfl rfl fun wG dL fF dM=> ?_)|((refine aD aj (.tmp 11) (.tmp 25) ?_ ?_ w4 w4.heap.size ?_ pr ?_ _ _ dM ?_ dL (aI _) ?_);rfl;rfl;rfl;rfl;rfl;intro wH mO yj om su Cm))
 obtain⟨-,-,-,-,-,c18⟩:=C8.out wH (mM.out.trans mO);go_upto_region 4 with(first|(refine aP rfl 9 (.tmp 30) (.tmp 29) rfl (w.heap.size+1) 4 (.string q.it.label) rfl rfl [.string q.it.label] rfl sizeOf9 (by simp[Value.oneCell']) 30 _ ((mO.block (ay aez)).trans aez) (by simp[aB.cells]) ?_;intro w6 yh uI uJ uK hs6 Cb))
 obtain⟨Qc,YO⟩:∃Qc:aB,{xr with label:=q.it.label}=Qc:=⟨_,rfl⟩;have qH:w6.heap[w.heap.size+1]? =some (.cells Qc.cells.toArray 30 (0,0)):=by rw[Cb,<-YO];simp[aB.cells]
 have hxi:Qc.id=xr.id:=by rw[<-YO];rfl
 have Us:Ext w4 wH:=mO;have HXw:=ah (show Ext w w6 from(HX.out.trans (mM.out.trans Us)).put (b:=w.heap.size+1) (by omega) yh uI uJ uK hs6);have hother:∀k,k≠w.heap.size+1->k<w4.heap.size->w6.heap[k]? =w4.heap[k]? :=fun k h1 h2=>(yh k h1).trans (Us.block h2)
 have ag0:At w6 w.heap.size 0 (aj.E r):=fun j y hy=>by
  rw[World.cell?_of_block (hother w.heap.size (by omega) (by omega))];exact dO.out w4 mM.out j y hy
 have alx:w6.heap[w.heap.size+3]? =some (.cells aj.z.cells aj.e (0,0)):=(hother _ (by omega) (by omega)).trans ((mM.out.block (ay jI.out)).trans jI.out)
 have ag1:At w6 (w.heap.size+1) 0 (aj.E Qc):=fun j y hy=>by
  simp only[World.cell?,qH,bV];simpa[aj]using hy
 have hc18:w6.cell? ⟨w.heap.size+2,18,none⟩=some (.string q.it.label):=by
  rw[World.cell?_of_block (a:=⟨w.heap.size+2,18,none⟩) (yh (w.heap.size+2) (by omega))];exact c18
 have ag2:At w6 w4.heap.size 0 (aj.E pr):=fun j y hy=>by
  rw[World.cell?_of_block (yh w4.heap.size (by omega))];exact su j y hy
 have aly:Reads w6 pu pr:=Hpu.out w6 ((aZ.keep (p:=fresh wF.heap.size) (q:=fun _=>false) (by have:=Us.size;omega) (fun k hk hp=>⟨hother k (by simp[fresh]at hp;omega) hk,rfl⟩)).trans (aZ.iV _ _));have alz:Reads w6 (x.kH q.it.label) Qc:=by rw[<-YO];exact rA.out w6 HXw.out
 have mV:=ah (Ie pu (x.kH q.it.label) pr Qc w6 (HT.out.ext HXw.out) aly alz LD.out);have anu:=ah ag0;have alA:=ah alx;have ag3:=ah ag1;have ar9:=ah hc18;have anv:=ah ag2;have WO:=ah hxi;have DJ:w.heap.size+3<w6.heap.size:=by have:=Us.size;omega
 have HlX:=ah (ay qH);have HlG:=ah (show w4.heap.size<w6.heap.size from by rw[hs6];exact ay om);clear yh uI uJ uK hs6 Cb qH YO hxi Us hother ag0 alx ag1 hc18 ag2 aly alz dL fF dM mO yj om su Cm c18 aez yI hz3 hlF;go_wp2_with (first|((with_reducible refine au aj (.tmp 11) ?_ ?_ ?_ w4.heap.size 0 ?_ pr ?_ ?_);rfl;rfl;rfl;rfl;exact anv.out)|((with_reducible refine au aj (.tmp 4) ?_ ?_ ?_ (w.heap.size+1) 0 ?_ Qc ?_ ?_);rfl;rfl;rfl;rfl;exact ag3.out))
 refine mV.out.mono ?_;rintro e w7 ⟨E,rfl,-,hx7⟩;have Ah:=ah (HXw.out.trans hx7);have M9:=ah (anu.out.ext hx7 (by omega));have YP:=ah ((hx7.block (ay alA.out)).trans alA.out)
 have anw:=ah (show At w7 (w.heap.size+1) 0 (aM.E xr.id)from fun j y hy=>by
  have h:=ag3.out.ext hx7 HlX.out;rw[<-WO.out]at hy;exact h j y (uh hy))
 have HD7:=ah ((HD.out.ext Ah.out).add (b:=w.heap.size+3) (r:=dU) YP.out);by_cases hE:E=10
 ·have d0:(E==10)=true:=by simp[hE]
  have asa:=YP.out;have asb:=Ah.out;clear hE hx7 mV;go_wp2_with (first|((with_reducible refine au aj (.tmp 3) ?_ ?_ ?_ w.heap.size 0 ?_ r ?_ ?_);rfl;rfl;rfl;rfl;exact M9.out)|((refine aD aj (.tmp 6) (.tmp 35) ?_ ?_ w (w.heap.size+3) ?_ r ?_ _ _ asa ?_ asb (by omega) ?_);rfl;rfl;rfl;rfl;rfl;intro wG dL fF dM lZ jS))
  refine bodyPost_ret (dA rfl _ _ (w.heap.size+3) r rfl dM) rfl ?_;exact⟨u,r,10,rfl,dL,Reads.cin (aZ.light fF jS) _ _ (jN.out w7 Ah.out (by omega)),(fun h=>by cases h),fun _=>rfl⟩
 ·have d0:(E==10)=false:=by simpa using hE
  have alB:LIn (w.heap.size+2) q.it.label w7:=⟨by have:=hx7.size;omega,(hx7.cell (p:=⟨w.heap.size+2,18,none⟩) (by show w.heap.size+2<w6.heap.size;omega)).trans ar9.out⟩;have ow:=ah (vP (oL d (w.heap.size+3)) u r xr.id w7 (fun _ _=>rfl) (XL (w.heap.size+2) q.it.label w7 _ alB) HD7.out.lt (jN.out w7 Ah.out (by omega)) fI.out (fun _ _ _=>trivial));clear hE hx7 mV alB;go_wp2_with (first|((with_reducible refine au aj (.tmp 3) ?_ ?_ ?_ w.heap.size 0 ?_ r ?_ ?_);rfl;rfl;rfl;rfl;exact M9.out)|(refine fV rfl 30 0 (.tmp 4) rfl _ underlying30 _ rfl 3 sizeOf26 (by decide) (w.heap.size+1) 0 rfl ?_)|((with_reducible refine au aM (.tmp 37) ?_ ?_ ?_ (w.heap.size+1) 0 ?_ xr.id ?_ ?_);rfl;rfl;rfl;rfl;exact anw.out))
  refine ow.out.mono ?_;rintro e w8 ⟨r',rfl,jL,hr8⟩;have asc:=(jL.block (ay YP.out)).trans YP.out;have ko:=Ah.out.trans jL;have Hr8:=ah hr8;clear ow hr8;go_wp2_with ((refine aD aj (.tmp 6) (.tmp 40) ?_ ?_ w (w.heap.size+3) ?_ r' ?_ _ _ asc ?_ ko (by omega) ?_);rfl;rfl;rfl;rfl;rfl;intro wG dL fF dM lZ jS)
  refine bodyPost_ret (dA rfl _ _ (w.heap.size+3) r' rfl dM) rfl ?_;refine⟨_,r',0,rfl,dL,Reads.cin (aZ.light fF jS) _ _ Hr8.out,fun _=> ?_,fun h=>absurd rfl h⟩;rw[<-ar8.out]
end Go.Proofs.YtgboomjahhnldaaGreatDoor
