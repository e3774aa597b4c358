/- A part of the proof of TopWritten, printed small: TAll TOn TOnB TConB TExP. -/
import Derived.Test.YtgboomjahhnldaaGreatDoorZ38
import Derived.Test.YtgboomjahhnldaaGreatDoorZ21
set_option maxRecDepth 100000
set_option maxHeartbeats 25600000
set_option linter.all false
namespace Go.Proofs.YtgboomjahhnldaaGreatDoor
open Go.Proofs.Tryz Go.RowKit
structure ahx (V:dn->Prop) (w:World) (dd:dn) (u u':av):Prop where
 ins:V dd->dd.it.x.kind=0->Oj u dd w->u'=u.dJ [(gK dd.act dd.item dd.it.x.unit 1 0).1]
 rep:V dd->dd.it.x.kind=1->∀x,iO u dd.it.x.at_=[x]->x.id≠u.id->∃p j,pF x.id u p j/\u'=fZ p.id (fun y=>y.dJ (y.kids.eraseIdx j)) u
def tN(V:dn->Prop)(w:World):List dn->av->av->Prop
 |[],u,u'=>u'=u
 |dd::l,u,u'=>∃x,ahx V w dd u x/\tN V w l x u'
theorem tN.snoc{V:dn->Prop}{w:World}{dd:dn}{x u':av}(h2:ahx V w dd x u'):∀{l:List dn} {u:av},tN V w l u x->tN V w (l++[dd]) u u'
 |[],u,h=>by
  unfold tN at h;subst h;exact⟨u',h2,rfl⟩
 |d::l,u,⟨y,h3,h4⟩=>⟨y,h3,tN.snoc h2 h4⟩
def Af(d:Nat->Bool)(n:Nat):Nat->Bool:=fun j=>d j||decide (j=n∨j=n+1)
theorem Fe{d:Nat->Bool}{n j:Nat}(h:Af d n j=false):d j=false/\j≠n/\j≠n+1:=by
 unfold Af at h;rw[Bool.or_eq_false_iff]at h;exact⟨h.1,fun e=>of_decide_eq_false h.2 (.inl e),fun e=>of_decide_eq_false h.2 (.inr e)⟩
structure AI (d:Nat->Bool) (V:dn->Prop) (w:World) (l:List dn) (u0:av) (k:Nat) (vt:Value) (fs:List bf) (u:av) (r:aB) (wx:World):Prop where
 ext:Ext w wx
 box:wx.heap[w.heap.size]? =some (.cells r.cells.toArray aj.e (0,0))
 ret:wx.heap[w.heap.size+1]? =some (.cells aj.z.cells aj.e (0,0))
 rd:Reads (mask (Af d w.heap.size) wx) u r
 bk:gD l (1+30*k) u
 run:tN V w (l.take k) u0 u
 own:Own yF (w.heap.size+2) wx vt fs
 ints:∀g,vt.ownBlock=some g->pX g wx
section
variable {d:Nat->Bool} {V:dn->Prop} {w wx wy:World} {l:List dn} {u0 u:av} {k:Nat} {vt:Value} {fs:List bf} {r:aB}
theorem AI.step(h:AI d V w l u0 k vt fs u r wx)(he:Ext wx wy):AI d V w l u0 k vt fs u r wy:=
 ⟨h.ext.trans he,(he.block (ay h.box)).trans h.box,(he.block (ay h.ret)).trans h.ret,Reads.cin (aZ.ext he) _ _ h.rd,h.bk,h.run,h.own.ext he,fun g hg=>(h.ints g hg).keep (he.block (h.own.lt g hg).2)⟩
theorem AI.dark(h:AI d V w l u0 k vt fs u r wx)(hD:lG d w):lG (Af d w.heap.size) wx:=⟨fun j hj=>by
 unfold Af at hj;rw[Bool.or_eq_true]at hj;rcases hj with hj|hj
 ·exact(hD.ext h.ext).unit j hj
 ·rcases of_decide_eq_true hj with rfl|rfl
  ·exact⟨r,_,h.box⟩
  ·exact⟨dU,_,h.ret⟩⟩
theorem AI.app(h:AI d V w l u0 k vt fs u r wx)(he:Ext wx wy){u':av}{r':aB}(hr:Reads (mask (Af d w.heap.size) wy) u' r'){dd:dn}(hk:k<l.length)(hdd:l[k]=dd)(hP:ach (V dd) l (1+30*k) u dd wx u')(hT:kN w):
 gD l (1+30*(k+1)) u'/\tN V w (l.take (k+1)) u0 u':=by
 refine⟨hP.book.mono (by omega),?_⟩;rw[jk hk,hdd];exact h.run.snoc ⟨fun hv hk hX=>hP.ins hv hk ⟨hX.one,hX.wh,ou.ext hX.tabs hT h.ext,hX.kind,hX.kids,hX.sec,hX.bare,hX.id⟩,fun hv hk x h1 h2=>hP.rep hv hk x h1 h2⟩
end
theorem AI.set{d:Nat->Bool}{V:dn->Prop}{w wx wy:World}{l:List dn}{u0 u u':av}{k:Nat}{vt:Value}{fs:List bf}{r r':aB}(h:AI d V w l u0 k vt fs u r wx)(hx:Ext w wy)(hz:wy.heap.size=wx.heap.size)(hk:wy.heap[w.heap.size]? =some (.cells r'.cells.toArray aj.e (0,0)))(ho:∀j,j≠w.heap.size->wy.heap[j]? =wx.heap[j]?)
 (hr:Reads (mask (Af d w.heap.size) wx) u' r') (hb:gD l (1+30*(k+1)) u') (hR:tN V w (l.take (k+1)) u0 u'):AI d V w l u0 (k+1) vt fs u' r' wy:=
 ⟨hx,hk,(ho _ (by omega)).trans h.ret,Reads.cin (aZ.keep (by omega) (fun j hj hp=>⟨ho j (Fe hp).2.1,hp⟩)) _ _ hr,hb,hR,h.own.keep (fun g hg=>ho g (by have:=(h.own.lt g hg).1;omega)),fun g hg=>(h.ints g hg).keep (ho g (by have:=(h.own.lt g hg).1;omega))⟩
theorem AI.row{d:Nat->Bool}{V:dn->Prop}{w wx wy:World}{l:List dn}{u0 u:av}{k:Nat}{vt vt':Value}{fs fs':List bf}{r:aB}(h:AI d V w l u0 k vt fs u r wx)(hg:wx.grownBy wy vt.ownBlock)(hO:Own yF (w.heap.size+2) wy vt' fs')(hI:∀g,vt'.ownBlock=some g->pX g wy):AI d V w l u0 k vt' fs' u r wy:=by
 have hne:∀j,j<w.heap.size+2->some j≠vt.ownBlock:=fun j hj e=>by have:=(h.own.lt j e.symm).1;omega
 exact⟨⟨hg.os.trans h.ext.os,hg.tape.trans h.ext.tape,hg.output.trans h.ext.output,bX h.ext.size hg.size,fun j hj=>(hg.block j (bQ hj h.ext.size) (hne j (by omega))).trans (h.ext.block hj)⟩,
  (hg.block _ (ay h.box) (hne _ (by omega))).trans h.box,(hg.block _ (ay h.ret) (hne _ (by omega))).trans h.ret,Reads.grown hg h.ints h.rd,h.bk,h.run,hO,hI⟩
theorem At.block{w:World}{b:Nat}{cs:List Value}{t:TypeId}{fr:Nat×Nat}(h:w.heap[b]? =some (.cells cs.toArray t fr)):At w b 0 cs:=fun j y hy=>by
 simp only[World.cell?,h,bV];simpa using hy
def acR(d:Nat->Bool)(V:dn->Prop)(w0 w:World)(l:List dn)(u:av)(e:Ending)(w':World):Prop:=∃(u':av) (r':aB) (v:Value),e=.returned (.tuple #[.agg r'.cells.toArray,v])/\Ext w w'/\Reads (mask d w') u' r'/\gD l 1000 u'/\tN V w0 l u u'
theorem Qx(x y z:Int)(w:World):(Instr.build 100 #[(0,.int .i64 x),(1,.int .i64 y),(2,.int .i64 z)]).run prog w=.ok (.agg (bf.cells ⟨x,y,z⟩).toArray) w:=by
 have u:=underlying100;simp only[bf.cells]
 go_simp
theorem UY(d:Nat->Bool)(V:dn->Prop)(u:av)(r:aB)(l:List dn)(xs:List dY)(A:Option Addr)(c:Nat)(w:World)(hD:lG d w)(hr:Reads (mask d w) u r)(hI:gD l 1 u)(hl:l.length<=32)(hs:Sl bF w A xs)(hall:fq (fH w) l xs)(hi:∀dd∈l,lu dd.it)(qP:∀dd∈l,kT dd.it.x.kind=true)(hT:kN w)
 (hV:∀dd∈l,∀q:dY,fH w dd q->∀wq,Ext w wq->Calls prog 53 #[.agg q.it.cells.toArray] wq (mq (V dd) wq)):
 Calls prog 28 #[.agg r.cells.toArray,.slice A xs.length c] w (acR d V w w l u):=by
 have hlx:=hall.length;have HD:=ah hD;have Hr:=ah hr;have HI:=ah hI;have Hs:=ah hs;have jo:=ah hall;have Hi:=ah hi;have BU:=ah qP;have HT:=ah hT;have HV:=ah hV;have Hlx:=ah hlx;have Hl:=ah hl;clear hD hr hI hs hall hi qP hT hV;go_enter func28,ntmps28
 go_upto_region 1 with(first|(refine aG aj (.tmp 0) rfl rfl r rfl fun wA aR bG bB aO=> ?_)|(refine aL aj rfl rfl fun wC dD jK fE=> ?_))
 have hn0:wA.heap.size=w.heap.size+1:=bG;have jv:=ah (aR.trans dD)
 have nO:=ah (show AI d V w l u 0 (.slice none 0 0) [] u r wC from
  ⟨aR.trans dD,(dD.block (ay bB)).trans bB,by rw[<-hn0];exact fE,Reads.cin (aZ.qM (aR.trans dD) (fun k hk hp=>by unfold Af;rw[hp,Bool.false_or];exact aY (by omega))) _ _ Hr.out,HI.out,rfl,Own.nil _,(fun g hg=>by cases hg)⟩)
 have hc0:w.heap.size+1<wC.heap.size:=by rw[<-hn0];exact ay fE
 clear aR bG bB aO dD jK fE hn0;go_upto_region 3 with fail
 go_loopw [6,13] (fun vt vk wr=>∃(k:Nat) (fs:List bf) (uk:av) (rk:aB),k<=xs.length/\vk=.int .i64 (k:Nat)/\fs.length<=k/\Hid (AI d V w l u k vt fs uk rk wr)/\Ext wC wC) (fun _ vk _=>xs.length-(intOf vk).toNat)
 case atStart=>exact⟨0,[],u,r,bI _,rfl,aI _,nO,Ext.refl _⟩
 case round=>
  obtain⟨k,fs,uk,rk,hk,rfl,hfl,HA,-⟩:=hrel;by_cases hlt:k<xs.length
  ·have f1:=eY k xs.length
   have afc:k<l.length:=by have:=Hlx.out;omega
   obtain⟨b,off,hAb,hb,hcs⟩:=(Hs.out.ext HA.out.ext).at_ hlt;have qZ:=ah (jo.out.get k afc hlt);obtain⟨q,hq⟩:=aH (xs[k]);obtain⟨dd,hdd⟩:=aH (l[k]);rw[hq,hdd]at qZ;rw[hq]at hcs;have FU:=ah hdd;have yY:=ah (show dd∈l from by rw[<-hdd];exact dW afc);have jD:=ah (show At wr b (off+k*28) q.cells from hcs);have HAb:=ah hAb;have asG:=ah (show kT q.it.kind=true from by rw[qZ.out.it.one.kind];exact BU.out dd yY.out);obtain⟨AO,cO,rfl,-,-⟩:=HA.out.own.form;clear hcs hq hdd hAb;rw[HAb.out];have hlr:w.heap.size+1<wr.heap.size:=ay HA.out.ret;go_upto_region 5 with(first|((with_reducible refine au bF (.tmp 15) ?_ ?_ ?_ b (off+k*28) ?_ q ?_ ?_);rfl;rfl;rfl;rfl;exact jD.out)|(refine aL bF rfl rfl fun wG dL fF dM=> ?_)|((with_reducible refine aD bF (.tmp 8) (.tmp 16) ?_ ?_ wr wr.heap.size ?_ q ?_ _ _ dM ?_ dL (aI _) ?_);rfl;rfl;rfl;rfl;rfl;intro w3 hx3 hz3 hk3 dX ho3;skip))
   have hl3:=ay hk3;have jq:=ah dX;have eU:=ah hx3;have p3:=dX.one 3 (u:=.int .i64 q.it.kind) rfl;simp only[bV]at p3;have Fx:=ah (HA.out.step hx3);have afd:=ah (uV q.it.kind w3);rw[asG.out]at afd;have mK:=ah (show At w3 w.heap.size 0 (aj.E rk)from At.block Fx.out.box);have Hap:=ah (acn (V dd) (Af d w.heap.size) l (1+30*k) uk rk dd q w3 (Fx.out.dark HD.out) Fx.out.rd Fx.out.bk (by have:=Hl.out;omega) yY.out (qZ.out.ext Fx.out.ext) (Hi.out dd yY.out) (HT.out.ext Fx.out.ext) (fun wq he=>HV.out dd yY.out q qZ.out wq (Fx.out.ext.trans he)));clear dL fF dM hx3 hz3 hk3 dX ho3;go_wp2_with fail
   refine afd.out.mono ?_;rintro e w4 ⟨rfl,rfl⟩;go_wp2_with (first|((with_reducible refine au aj (.tmp 2) ?_ ?_ ?_ w.heap.size 0 ?_ rk ?_ ?_);rfl;rfl;rfl;rfl;exact mK.out)|((with_reducible refine au bF (.tmp 8) ?_ ?_ ?_ wr.heap.size 0 ?_ q ?_ ?_);rfl;rfl;rfl;rfl;exact jq.out))
   refine Hap.out.mono ?_;rintro e w5 ⟨u',r',E,rfl,hx5,lY,hP⟩;have Hnx:=ah (Fx.out.app hx5 lY afc FU.out hP HT.out);have FE:=ah lY;have HA5:=ah (Fx.out.step hx5);have sW:=ah (jq.out.ext hx5 hl3);have hl5:wr.heap.size<w5.heap.size:=bQ hl3 hx5.size;clear hx5 lY hP Hap afd p3 mK;go_upto_region 7 with(first|(refine aL aj rfl rfl fun wE jT o9 jO=> ?_)|((with_reducible refine aD aj (.tmp 9) (.tmp 26) ?_ ?_ w5 w5.heap.size ?_ r' ?_ _ _ jO ?_ jT (aI _) ?_);rfl;rfl;rfl;rfl;rfl;intro wF iZ wX zM pq Am;skip))
   have HA6:=ah (HA5.out.step iZ);have Jy:=ah (Reads.cin (aZ.ext (p:=Af d w.heap.size) iZ) _ _ FE.out);have KE:=ah (sW.out.ext iZ hl5);have Zg:=ah pq;have hlF:=ay zM;have hl6:wr.heap.size<wF.heap.size:=bQ hl5 iZ.size;clear jT o9 jO iZ wX zM pq Am HA5 FE Fx sW;by_cases hE:E=0
   ·have d0:(E !=0)=false:=by simp[hE]
    have EP:=HA6.out.box;have hext:=HA6.out.ext;clear hE;go_wp2_with (first|((with_reducible refine au aj (.tmp 9) ?_ ?_ ?_ w5.heap.size 0 ?_ r' ?_ ?_);rfl;rfl;rfl;rfl;exact Zg.out)|((refine aD aj (.tmp 2) (.tmp 39) ?_ ?_ w w.heap.size ?_ r' ?_ _ _ EP ?_ hext (aI _) ?_);rfl;rfl;rfl;rfl;rfl;intro wH mO yj om su Cm))
    have HA7:=ah (AI.set HA6.out mO yj om Cm Jy.out Hnx.out.1 Hnx.out.2);clear mO yj om su Cm EP hext;go_roundw
    case rel=>exact⟨k+1,fs,u',r',by omega,by go_num,by omega,HA7,Ext.refl _⟩
    case measure=>simp[intOf];omega
   ·have d0:(E !=0)=true:=by simp[hE]
    have p0:=KE.out.zero (u:=.int .i64 q.act) rfl;have p1:=KE.out.one 1 (u:=.int .i64 q.item) rfl;simp only[bV]at p1;clear hE;go_upto_region 9 with(first|(refine wpList_build 100 [(0,.tmp 32),(1,.tmp 34),(2,.tmp 35)] rfl rfl [(0,.int .i64 q.act),(1,.int .i64 q.item),(2,.int .i64 E)] ⟨⟨rfl,rfl⟩,⟨rfl,rfl⟩,⟨rfl,rfl⟩,trivial⟩ (.agg (bf.cells ⟨q.act,q.item,E⟩).toArray) (Qx _ _ _ _) ?_)|((with_reducible refine gP yF (.tmp 36) ?_ ?_ (⟨q.act,q.item,E⟩:bf) (.agg (yF.E (⟨q.act,q.item,E⟩:bf)).toArray) ?_ ?_ ?_ ?_);rfl;rfl;rfl;rfl;decide;intro wL uw TB amE;have WW:=ah (HA6.out.step uw);have ahA:=ah (Zg.out.ext uw hlF);have Hrl:=ah (Reads.cin (aZ.ext (p:=Af d w.heap.size) uw) _ _ Jy.out);have asH:=ah amE;have amF:=bQ hlF uw.size;have HoF:=ah (fun g (hg:Value.ownBlock (.slice AO fs.length cO)=some g)=>HA.out.own.lt g hg);clear uw TB amE)|(at_builtin;refine VT yF rfl (.tmp 30) (.tmp 37) rfl 1 rfl WW.out.own rfl asH.out (by simp) (by simp;omega) (by have:=WW.out.ext.size;have:=amF;omega) acP acQ WW.out.ints ?_;intro vG wG BX qI hloc hIG;have HAg:=ah (AI.row WW.out qI BX hIG);have Hrg:=ah (Reads.grown qI WW.out.ints Hrl.out);have anN:=ah (show At wG w5.heap.size 0 (aj.E r')from fun j y hy=>by rw[World.cell?_of_block (qI.block w5.heap.size amF (fun h=>by have:=(HoF.out _ h.symm).2;omega))];exact ahA.out j y hy);obtain⟨AG,cG,SS,-,-⟩:=BX.form;subst SS;clear BX qI hloc hIG WW ahA Hrl))
    have EP:=HAg.out.box;have hext:=HAg.out.ext;go_wp2_with (first|((with_reducible refine au aj (.tmp 9) ?_ ?_ ?_ w5.heap.size 0 ?_ r' ?_ ?_);rfl;rfl;rfl;rfl;exact anN.out)|((refine aD aj (.tmp 2) (.tmp 39) ?_ ?_ w w.heap.size ?_ r' ?_ _ _ EP ?_ hext (aI _) ?_);rfl;rfl;rfl;rfl;rfl;intro wH mO yj om su Cm))
    have HA7:=ah (AI.set HAg.out mO yj om Cm Hrg.out Hnx.out.1 Hnx.out.2);clear mO yj om su Cm EP hext;go_roundw
    case rel=>exact⟨k+1,fs++[⟨q.act,q.item,E⟩],u',r',by omega,by go_num,(by rw[eu,List.length_singleton];omega),ah (by have h:=HA7.out;rw[show(fs++[(⟨q.act,q.item,E⟩:bf)]).length=fs.length+1 from by rw[eu,List.length_singleton]]at h;exact h),Ext.refl _⟩
    case measure=>simp[intOf];omega
  ·have f1:=fT k xs.length
   have hke:k=l.length:=by have:=Hlx.out;omega
   have dO:=ah (show At wr w.heap.size 0 (aj.E rk)from At.block HA.out.box);have oJ:=HA.out.ret;have oK:=HA.out.ext;have hlr:w.heap.size+1<wr.heap.size:=ay HA.out.ret;obtain⟨AO,cO,rfl,-,-⟩:=HA.out.own.form;go_wp2_with (first|((with_reducible refine au aj (.tmp 2) ?_ ?_ ?_ w.heap.size 0 ?_ rk ?_ ?_);rfl;rfl;rfl;rfl;exact dO.out)|((refine aD aj (.tmp 4) (.tmp 41) ?_ ?_ w (w.heap.size+1) ?_ rk ?_ _ _ oJ ?_ oK (Nat.le_succ _) ?_);rfl;rfl;rfl;rfl;rfl;intro wG dL fF dM lZ jS))
   refine bodyPost_ret (dA rfl _ _ (w.heap.size+1) rk rfl dM) rfl ?_;refine⟨uk,rk,_,rfl,dL,Reads.cin (aZ.keep (p:=Af d w.heap.size) (by omega) (fun j hj hp=>⟨jS j (Fe hp).2.2,(Fe hp).1⟩)) _ _ HA.out.rd,?_,?_⟩
   ·exact HA.out.bk.mono (by have:=Hl.out;omega)
   ·have h:=HA.out.run
    rwa[gY (by omega)]at h
def acT(R:List bK->Prop):Ty:=⟨fun v w=>∃(A:Option Addr) (c:Nat) (M:List bK),v=.slice A M.length c/\M.length<=c/\Sl cK w A M/\Norm M/\R M,fun _ _ _ he ⟨A,c,M,h1,h2,h3,h4,h5⟩=>⟨A,c,M,h1,h2,h3.ext he,h4,h5⟩⟩
def F7(s:lC):Value:=.agg s.cells.toArray
theorem acU(w:World):(zeroValue 39).run prog w=.ok (F7 ⟨0,0,⟨#[]⟩⟩) w:=by
 kernel_rfl
def stL(acts:List bn):List (Int×lC):=acts.foldl (fun l a=>upd l a.number ⟨a.sk,a.sd,a.se⟩) []
def stA(acts:List bn)(n:Int):lC:=(assoc (stL acts) n).getD ⟨0,0,⟨#[]⟩⟩
theorem acV{ρ:Operand->Value}{o:Oper}{w:World}(m x:Operand)(ho:o.op=.lookup 93 m x false)(B:Nat)(l:List (Int×lC))(hM:iG (fun x:Int=>Value.int .i64 x) F7 B w l)(hm:ρ m=.map (some B))(k:Int)(hx:ρ x=.int .i64 k)(s:lC)(hs:(assoc l k).getD ⟨0,0,⟨#[]⟩⟩=s):bL prog ρ o w (Ty.is (.agg s.cells.toArray)).p:=by
 have hb:=hM.look jg underlying93 (F7 ⟨0,0,⟨#[]⟩⟩) (acU w) k false
 have e:((assoc l k).map F7).getD (F7 ⟨0,0,⟨#[]⟩⟩)=.agg s.cells.toArray:=by
  rw[<-hs];cases assoc l k<;>rfl
 rw[e]at hb;simp only[Bool.false_eq_true,if_false]at hb;refine eT (w':=w) (v:=.agg s.cells.toArray) ?_ (Ext.refl _) rfl;simp only[execOp,ho,hm,hx];simp only[Sem.run_bind,hb,Result.andThen_ok,Sem.run_pure]
def IU(d:dn):lC:=⟨d.it.x.sk,d.it.x.sd,d.it.x.se⟩
def Bo(gs:List jJ):Prop:=∀d∈gq gs,0<=d.it.x.kind/\d.it.x.kind<=6/\(xV (stA (mJ gs) d.act) (IU d)).k=1
def Nq(gs:List jJ)(day:Int)(purpose:ByteArray)(d:dn):Bool:=(decide (d.it.x.for_=⟨#[]⟩)||decide (d.it.x.for_=purpose))&&(lQ day&&decide ((xV (stA (mJ gs) d.act) (IU d)).d<=day))
structure Dt (R0:World) (gs:List jJ) (day:Int) (purpose:ByteArray) (k:Nat) (ds:List dn) (xs:List dY):Prop where
 rd:fq (fH R0) ds xs
 sub:ds.Sublist ((gq gs).take k)
 am:∀d∈ds,kT d.it.x.kind=true
 ex:Bo gs->ds=((gq gs).take k).filter (Nq gs day purpose)
theorem Dt.step{R0:World}{gs:List jJ}{day:Int}{purpose:ByteArray}{k:Nat}{ds:List dn}{xs:List dY}(h:Dt R0 gs day purpose k ds xs){d:dn}{q:dY}(htk:(gq gs).take (k+1)=(gq gs).take k++[d])(hr:fH R0 d q)(qP:kT d.it.x.kind=true){sb:Bool}(hsb:Bo gs->sb=Nq gs day purpose d):
 Dt R0 gs day purpose (k+1) (if sb then ds++[d]else ds) (if sb then xs++[q]else xs):=by
 cases sb with
 |false=>exact⟨h.rd,h.sub.trans (by rw[htk];exact List.sublist_append_left _ _),h.am,fun hp=>by
   rw[htk,List.filter_append,<-h.ex hp,List.filter_cons,<-hsb hp];simp⟩
 |true=>exact⟨h.rd.snoc hr,by
   rw[htk];exact List.Sublist.append h.sub (List.Sublist.refl _),fun e he=>by
   rcases List.mem_append.1 he with he|he
   ·exact h.am e he
   ·rw[kX]at he
    subst he;exact qP,fun hp=>by
   rw[htk,List.filter_append,<-h.ex hp,List.filter_cons,<-hsb hp];simp⟩
theorem VU(gs:List jJ)(rs:List nX)(A:Option Addr)(c B P D:Nat)(purpose:ByteArray)(day:Int)(R0 w:World)(h0:Ext R0 w)(hs:Sl lW R0 A rs)(hall:fq (jZ R0) gs rs)(hok:rF gs 24)(hB:w.heap[B]? =some (.cells #[.slice none 0 0] 33 (0,0)))
 (hP:w.cell? ⟨P,0,none⟩=some (.string purpose)) (hPb:P<w.heap.size) (hPB:P≠B) (hD:w.cell? ⟨D,0,none⟩=some (.int .i64 day)) (hDb:D<w.heap.size) (hDB:D≠B):
 Calls prog 24 #[.slice A rs.length c,Value.func (.func 25) #[] #[.pointer (some ⟨P,0,none⟩),.pointer (some ⟨D,0,none⟩),.pointer (some ⟨B,0,none⟩)]] w fun e w'=>e=.returned (.tuple #[])/\Kp B w w'/\∃v xs ds,w'.heap[B]? =some (.cells #[v] 33 (0,0))/\Own bF w.heap.size w' v xs/\Dt R0 gs day purpose (gq gs).length ds xs:=by
 have uo:=ah (fun wq (he:Ext w wq)=>SG gs rs A c R0 wq (h0.trans he) hs hall hok);have Hen:=ah (fun wq (he:Ext w wq)=>EL gs rs A c R0 wq (h0.trans he) hs hall hok);have Hel:=ah (Ib hok);have Hal:=ah (BZ hok).len;have hBl:=ay hB;have H0:=ah h0;have HB:=ah hB;clear hs hall hok h0 hB;have hmm:= @run_makeMap prog;have hx1:Ext w (w.alloc (.map #[] 0)):=(Ext.refl w).alloc _;have hM1:iG (fun x:Int=>Value.int .i64 x) F7 w.heap.size (w.alloc (.map #[] 0)) []:=iG.made w;obtain⟨w1,hw1⟩:=aH (w.alloc (.map #[] 0));rw[hw1]at hx1 hM1;have DX:=ah hw1;obtain⟨fv,Wx⟩:=aH (Value.func (.func 25) #[] #[.pointer (some ⟨P,0,none⟩),.pointer (some ⟨D,0,none⟩),.pointer (some ⟨B,0,none⟩)]);have Hfv:=ah Wx;rw[Wx];clear hw1 Wx;go_enter func24,ntmps24
 go_wp2_with fail
 rw[DX.out];refine(uo.out w1 hx1).mono ?_;rintro e w2 ⟨v2,ra,rfl,hx2,hO2,nL⟩;have CG:=nL.length;obtain⟨A2,c2,rfl,hc2,hs2⟩:=hO2.form;have wQ:=ah hs2;have zi:=ah nL;have eD:=ah (hx1.trans hx2);have JK:=ah (hM1.ext hx2);obtain⟨acts,EK⟩:=aH (mJ gs);rw[EK]at zi Hal CG;have anO:=ah EK;have hal:=Hal.out;have hsz1:w.heap.size<w1.heap.size:=hM1.lt;have yG:=ah hO2;have hl2:=hx2.size;have asI:=ah (show iG (fun x:Int=>Value.int .i64 x) F7 w.heap.size w2 ((acts.take 0).foldl (fun l a=>upd l a.number ⟨a.sk,a.sd,a.se⟩) [])from JK.out);clear hO2 nL hs2 uo EK hM1 hx2 JK wQ;go_wp2
 go_loopw [14] (fun vi wr=>∃k:Nat,k<=acts.length/\vi=.int .i64 (k:Nat)/\Hid (iG (fun x:Int=>Value.int .i64 x) F7 w.heap.size wr ((acts.take k).foldl (fun l a=>upd l a.number ⟨a.sk,a.sd,a.se⟩) []))/\Kp w.heap.size w2 wr) (fun vi _=>acts.length-(intOf vi).toNat)
 case atStart=>exact⟨0,bI _,rfl,asI,Kp.refl _ _⟩
 case round=>
  obtain⟨k,hk,rfl,HM,hkp⟩:=hrel;by_cases hlt:k<acts.length
  ·have mP:k<ra.length:=by omega
   have f1:=eY k ra.length;have Wn:=eY k acts.length;obtain⟨A3,c3,hv3,-,hs3⟩:=(yG.out.keep (w':=wr) (fun g hg=>hkp.block g (yG.out.lt g hg).2 (by have:=(yG.out.lt g hg).1;omega))).form;cases hv3
   obtain⟨b,off,hA,hb,hcs⟩:=hs3.at_ mP;have q9:=ah (zi.out.get k hlt mP);have mV:=ah (jk hlt);obtain⟨a,ha⟩:=aH (acts[k]);obtain⟨q,hq⟩:=aH (ra[k]);rw[ha]at q9 mV;rw[hq]at hcs q9;have jD:=ah (show At wr b (off+k*7) q.cells from hcs);have HA:=ah hA;clear hcs hq hA ha hs3;rw[HA.out];go_wp2_with (first|((with_reducible refine au eB (.tmp 16) ?_ ?_ ?_ b (off+k*7) ?_ q ?_ ?_);rfl;rfl;rfl;rfl;exact jD.out)|(refine aL eB rfl rfl fun wG dL fF dM=> ?_)|((with_reducible refine aD eB (.tmp 6) (.tmp 17) ?_ ?_ wr wr.heap.size ?_ q ?_ _ _ dM ?_ dL (aI _) ?_);rfl;rfl;rfl;rfl;rfl;intro w3 hx3 hz3 hk3 dX ho3;have p0:=dX.zero (u:=.int .i64 q.number) rfl;have p3:=dX.one 3 (u:=.int .i64 q.sk) rfl;have p4:=dX.one 4 (u:=.int .i64 q.sd) rfl;have p5:=dX.one 5 (u:=.string q.se) rfl;simp only[bV]at p3 p4 p5;clear hz3 hk3 dX ho3 fF dM dL)|(refine zq (K:=fun x:Int=>Value.int .i64 x) (V:=F7) (.tmp 18) (.tmp 20) (.tmp 22) rfl jg underlying93 rfl (HM.out.ext hx3) rfl q.number rfl ⟨q.sk,q.sd,q.se⟩ rfl ?_;intro w5 FQ hb5 hs5 nu ny nD;have Sq:=ah FQ;have hk5:Kp w.heap.size w2 w5:=(hkp.trans (Kp.dH hx3)).trans (Kp.put hb5 nu ny nD hs5);clear FQ hb5 hs5 nu ny nD))
   have HM6:=ah (show iG (fun x:Int=>Value.int .i64 x) F7 w.heap.size w5 ((acts.take (k+1)).foldl (fun l a=>upd l a.number ⟨a.sk,a.sd,a.se⟩) [])from by
    rw[mV.out,List.foldl_append,List.foldl_cons,List.foldl_nil,<-q9.out.number,<-q9.out.sk,<-q9.out.sd,<-q9.out.se];exact Sq.out)
   go_roundw
   case rel=>exact⟨k+1,by omega,by go_num,HM6,hk5⟩
   case measure=>simp[intOf];omega
  ·have f1:=fT k ra.length
   have Wn:=fT k acts.length
   have HMf:=ah (show iG (fun x:Int=>Value.int .i64 x) F7 w.heap.size wr (stL acts)from by
    have:=HM.out
    rwa[gY (by omega)]at this)
   have jf:Ext w wr:=hkp.uZ eD.out (aI _);have hMl:=HMf.out.lt;clear HM;go_wp2_with fail
   refine(Hen.out wr jf).mono ?_;rintro e w5 ⟨v5,zs,rfl,hx5,FT,Zh⟩;have hzl:=Zh.length;obtain⟨A7,c7,rfl,Js,-⟩:=FT.form;have GN:=ah FT;have ahB:=ah Zh;have Sq:=ah (HMf.out.ext hx5);have Dh:Ext w w5:=jf.trans hx5;have hz1:zs.length<=1536:=by have:=Hel.out;omega
   have zH:=(Dh.block hBl).trans HB.out;have hP5:=(Dh.cell (p:=⟨P,0,none⟩) hPb).trans hP;have hD5:=(Dh.cell (p:=⟨D,0,none⟩) hDb).trans hD;have Hz:=ah hzl;have lY:=hx5.size;have rz:=Dh.size;have hwr:=jf.size;clear FT Zh Hen hkp hzl hx5 f1 Wn;have asJ:=ah (show Dt R0 gs day purpose 0 [] []from⟨trivial,by simp,by simp,fun _=>by simp⟩);go_wp2
   go_loopw [28] (fun vi wx=>∃(k:Nat) (vo:Value) (xs:List dY) (ds:List dn),k<=zs.length/\vi=.int .i64 (k:Nat)/\Kp B w5 wx/\Hid (wx.heap[B]? =some (.cells #[vo] 33 (0,0)))/\Hid (Own bF w5.heap.size wx vo xs)/\Hid (Dt R0 gs day purpose k ds xs)/\xs.length<=k) (fun vi _=>zs.length-(intOf vi).toNat)
   case atStart=>exact⟨0,_,[],[],bI _,rfl,Kp.refl _ _,ah zH,ah (Own.nil _),asJ,aI _⟩
   case round=>
    obtain⟨k,vo,xs,ds,hk,rfl,hkp,HBz,WK,UZ,hxl⟩:=hrel;by_cases hlt:k<zs.length
    ·have f1:=eY k zs.length
     have afe:k<(gq gs).length:=by rw[<-Hz.out];exact hlt
     have HZz:=ah (GN.out.keep (w':=wr) (fun g hg=>hkp.block g (GN.out.lt g hg).2 (by have:=(GN.out.lt g hg).1;have:=hwr;omega)));obtain⟨A3,c3,hv3,-,hs3⟩:=HZz.out.form;cases hv3
     have Gm:=ah hs3;obtain⟨b,off,hA,hb,hcs⟩:=hs3.at_ hlt;have q9:=ah (ahB.out.get k afe hlt);have mV:=ah (jk afe);have yY:=ah (dW afe);obtain⟨d,hd⟩:=aH ((gq gs)[k]);obtain⟨q,hq⟩:=aH (zs[k]);rw[hd]at q9 mV yY;rw[hq]at hcs q9;have jD:=ah (show At wr b (off+k*28) q.cells from hcs);have HA:=ah hA;have Hki:=ah q9.out.it.it.kind;clear hcs hq hA hd hs3;rw[HA.out];go_upto_region 10 with(first|((with_reducible refine au bF (.tmp 30) ?_ ?_ ?_ b (off+k*28) ?_ q ?_ ?_);rfl;rfl;rfl;rfl;exact jD.out)|(refine aL bF rfl rfl fun wG dL fF dM=> ?_)|((with_reducible refine aD bF (.tmp 9) (.tmp 31) ?_ ?_ wr wr.heap.size ?_ q ?_ _ _ dM ?_ dL (aI _) ?_);rfl;rfl;rfl;rfl;rfl;intro w3 hx3 hz3 hk3 dX ho3;skip))
     have hl3:=ay hk3;have jq:=ah dX;have p3:=dX.one 3 (u:=.int .i64 q.it.kind) rfl;simp only[bV]at p3;have eU:=ah hx3;have BU:=ah (uV q.it.kind w3);obtain⟨am,qP⟩:=aH (kT q.it.kind);rw[qP]at BU;have HAm:=ah (show kT d.it.x.kind=am from by rw[<-Hki.out];exact qP);clear fF dM dL hz3 hk3 dX ho3 qP;go_wp2_with fail
     refine BU.out.mono ?_;rintro e w6 ⟨rfl,rfl⟩;have IV:=hkp.trans (Kp.dH eU.out);have HB6:=ah ((eU.out.block (ay HBz.out)).trans HBz.out);have HO6:=ah (WK.out.ext eU.out);cases am with
     |false=>
      have HS2:=ah (show Dt R0 gs day purpose (k+1) ds xs from⟨UZ.out.rd,UZ.out.sub.trans (by rw[mV.out];exact List.sublist_append_left _ _),UZ.out.am,fun hp=>by
       exfalso;have h:=hp d yY.out;have h2:=HAm.out;unfold kT at h2;rw[bJ h.1,bJ h.2.1]at h2;cases h2⟩)
      go_wp2;go_roundw
      case rel=>exact⟨k+1,vo,xs,ds,by omega,by go_num,IV,HB6,HO6,HS2,by omega⟩
      case measure=>simp[intOf];omega
     |true=>
      obtain⟨lS,hlS⟩:=aH (stL acts);obtain⟨ST,hST⟩:=aH ((assoc lS q.act).getD ⟨0,0,⟨#[]⟩⟩);have HST:=ah hST
      have asK:=ah (show xV (stA (mJ gs) d.act) (IU d)=xV ST (tY q)from by
       rw[anO.out];unfold stA;rw[hlS,<-q9.out.act,hST];unfold IU tY;rw[<-q9.out.it.it.sk,<-q9.out.it.it.sd,<-q9.out.it.it.se])
      have HM:=ah (show iG (fun x:Int=>Value.int .i64 x) F7 w.heap.size w6 lS from by
       rw[<-hlS];exact(Sq.out.keep (hkp.block _ (by omega) (by omega))).ext eU.out)
      obtain⟨RS,hRS⟩:∃RS:List bK->Prop,(fun M=>Bo gs->dz M day=(lQ day&&decide ((xV (stA (mJ gs) d.act) (IU d)).d<=day)))=RS:=⟨_,rfl⟩;have asL:=ah hRS
      have HRS:=ah (show∀(M:List bK) (p:Int->Bool),(∀x,dz M x=p x)->(0<=q.it.kind->q.it.kind<=6->(∀r∈zs,mI r.it.kind=none)->(xV ST (tY q)).k=1->∀x,p x=KA (fun _=>false) (xV ST (tY q)).d x)->RS M from fun M p hM hp=>by
       rw[<-hRS];intro hpl;have h:=hpl d yY.out;rw[asK.out]at h⊢
       rw[hM day,hp (by rw[Hki.out];exact h.1) (by rw[Hki.out];exact h.2.1) (fun r hr=>by
        obtain⟨g,hg,hgr⟩:=ahB.out.mem_right r hr;have h3:=hpl g hg;cases hto:mI r.it.kind with
        |none=>rfl
        |some f=>
         have h4:=(L8 hto).1;rw[hgr.it.it.kind]at h4;omega) h.2.2 day]
       simp[KA])
      have xK:=ah (fun wq (he:Ext w6 wq)=>show Calls prog 38 #[.agg ST.cells.toArray,.agg (bF.E q).toArray,.slice (some ⟨b,off,none⟩) zs.length c7] wq (NQ ST q zs wq)from Vs ST q zs _ c7 wq (by rw[<-HA.out];exact Gm.out.ext (eU.out.trans he)) (by omega));have jh:=ah (show∀wq,Ext w6 wq->(aK [.int .i64 q.act,.int .i64 q.item,.int .i64 q.day,.int .i64 q.it.kind,.slice q.it.aA q.it.aN q.it.aC,.slice q.it.bA q.it.bN q.it.bC,.int .i64 q.it.wh,.int .i64 q.it.nth,.int .i64 q.it.u.a,.int .i64 q.it.u.i,.int .i64 q.it.u.n,.int .i64 q.it.u.kind,.string q.it.u.label,.slice q.it.u.hA q.it.u.hn q.it.u.hc,.slice q.it.u.wA q.it.u.wn q.it.u.wc,.slice q.it.u.kA q.it.u.kn q.it.u.kc,.slice q.it.oA q.it.oN q.it.oC,.slice q.it.nA q.it.nN q.it.nC,.string q.it.label,.string q.it.fr,.int .i64 q.it.sk,.int .i64 q.it.sd,.string q.it.se,.int .i64 q.it.act,.int .i64 q.it.item,.int .i64 q.it.day,.string q.it.ev,.slice q.it.yA q.it.yN q.it.yC]).p (.pointer (some ⟨wr.heap.size,0,none⟩)) wq from fun wq he=>⟨wr.heap.size,0,rfl,bQ hl3 he.size,fun j u hu=>jq.out.ext he hl3 j u hu⟩);clear hlS hST hRS p3 BU;go_upto_region 11 with fail
      refine iJ 9 (fun i=>match i with|0=>Ty.is (fv)|1=>Ty.is (.agg (bF.E q).toArray)|2=>Ty.is (.map (some w.heap.size))|3=>aK [.int .i64 q.act]|4=>Ty.is (.int .i64 q.act)|5=>Ty.is (.agg ST.cells.toArray)|6=>Ty.is (.agg (bF.E q).toArray)|7=>Ty.is (.slice (some ⟨b,off,none⟩) zs.length c7)|8=>acT RS|_=>Ty.any) (by kernel_rfl) (by kernel_rfl) (by kernel_rfl) (by decide) rfl ?_;intro v;refine⟨?_,?_,?_,?_,?_,?_,?_,?_,?_,?_⟩
      ·exact fun wq hq _=>ak rfl (aF (.tmp 1) rfl rfl rfl)
      ·exact fun wq hq _=>ak rfl (bU 44 (.tmp 9) rfl isAgg44 28 sizeOf44 (bF.E q) (bF.hE q) (jh.out _ hq) rfl)
      ·exact fun wq hq _=>ak rfl (aF (.tmp 4) rfl rfl rfl)
      ·exact fun wq hq _=>ak rfl (dB 44 0 (.tmp 9) rfl _ underlying44 _ rfl 1 sizeOf3 (by decide) [.int .i64 q.act,.int .i64 q.item,.int .i64 q.day,.int .i64 q.it.kind,.slice q.it.aA q.it.aN q.it.aC,.slice q.it.bA q.it.bN q.it.bC,.int .i64 q.it.wh,.int .i64 q.it.nth,.int .i64 q.it.u.a,.int .i64 q.it.u.i,.int .i64 q.it.u.n,.int .i64 q.it.u.kind,.string q.it.u.label,.slice q.it.u.hA q.it.u.hn q.it.u.hc,.slice q.it.u.wA q.it.u.wn q.it.u.wc,.slice q.it.u.kA q.it.u.kn q.it.u.kc,.slice q.it.oA q.it.oN q.it.oC,.slice q.it.nA q.it.nN q.it.nC,.string q.it.label,.string q.it.fr,.int .i64 q.it.sk,.int .i64 q.it.sd,.string q.it.se,.int .i64 q.it.act,.int .i64 q.it.item,.int .i64 q.it.day,.string q.it.ev,.slice q.it.yA q.it.yN q.it.yC] ((jh.out _ hq)))
      ·rintro wq hq ⟨h0,-⟩;exact ak rfl (bW 3 (.tmp 39) rfl isAgg3 (c:=.int .i64 q.act) h0 rfl)
      ·rintro wq hq ⟨h0,h1,-⟩
       change v 2=_ at h0;change v 4=_ at h1;refine ak rfl ?_;exact acV (.tmp 38) (.tmp 40) rfl w.heap.size lS (HM.out.ext hq) h0 q.act h1 ST HST.out
      ·exact fun wq hq _=>ak rfl (bU 44 (.tmp 9) rfl isAgg44 28 sizeOf44 (bF.E q) (bF.hE q) (jh.out _ hq) rfl)
      ·exact fun wq hq _=>ak rfl (aF (.tmp 7) rfl rfl rfl)
      ·rintro wq hq ⟨h0,h1,h2,-⟩
       change v 5=_ at h0;change v 6=_ at h1;change v 7=_ at h2;refine ak rfl ?_;refine fC 38 call38 _ _ rfl rfl [_,_,_] ⟨h0,h1,h2,trivial⟩ ?_;refine(xK.out wq hq).mono ?_;rintro e w' ⟨p,⟨A,c,M,rfl,g1,g2,g3,g4,g5⟩,g6⟩;exact⟨_,rfl,g5,A,c,M,rfl,g1,g2,g3,HRS.out M p g4 g6⟩
      ·intro wq hq hT
       have k0:=hT 0 (by decide);change v 0=_ at k0;have k1:=hT 1 (by decide);change v 1=_ at k1;have k8:=hT 8 (by decide);change (acT RS).p (v 8) wq at k8;clear hT;simp only[List.drop_succ_cons,List.drop_zero,gH,dK,List.set_cons_succ,List.set_cons_zero,Nat.reduceAdd];rw[k0];rw[k1];generalize v 8=x8 at k8⊢;obtain⟨A8,c8,M8,rfl,hc8,DK,hn8,NI⟩:=k8;rw[<-Hfv.out];have hlM:=hn8.len2;have hPr:=(World.cell?_of_block (IV.block P (by omega) hPB)).trans hP5;have hDr:=(World.cell?_of_block (IV.block D (by omega) hDB)).trans hD5;have hsq:=hq.size;have av7:=IV.size;have OU:=ah (ah2 q M8 A8 c8 B P D w5.heap.size purpose day vo xs wq DK (by omega) ((hq.block (ay HB6.out)).trans HB6.out) (HO6.out.ext hq) (by omega) (by omega) (by omega) ((hq.cell (p:=⟨P,0,none⟩) (show P<w6.heap.size by omega)).trans hPr) (show P<wq.heap.size by omega) ((hq.cell (p:=⟨D,0,none⟩) (show D<w6.heap.size by omega)).trans hDr) (show D<wq.heap.size by omega));obtain⟨sb,hsb⟩:=aH (NW q.it.fr purpose day M8);rw[hsb]at OU
       have HS2:=ah (Dt.step UZ.out mV.out q9.out HAm.out (sb:=sb) (fun hp=>by
        have h:=NI;rw[<-asL.out]at h;have h2:=h hp;rw[<-hsb];unfold NW Nq;rw[h2,q9.out.it.it.fr];cases lQ day<;>simp))
       clear hsb NI hPr hDr;go_wp2_with fail
       refine OU.out.mono ?_;rintro e w8 ⟨rfl,hbel,v8,hB8,FK⟩;rw[Hfv.out];have RG:Kp B w5 w8:=⟨hbel.os.trans (hq.os.trans IV.os),hbel.tape.trans (hq.tape.trans IV.tape),hbel.output.trans (hq.output.trans IV.output),by have:=hbel.size;omega,fun k hk hkB=>(hbel.block k (by omega) hkB (fun h=>by have:=(HO6.out.lt k h).1;omega)).trans ((hq.block (by omega)).trans (IV.block k hk hkB))⟩;have HB8:=ah hB8;have O9:=ah FK
       have amN:(if sb then xs++[q]else xs).length<=k+1:=by
        cases sb
        ·simp only[Bool.false_eq_true,if_false];omega
        ·simp only[if_true,eu,List.length_singleton];omega
       obtain⟨xs8,amO⟩:=aH ((if sb then xs++[q]else xs));rw[amO]at O9 HS2 amN;clear hbel hB8 FK OU amO;go_wp2;go_roundw
       case rel=>exact⟨k+1,v8,xs8,_,by omega,by go_num,RG,HB8,O9,HS2,amN⟩
       case measure=>simp[intOf];omega
    ·have f1:=fT k zs.length
     have o7:=ah (show Dt R0 gs day purpose (gq gs).length ds xs from by
      have:=UZ.out
      rwa[show k=(gq gs).length by have:=Hz.out;omega]at this)
     go_wp2;refine bodyPost_end (results_none rfl _ _ _) rfl ?_;exact⟨rfl,(Kp.dH Dh).trans hkp,vo,xs,ds,HBz.out,WK.out.mono Dh.size,o7.out⟩
def ahC(R0 w:World)(gs:List jJ)(day:Int)(purpose:ByteArray)(e:Ending)(w':World):Prop:=∃v xs ds,e=.returned v/\Ext w w'/\Own bF w.heap.size w' v xs/\Dt R0 gs day purpose (gq gs).length ds xs
theorem acW(gs:List jJ)(rs:List nX)(A:Option Addr)(c:Nat)(purpose:ByteArray)(day:Int)(R0 w:World)(h0:Ext R0 w)(hs:Sl lW R0 A rs)(hall:fq (jZ R0) gs rs)(hok:rF gs 24):
 Calls prog 13 #[.int .i64 day,.string purpose,.slice A rs.length c] w (ahC R0 w gs day purpose):=by
 have hx:Ext w (((w.alloc (.cells #[.int .i64 day] 3)).alloc (.cells #[.string purpose] 9)).alloc (.cells #[.slice none 0 0] 33)):=(((Ext.refl w).alloc _).alloc _).alloc _;have hb:=heap_alloc_new ((w.alloc (.cells #[.int .i64 day] 3)).alloc (.cells #[.string purpose] 9)) (.cells #[.slice none 0 0] 33)
 have hp:(((w.alloc (.cells #[.int .i64 day] 3)).alloc (.cells #[.string purpose] 9)).alloc (.cells #[.slice none 0 0] 33)).heap[w.heap.size+1]? =some (.cells #[.string purpose] 9 (0,0)):=by
  rw[heap_alloc_old _ _ (by simp)];have:=heap_alloc_new (w.alloc (.cells #[.int .i64 day] 3)) (.cells #[.string purpose] 9);simpa using this
 have hd:(((w.alloc (.cells #[.int .i64 day] 3)).alloc (.cells #[.string purpose] 9)).alloc (.cells #[.slice none 0 0] 33)).heap[w.heap.size]? =some (.cells #[.int .i64 day] 3 (0,0)):=by
  rw[heap_alloc_old _ _ (by simp;omega),heap_alloc_old _ _ (by simp)];exact heap_alloc_new _ _
 obtain⟨wb,hwb⟩:=aH (((w.alloc (.cells #[.int .i64 day] 3)).alloc (.cells #[.string purpose] 9)).alloc (.cells #[.slice none 0 0] 33));rw[hwb]at hx hb hp hd;have hsz:wb.heap.size=w.heap.size+3:=by rw[<-hwb];simp
 have hb':wb.heap[w.heap.size+2]? =some (.cells #[.slice none 0 0] 33 (0,0)):=by simpa using hb
 have Hc:=ah (VU gs rs A c (w.heap.size+2) (w.heap.size+1) w.heap.size purpose day R0 wb (h0.trans hx) hs hall hok hb' (by simp[World.cell?,hp]) (by omega) (by omega) (by simp[World.cell?,hd]) (by omega) (by omega));have lH:=ah hwb;have Gm:=ah hsz;clear hb hp hd hb' hwb hs hall hok h0 hsz;go_enter func13,ntmps13
 go_wp2_with fail
 rw[lH.out];refine Hc.out.mono ?_;rintro e w2 ⟨rfl,hk,v,xs,ds,hB,hO,hS⟩;have hx2:Ext w w2:=hk.uZ hx (by omega);have c0:w2.cell? ⟨w.heap.size+2,0,none⟩=some v:=by simp[World.cell?,hB]
 have hO2:=hO.mono hx.size;clear hk hB Hc;go_wp2;go_ret;exact⟨v,xs,ds,rfl,hx2,hO2,hS⟩
theorem Zi(gs:List jJ)(rs:List nX)(A:Option Addr)(c:Nat)(purpose:ByteArray)(day:Int)(R0 w:World)(h0:Ext R0 w)(hs:Sl lW R0 A rs)(hall:fq (jZ R0) gs rs)(hok:rF gs 24):
 Calls prog 15 #[.int .i64 day,.string purpose,.slice A rs.length c] w (ahC R0 w gs day purpose):=by
 have Hc:=ah (acW gs rs A c purpose day R0 w h0 hs hall hok);clear hs hall hok h0;go_enter func15,ntmps15
 go_wp2_with fail
 refine Hc.out.mono ?_;rintro e w2 ⟨v,xs,ds,rfl,hx2,hO2,hS⟩;obtain⟨A2,c2,rfl,-,-⟩:=hO2.form;go_wp2;go_ret;exact⟨_,xs,ds,rfl,hx2,hO2,hS⟩
theorem acX{l m:List bn}(h:l.Perm m):j6 l=j6 m:=(h.map _).sum_nat
theorem aff(acc:List bn)(a:bn):j6 (nY acc a)<=j6 acc+a.items.length:=by
 unfold nY
 split
 ·omega
 ·unfold j6
  simp
theorem Qj:∀(l acc:List bn),j6 (l.foldl nY acc)<=j6 acc+j6 l
 |[],acc=>by simp[j6]
 |a::l,acc=>by
  have h1:=Qj l (nY acc a);have h2:=aff acc a;have h3:j6 (a::l)=a.items.length+j6 l:=by simp[j6]
  simp only[List.foldl_cons];omega
theorem Qk:∀gs:List jJ,j6 (kP gs)=uy gs
 |[]=>rfl
 |g::gs=>by
  have h:=Qk gs;have h1:uy (g::gs)=j6 g.acts+uy gs:=by simp[uy]
  have h2:kP (g::gs)=g.acts++kP gs:=rfl;have h3:j6 (g.acts++kP gs)=j6 g.acts+j6 (kP gs):=by simp[j6]
  rw[h2,h3,h1,h]
theorem U0{gs:List jJ}(h:rF gs 24):(gq gs).length<=24:=by
 have h1:(gq gs).length=j6 (mJ gs):=by
  unfold gq;rw[jA];generalize mJ gs=l
  induction l with
  |nil=>rfl
  |cons a l ih=>
   have h3:=vV a;have h4:j6 (a::l)=a.items.length+j6 l:=by simp[j6]
   rw[List.flatMap_cons,eu,ih,h3,h4]
 have h2:j6 (mJ gs)=j6 ((kP gs).foldl nY []):=(acX (EI ((kP gs).foldl nY [])).2.perm).symm;have h3:=Qj (kP gs) [];have h4:=Qk gs;have h5:=h.c;have h6:j6 ([]:List bn)=0:=rfl;omega
theorem acY(ds:List dn):gD ds 1 nQ:=by
 have hc:dN nQ=[nQ.core]:=by
  rw[iP];rfl
 unfold gD;rw[hc];refine⟨fun x hx=> ?_,by simp[kW],aI _⟩;rw[kX]at hx;subst hx;exact⟨by decide,by decide,by decide,(fun x hx=>by cases hx),(fun x hx=>by cases hx),(fun x hx=>by cases hx),(fun x hx=>by cases hx)⟩
theorem Oq(w:World):(Instr.build 30 #[(1,.int .i64 0)]).run prog w=.ok (.agg dU.cells.toArray) w:=by
 have u:=underlying30;simp only[dU,aB.cells]
 go_simp
theorem acZ(w:World):Calls prog 29 #[] w fun e w'=>e=.returned (.agg dU.cells.toArray)/\Ext w w':=by
 go_enter func29,ntmps29
 go_wp2_with (first|(refine aL aj rfl rfl fun wC dD jK fE=> ?_)|(refine wpList_build 30 [(1,.const (.int .i64 0))] rfl rfl [(1,.int .i64 0)] ⟨⟨rfl,rfl⟩,trivial⟩ (.agg dU.cells.toArray) (Oq _) ?_)|((refine aD aj (.tmp 0) (.tmp 1) ?_ ?_ w w.heap.size ?_ dU ?_ _ _ fE ?_ dD (aI _) ?_);rfl;rfl;rfl;rfl;rfl;intro wG dL fF dM lZ jS))
 refine bodyPost_ret (kJ rfl _ _ w.heap.size dU rfl dM) rfl ?_;exact⟨rfl,dL⟩
theorem ac0(d:Nat->Bool)(V:dn->Prop)(l:List dn)(xs:List dY)(A:Option Addr)(c:Nat)(w:World)(hD:lG d w)(hl:l.length<=32)(hs:Sl bF w A xs)(hall:fq (fH w) l xs)(hi:∀dd∈l,lu dd.it)(qP:∀dd∈l,kT dd.it.x.kind=true)(hT:kN w)
 (hV:∀dd∈l,∀(q:dY) wq,Ext w wq->fH wq dd q->Calls prog 53 #[.agg q.it.cells.toArray] wq (mq (V dd) wq)):
 Calls prog 16 #[.slice A xs.length c] w (fun e w'=>∃w0,Ext w w0/\acR d V w0 w l nQ e w'):=by
 have HD:=ah hD;have Hap:=ah (fun wq (he:Ext w wq) (p:Nat->Bool) (hp:lG p wq)=>UY p V nQ dU l xs A c wq hp (yB (mask p wq)) (acY l) hl (hs.ext he) (hall.mono fun a b h=>h.ext he) hi qP (hT.ext he) (fun dd hd q hq wq2 he2=>hV dd hd q wq2 (he.trans he2) (hq.ext he2)));clear hD hl hs hall hi qP hT hV;go_enter func16,ntmps16
 go_upto_region 1 with(first|(refine aL aj rfl rfl fun wC dD jK fE=> ?_))
 have hl2:=ay fE;have hX:=dD;go_wp2_with fail
 refine(acZ wC).mono ?_;rintro e w1 ⟨rfl,hx1⟩;have amP:=ah (Hap.out w1 (dD.trans hx1) (oL d w.heap.size) ((HD.out.ext (dD.trans hx1)).add (b:=w.heap.size) (r:=dU) ((hx1.block hl2).trans fE)));have Fg:=dD.trans hx1;have hk1:=(hx1.block hl2).trans fE;have hl1:=ay hk1;clear dD jK fE hx1 hX Hap;go_wp2_with fail
 refine amP.out.mono ?_;rintro e w2 ⟨u',r',v,rfl,hx2,hr2,hb2,hR2⟩;have hk2:=(hx2.block hl1).trans hk1;have lX:=Fg.trans hx2;clear amP hk1;have xU:=ah hr2;clear hr2;go_wp2_with (first|((refine aD aj (.tmp 2) (.tmp 7) ?_ ?_ w w.heap.size ?_ r' ?_ _ _ hk2 ?_ lX (aI _) ?_);rfl;rfl;rfl;rfl;rfl;intro wG dL fF dM lZ jS))
 refine bodyPost_ret (dA rfl _ _ w.heap.size r' rfl dM) rfl ?_;exact⟨w1,Fg,u',r',v,rfl,dL,Reads.cin (aZ.light fF jS) _ _ xU.out,hb2,hR2⟩
def amQ(d:Nat->Bool)(V:dn->Prop)(w:World)(gs:List jJ)(day:Int)(purpose:ByteArray)(e:Ending)(w':World):Prop:=∃(w0:World) (ds:List dn) (u':av) (r':aB),e=.returned (.agg r'.cells.toArray)/\Ext w w0/\Ext w w'/\Reads (mask d w') u' r'/\gD ds 1000 u'/\tN V w0 ds nQ u'/\ds.Sublist (gq gs)/\(Bo gs->ds=(gq gs).filter (Nq gs day purpose))
theorem Ka(d:Nat->Bool)(V:dn->Prop)(gs:List jJ)(rs:List nX)(A:Option Addr)(c:Nat)(purpose:ByteArray)(day:Int)(R0 w:World)(hD:lG d w)(h0:Ext R0 w)(hs:Sl lW R0 A rs)(hall:fq (jZ R0) gs rs)(hok:rF gs 24)(hT:kN w)
 (hV:∀dd:dn,lu dd.it->kT dd.it.x.kind=true->∀(q:dY) wq,Ext w wq->fH wq dd q->Calls prog 53 #[.agg q.it.cells.toArray] wq (mq (V dd) wq)):
 Calls prog 6 #[.int .i64 day,.string purpose,.slice A rs.length c] w (amQ d V w gs day purpose):=by
 have yV:=ah (fun wq (he:Ext w wq)=>Zi gs rs A c purpose day R0 wq (h0.trans he) hs hall hok);have HD:=ah hD;have H0:=ah h0;have HT:=ah hT;have HV:=ah hV;have fI:=ah (JI hok);have asM:=ah (U0 hok);clear hs hall hok hD h0 hT hV;go_enter func6,ntmps6
 go_upto_region 1 with(first|(refine aL aj rfl rfl fun wC dD jK fE=> ?_))
 have hl2:=ay fE;have ahD:=ah (yV.out wC dD);clear yV;go_wp2_with fail
 refine ahD.out.mono ?_;rintro e w1 ⟨v,xs,ds,rfl,hx1,CP,hS⟩;obtain⟨A1,c1,rfl,-,hsl⟩:=CP.form;have Fg:=dD.trans hx1;have hk1:=(hx1.block hl2).trans fE;have hl1:=ay hk1;have hsub:ds.Sublist (gq gs):=by have:=hS.sub;rwa[gY (aI _)]at this
 have hdl:ds.length<=32:=by have:=hsub.length_le;have:=asM.out;omega
 have Hdb:=ah (ac0 (oL d w.heap.size) V ds xs A1 c1 w1 ((HD.out.ext Fg).add (b:=w.heap.size) (r:=dU) hk1) hdl hsl (hS.rd.mono fun a b h=>h.ext (H0.out.trans Fg)) (fun dd hd=>fI.out dd (hsub.subset hd)) hS.am (HT.out.ext Fg) (fun dd hd q wq he hq=>HV.out dd (fI.out dd (hsub.subset hd)) (hS.am dd hd) q wq (Fg.trans he) hq));have qE:=ah hsub;have Hex:=ah (show Bo gs->ds=(gq gs).filter (Nq gs day purpose)from fun hp=>by have h:=hS.ex hp;rwa[gY (aI _)]at h);clear dD jK fE hx1 CP hS hsl hsub hdl ahD;go_wp2_with fail
 refine Hdb.out.mono ?_;rintro e w2 ⟨w0,hw0,u',r',v,rfl,hx2,hr2,hb2,hR2⟩;have hk2:=(hx2.block hl1).trans hk1;have lX:=Fg.trans hx2;have Hw0:=ah (Fg.trans hw0);have xU:=ah hr2;have Hb2:=ah hb2;have HR2:=ah hR2;clear Hdb hk1 hr2 hb2 hR2 hw0;go_upto_region 2 with(first|(refine aL aj rfl rfl fun wE jT o9 jO=> ?_)|((with_reducible refine aD aj (.tmp 7) (.tmp 15) ?_ ?_ w2 w2.heap.size ?_ r' ?_ _ _ jO ?_ jT (aI _) ?_);rfl;rfl;rfl;rfl;rfl;intro wF iZ wX zM pq Am;skip))
 have hk3:=(iZ.block (ay hk2)).trans hk2;have tC:=lX.trans iZ;have hlw:=ay hk2;have BN:=ah (Reads.cin (aZ.ext (p:=oL d w.heap.size) iZ) _ _ xU.out);have Zg:=ah pq;clear jT o9 jO iZ wX zM pq Am hx2;go_wp2_with (first|((with_reducible refine au aj (.tmp 7) ?_ ?_ ?_ w2.heap.size 0 ?_ r' ?_ ?_);rfl;rfl;rfl;rfl;exact Zg.out)|((refine aD aj (.tmp 6) (.tmp 17) ?_ ?_ w w.heap.size ?_ r' ?_ _ _ hk3 ?_ tC (aI _) ?_);rfl;rfl;rfl;rfl;rfl;intro wG dL fF dM lZ jS))
 refine bodyPost_ret (kJ rfl _ _ w.heap.size r' rfl dM) rfl ?_;exact⟨w0,ds,u',r',rfl,Hw0.out,dL,Reads.cin (aZ.light fF jS) _ _ BN.out,Hb2.out,HR2.out,qE.out,Hex.out⟩
def afg:bn:=⟨1,⟨#[97]⟩,5,1,10,⟨#[]⟩,[.mk Ar []]⟩
def afh:bn:=⟨2,⟨#[98]⟩,6,1,20,⟨#[]⟩,[.mk Ay []]⟩
def AJ:jJ:=⟨1,7,⟨#[]⟩,[afg,afh]⟩
def Fh:dn:=⟨1,0,5,.mk Ar []⟩
def K3:dn:=⟨2,0,6,.mk Ay []⟩
def WX(d:dn):Prop:=d.it=.mk Ar []∨d.it=.mk Ay []
theorem Bf:gq [AJ]=[Fh,K3]:=by rfl
theorem aie:mJ [AJ]=[afg,afh]:=by rfl
theorem U1:Bo [AJ]:=by
 intro d hd;rw[Bf]at hd;rw[aie];simp only[Ed,List.not_mem_nil,or_false]at hd;rcases hd with rfl|rfl
 ·exact⟨by decide,by decide,by rfl⟩
 ·exact⟨by decide,by decide,by rfl⟩
theorem amR:[Fh,K3].filter (Nq [AJ] 9 ⟨#[]⟩)=[]:=by rfl
theorem WY:[Fh,K3].filter (Nq [AJ] 10 ⟨#[]⟩)=[Fh]:=by rfl
theorem aif:[Fh,K3].filter (Nq [AJ] 20 ⟨#[]⟩)=[Fh,K3]:=by rfl
def exZ:av:=.mk 1 0 1 2 IQ [] [] []
def WZ:av:=.mk 0 0 0 0 ⟨#[]⟩ [] [] [exZ]
theorem afi(x:qo)(h:x=Ar∨x=Ay):sM x:=by
 rcases h with rfl|rfl
 ·exact⟨by decide,by decide,by decide,by decide,by decide,by decide,by decide,by decide,by decide,by simp[Ar],by simp[Ar],by simp[Ar],by simp[Ar]⟩
 ·exact⟨by decide,by decide,by decide,by decide,by decide,by decide,by decide,by decide,by decide,by simp[Ay],by simp[Ay],by simp[Ay,IQ];decide,by simp[Ay]⟩
theorem Zj:rF [AJ] 24:=by
 refine⟨by decide,fun g hg=> ?_,by decide⟩;rw[kX]at hg;subst hg;refine⟨by decide,fun a ha=> ?_⟩;simp only[AJ,Ed,List.not_mem_nil,or_false]at ha
 have hI:∀x:qo,x=Ar∨x=Ay->lu (.mk x []):=fun x hx=>by
  rw[lu,xJ];exact⟨afi x hx,by decide,trivial⟩
 rcases ha with rfl|rfl
 ·exact⟨by decide,by decide,fun y hy=>by simp only[afg,kX]at hy;rw[hy];exact hI _ (.inl rfl)⟩
 ·exact⟨by decide,by decide,fun y hy=>by simp only[afh,kX]at hy;rw[hy];exact hI _ (.inr rfl)⟩
theorem W9{w:World}{u:av}(hT:ou w)(h:tN WX w [Fh] nQ u):u=WZ:=by
 obtain⟨x,h1,h2⟩:=h;have h3:x=nQ.dJ [(gK 1 0 exU 1 0).1]:=h1.ins (.inl rfl) rfl ⟨by rfl,rfl,hT,rfl,rfl,rfl,rfl,by decide⟩;unfold tN at h2;rw[h2,h3];rfl
theorem aii{w:World}{u:av}(hT:ou w)(h:tN WX w [Fh,K3] nQ u):u.kids=[]:=by
 obtain⟨x,h1,h2⟩:=h;have h3:x=WZ:=W9 hT ⟨x,h1,rfl⟩;obtain⟨y,h4,h5⟩:=h2;unfold tN at h5;rw[h5];rw[h3]at h4;obtain⟨p,j,hp,hy⟩:=h4.rep (.inr rfl) rfl exZ (by rfl) (by decide);have hw:cZ exZ.id WZ=[WZ,exZ]:=by rfl
 have hpe:p=WZ:=by
  have:=hp.at_;rw[hw]at this;simpa using this.symm
 subst hpe;have hj:j=0:=by have:=hp.lt;simp only[WZ,av.kids,iX,List.length_nil]at this;omega
 subst hj;rw[hy];rfl
end Go.Proofs.YtgboomjahhnldaaGreatDoor
