/- A part of the proof of TopWritten, printed small: TExA TExB TPre TSaidX. -/
import Derived.Test.YtgboomjahhnldaaGreatDoorZ39
set_option maxRecDepth 100000
set_option maxHeartbeats 25600000
set_option linter.all false
namespace Go.Proofs.YtgboomjahhnldaaGreatDoor
open Go.Proofs.Tryz Go.RowKit
def U2:aB:=⟨0,0,0,2,IQ,none,0,0,none,0,0,none,0,0⟩
def U3:bE:={nP with u:=U2}
def U4(A:Option Addr):bE:={nP with kind:=1,aA:=A,aN:=1,aC:=1}
theorem aij(w:World):(Instr.build 42 #[(5,.agg U2.cells.toArray)]).run prog w=.ok (.agg U3.cells.toArray) w:=by
 have u:=underlying42;simp only[U3,nP,bE.cells,aB.cells,U2,IQ,show ByteArray.empty=(⟨#[]⟩:ByteArray)from rfl]
 go_simp
theorem aik(A:Option Addr)(w:World):(Instr.build 42 #[(0,.int .i64 1),(1,.slice A 1 1)]).run prog w=.ok (.agg (U4 A).cells.toArray) w:=by
 have u:=underlying42;simp only[U4,nP,bE.cells,aB.cells,show ByteArray.empty=(⟨#[]⟩:ByteArray)from rfl]
 go_simp
theorem ac2(w:World):eZ w (.mk Ar []) U3:=by
 refine eZ.of (rs:=[]) ⟨rfl,rfl,aI _,Sl.nil,rfl,aI _,Sl.nil,rfl,rfl,?_,rfl,aI _,Sl.nil,rfl,aI _,Sl.nil,rfl,rfl,rfl,rfl,rfl,rfl,rfl,rfl,rfl⟩ rfl (aI _) Sl.nil trivial;show Reads w exU U2;unfold exU;rw[Reads];exact⟨⟨rfl,rfl,rfl,rfl,rfl⟩,⟨rfl,aI _,Sl.nil⟩,⟨rfl,aI _,Sl.nil⟩,rfl,aI _,[],Sl.nil,by rw[ReadsAll];trivial⟩
theorem ac3{w:World}{A:Option Addr}(h:Sl dG w A [⟨2,IQ⟩]):eZ w (.mk Ay []) (U4 A):=
 eZ.of (rs:=[]) ⟨rfl,rfl,aI _,h,rfl,aI _,Sl.nil,rfl,rfl,yB w,rfl,aI _,Sl.nil,rfl,aI _,Sl.nil,rfl,rfl,rfl,rfl,rfl,rfl,rfl,rfl,rfl⟩ rfl (aI _) Sl.nil trivial
def afj(A:Option Addr):bM:=⟨1,⟨#[97]⟩,5,1,10,⟨#[]⟩,A,1,1⟩
def afk(A:Option Addr):bM:=⟨2,⟨#[98]⟩,6,1,20,⟨#[]⟩,A,1,1⟩
def asN(A:Option Addr):nX:=⟨1,7,⟨#[]⟩,A,2,2⟩
theorem afl(x y:bM)(w:World):(Instr.buildSlice 62 2 #[(0,.agg (eB.E x).toArray),(1,.agg (eB.E y).toArray)]).run prog w=.ok (.slice (some ⟨w.heap.size,0,none⟩) 2 2) (w.alloc (.cells (eB.flat [x,y]).toArray 67)):=by
 have u:=underlying62;have u2:=underlying67;simp only[eB,bM.cells,El.flat,List.flatMap_cons,List.flatMap_nil,kY,jE,jW]
 go_simp
theorem VW{ops:Array Oper}{rest:List Oper}{o:Oper}{a:Act}{w:World}{Q:Exit->Act->World->Prop}(s t:Operand)(ho:o.op=.buildSlice 62 2 #[(0,s),(1,t)])(hw:Region.wanted o (yielded ops a.tmps)=true)(x y:bM)(hx:a.eval s=.agg (eB.E x).toArray)(hy:a.eval t=.agg (eB.E y).toArray)
 (h:∀w',Ext w w'->Sl eB w' (some ⟨w.heap.size,0,none⟩) [x,y]->wpList prog ops Q rest (a.put o.dst (.slice (some ⟨w.heap.size,0,none⟩) 2 2)) w'):wpList prog ops Q (o::rest) a w:=by
 refine wpList_want hw fun K hK=> ?_;have hr:=afl x y w;unfold Oper.wp;simp only[execOp,ho,List.map_toArray,gX,List.map_nil,hx,hy];simp only[Sem.run_bind,hr,Result.andThen_ok,Sem.run_pure];exact hK _ _ (h _ ((Ext.refl w).alloc _) (Sl.new eB rfl))
theorem Zk(w:World):Calls prog 12 #[] w fun e w'=>∃A r,e=.returned (.slice A 1 1)/\Ext w w'/\Sl lW w' A [r]/\jZ w' AJ r:=by
 go_enter func12,ntmps12
 go_upto_region 2 with(first|(refine wpList_build 42 [(5,.tmp 4)] rfl rfl [(5,.agg U2.cells.toArray)] ⟨⟨rfl,rfl⟩,trivial⟩ (.agg U3.cells.toArray) (aij _) ?_)|(refine gP aT (.tmp 5) rfl rfl U3 _ rfl rfl (by decide) ?_;intro w1 hx1 hz1 hs1;clear hz1)|((with_reducible refine aL eB ?_ ?_ ?_);rfl;rfl;intro w2 hx2 hz2 hk2;clear hz2)|((with_reducible refine aD eB (.tmp 1) (.tmp 7) ?_ ?_ w1 w1.heap.size ?_ (afj (some ⟨w.heap.size,0,none⟩)) ?_ _ _ hk2 ?_ hx2 (aI _) ?_);rfl;rfl;rfl;rfl;rfl;intro w3 hx3 hz3 hk3 dX ho3;clear hz3))
 have hlt3:w1.heap.size<w3.heap.size:=ay hk3;have Gy:=ah (fun W (he:Ext w3 W)=>hs1.ext (hx3.trans he));have eU:=ah (hx1.trans hx3);have KC:=ah (fun W (he:Ext w3 W)=>dX.ext he hlt3);clear hx1 hs1 hx2 hk2 hx3 hk3 dX ho3;go_upto_region 3 with(first|(refine gP dG (.tmp 9) rfl rfl ⟨2,IQ⟩ _ rfl rfl (by decide) ?_;intro w4 hx4 yI hs4;clear yI)|(refine wpList_build 42 [(0,.const (.int .i64 1)),(1,.tmp 10)] rfl rfl [(0,.int .i64 1),(1,.slice (some ⟨w3.heap.size,0,none⟩) 1 1)] ⟨⟨rfl,rfl⟩,⟨rfl,rfl⟩,trivial⟩ (.agg (U4 (some ⟨w3.heap.size,0,none⟩)).cells.toArray) (aik _ _) ?_)|(refine gP aT (.tmp 11) rfl rfl (U4 (some ⟨w3.heap.size,0,none⟩)) _ rfl rfl (by decide) ?_;intro w5 hx5 FH hs5;clear FH)|((with_reducible refine aL eB ?_ ?_ ?_);rfl;rfl;intro w6 hx6 DJ qH;clear DJ)|((with_reducible refine aD eB (.tmp 2) (.tmp 13) ?_ ?_ w5 w5.heap.size ?_ (afk (some ⟨w4.heap.size,0,none⟩)) ?_ _ _ qH ?_ hx6 (aI _) ?_);rfl;rfl;rfl;rfl;rfl;intro w7 hx7 hz7 FR TN ho7;clear hz7))
 have HS2:=ah (fun W (he:Ext w7 W)=>hs4.ext (hx5.trans (hx7.trans he)));have Rt:=ah (fun W (he:Ext w7 W)=>hs5.ext (hx7.trans he));have Zl:=hx4.trans (hx5.trans hx7);have BP:=ah (eU.out.trans Zl);have HSa:=ah (fun W (he:Ext w7 W)=>Gy.out W (Zl.trans he));have pU:=ah TN;have anP:=ah (KC.out w7 Zl);clear hx4 hs4 hx5 hs5 hx6 qH hx7 FR TN ho7 Zl Gy KC;go_wp2_with (first|((with_reducible refine au eB (.tmp 1) ?_ ?_ ?_ w1.heap.size 0 ?_ (afj (some ⟨w.heap.size,0,none⟩)) ?_ ?_);rfl;rfl;rfl;rfl;exact anP.out)|((with_reducible refine au eB (.tmp 2) ?_ ?_ ?_ w5.heap.size 0 ?_ (afk (some ⟨w4.heap.size,0,none⟩)) ?_ ?_);rfl;rfl;rfl;rfl;exact pU.out)|(refine VW (.tmp 14) (.tmp 15) rfl rfl (afj (some ⟨w.heap.size,0,none⟩)) (afk (some ⟨w4.heap.size,0,none⟩)) rfl rfl ?_;intro w8 jL DK)|(refine gP lW (.tmp 17) rfl rfl (asN (some ⟨w7.heap.size,0,none⟩)) _ rfl rfl (by decide) ?_;intro w9 ko qp sD;clear qp))
 go_ret;have Zm:=jL.trans ko;refine⟨_,_,rfl,BP.out.trans Zm,sD,rfl,rfl,rfl,rfl,aI _,_,DK.ext ko,⟨rfl,rfl,rfl,rfl,rfl,rfl,rfl,aI _,_,HSa.out w9 Zm,ac2 w9,trivial⟩,⟨rfl,rfl,rfl,rfl,rfl,rfl,rfl,aI _,_,Rt.out w9 Zm,ac3 (HS2.out w9 Zm),trivial⟩,trivial⟩
theorem U5{w:World}(hT:kN w)(hO:Ae w)(dd:dn)(hi:lu dd.it)(ha:kT dd.it.x.kind=true)(q:dY)(wq:World)(he:Ext w wq)(hq:fH wq dd q):Calls prog 53 #[.agg q.it.cells.toArray] wq (mq (WX dd) wq):=
 (Zf dd.it.x q.it wq hq.it.it hi.one (hT.ext he) (hO.ext he) ha).mono fun _ _ h=>h.weak fun hv=>by
   have hy:=hq.it.ys.1;rcases hv with hv|hv
   ·exact⟨.inl (by rw[hv];rfl),by rw[hy,hv];rfl⟩
   ·exact⟨.inr (by rw[hv];rfl),by rw[hy,hv];rfl⟩
theorem ahF(w:World):lG (fun _=>false) w:=⟨fun j hj=>by cases hj⟩
theorem Fj(day:Int)(n:Nat)(hn:∀(w:World) (u:av),ou w->tN WX w (([Fh,K3]:List dn).filter (Nq [AJ] day ⟨#[]⟩)) nQ u->u.kids.length=n)(A:Option Addr)(r:nX)(R0 w:World)(h0:Ext R0 w)(hs:Sl lW R0 A [r])(hr:jZ R0 AJ r)(hT:kN w)(hT0:ou w)(hO:Ae w):
 Calls prog 6 #[.int .i64 day,.string ⟨#[]⟩,.slice A 1 1] w fun e w'=>∃r':aB,e=.returned (.agg r'.cells.toArray)/\r'.kn=n/\Ext w w':=by
 refine(Ka (fun _=>false) WX [AJ] [r] A 1 ⟨#[]⟩ day R0 w (ahF w) h0 hs ⟨hr,trivial⟩ Zj hT (U5 hT hO)).mono ?_;rintro e w' ⟨w0,ds,u',r',rfl,h1,h2,h3,-,h5,-,h7⟩;refine⟨r',rfl,?_,h2⟩;have hd:=h7 U1;rw[Bf]at hd;rw[hd]at h5;rw[h3.j5.2.2.2.2.2.2.2.2.2.1];exact hn w0 u' (hT0.ext hT h1) h5
theorem ail(A:Option Addr)(r:nX)(R0 w:World)(h0:Ext R0 w)(hs:Sl lW R0 A [r])(hr:jZ R0 AJ r):Calls prog 13 #[.int .i64 10,.string ⟨#[]⟩,.slice A 1 1] w fun e w'=>∃A' c,e=.returned (.slice A' 1 c)/\Ext w w':=by
 refine(acW [AJ] [r] A 1 ⟨#[]⟩ 10 R0 w h0 hs ⟨hr,trivial⟩ Zj).mono ?_;rintro e w' ⟨v,xs,ds,rfl,hx,hO,hS⟩;obtain⟨A',c',rfl,-,-⟩:=hO.form;have hd:=hS.ex U1;rw[gY (aI _),Bf,WY]at hd;have hl:=hS.rd.length;rw[hd]at hl;exact⟨A',c',by rw[hl];rfl,hx⟩
theorem ain(A:Option Addr)(r:nX)(R0 w:World)(h0:Ext R0 w)(hs:Sl lW R0 A [r])(hr:jZ R0 AJ r):Calls prog 8 #[.slice A 1 1] w fun e w'=>∃A' c,e=.returned (.slice A' 2 c)/\Ext w w':=by
 refine(EL [AJ] [r] A 1 R0 w h0 hs ⟨hr,trivial⟩ Zj).mono ?_;rintro e w' ⟨v,xs,rfl,hx,hO,hA⟩;obtain⟨A',c',rfl,-,-⟩:=hO.form;have hl:=hA.length;rw[Bf]at hl;exact⟨A',c',by rw[hl];rfl,hx⟩
theorem afm(ra ri rn rk:Int)(rl:ByteArray)(fU:Option Addr)(hn hc:Nat)(wA:Option Addr)(wn wc:Nat)(kA:Option Addr)(kn kc:Nat)(w:World):(Instr.field 30 (.agg #[.int .i64 ra,.int .i64 ri,.int .i64 rn,.int .i64 rk,.string rl,.slice fU hn hc,.slice wA wn wc,.slice kA kn kc]) 5).run prog w=.ok (.slice kA kn kc) w:=by
 have u:=underlying30;have hs:=fun w=>sizeOf28 w;have hg:=fun w=>isAgg28 w;simp[Instr.field,run_underlying u,part,hs,hg,asAgg]
theorem Zn(w:World)(hT:kN w)(hT0:ou w)(hO:Ae w):Calls prog 4 #[] w fun e w'=>e=.returned (.bool true)/\Ext w w':=by
 have av8:=afm;have HT:=ah (fun wq (he:Ext w wq)=>And.intro (hT.ext he) (And.intro (hT0.ext hT he) (hO.ext he)));clear hT hT0 hO;go_enter func4,ntmps4
 go_wp2_with fail
 refine(Zk w).mono ?_;rintro e w1 ⟨A,r,rfl,hx1,hs,hr⟩;have tq:=ah hx1;have B9:=ah (fun wq (he:Ext w1 wq)=>Fj 9 0 (fun _ _ _ h=>by rw[amR]at h;unfold tN at h;rw[h];rfl) A r w1 wq he hs hr (HT.out wq (tq.out.trans he)).1 (HT.out wq (tq.out.trans he)).2.1 (HT.out wq (tq.out.trans he)).2.2);have B10:=ah (fun wq (he:Ext w1 wq)=>Fj 10 1 (fun _ _ hT0 h=>by rw[WY]at h;rw[W9 hT0 h];rfl) A r w1 wq he hs hr (HT.out wq (tq.out.trans he)).1 (HT.out wq (tq.out.trans he)).2.1 (HT.out wq (tq.out.trans he)).2.2);have B20:=ah (fun wq (he:Ext w1 wq)=>Fj 20 0 (fun _ _ hT0 h=>by rw[aif]at h;rw[aii hT0 h];rfl) A r w1 wq he hs hr (HT.out wq (tq.out.trans he)).1 (HT.out wq (tq.out.trans he)).2.1 (HT.out wq (tq.out.trans he)).2.2);have On:=ah (fun wq (he:Ext w1 wq)=>ail A r w1 wq he hs hr);have En:=ah (fun wq (he:Ext w1 wq)=>ain A r w1 wq he hs hr);clear hx1 hs hr;have H:=ah (B9.out w1 (Ext.refl _));go_wp2_with fail
 refine H.out.mono ?_;rintro e w2 ⟨⟨ra,ri,rn,rk,rl,fU,hn,hc,wA,wn,wc,kA,kn,kc⟩,rfl,hk,hx2⟩;dsimp only at hk;subst hk;simp only[aB.cells];have eD:=ah hx2;have H:=ah (B10.out w2 hx2);clear hx2;go_wp2_with fail
 refine H.out.mono ?_;rintro e w3 ⟨⟨ra,ri,rn,rk,rl,fU,hn,hc,wA,wn,wc,kA,kn,kc⟩,rfl,hk,hx3⟩;dsimp only at hk;subst hk;simp only[aB.cells];have eU:=ah (eD.out.trans hx3);have H:=ah (B20.out w3 eU.out);clear hx3;go_wp2_with fail
 refine H.out.mono ?_;rintro e w4 ⟨⟨ra,ri,rn,rk,rl,fU,hn,hc,wA,wn,wc,kA,kn,kc⟩,rfl,hk,hx4⟩;dsimp only at hk;subst hk;simp only[aB.cells];have mM:=ah (eU.out.trans hx4);have H:=ah (On.out w4 mM.out);clear hx4;go_wp2_with fail
 refine H.out.mono ?_;rintro e w5 ⟨A5,c5,rfl,hx5⟩;have mG:=ah (mM.out.trans hx5);have H:=ah (En.out w5 mG.out);clear hx5;go_wp2_with fail
 refine H.out.mono ?_;rintro e w6 ⟨A6,c6,rfl,hx6⟩;go_wp2;go_ret;exact⟨rfl,tq.out.trans (mG.out.trans hx6)⟩
def K4(R0 w:World)(l:List av)(e:Ending)(w':World):Prop:=∃v rs,e=.returned v/\Own aj w.heap.size w' v rs/\fq (Reads R0) l rs/\Ext w w'
def Zo(R0:World)(N:Nat):Prop:=∀(u:av) (r:aB) (w:World),SizeOf.sizeOf u<=N->Reads R0 u r->dI u->Ext R0 w->Calls prog 9 #[.agg r.cells.toArray] w (K4 R0 w (bO u))
theorem afn(R0:World)(N:Nat)(ih:Zo R0 N):Zo R0 (N+1):=by
 intro u r w hN hr hok h0;obtain⟨-,-,-,-,-,-,-,-,-,hkn,hkc,rs,hrs,hall,hrl⟩:=hr.j5;have hkb:=hok.all.head.2.2.2.1;have hcnt:=hok.cnt;have hpl:=nW u;have uG:=ah (fun(k:Nat) (h:k<u.kids.length) (h3:k<rs.length) wq (he:Ext w wq)=>ih u.kids[k] rs[k] wq (qO hN h) (ReadsAll.get hall k h h3) (hok.kid (dW h)) (h0.trans he));have hb:=rE.new r w;have hx0:Ext w (w.alloc (.cells r.cells.toArray 30)):=(Ext.refl w).alloc _;have Hr0:=ah hr;have H0:=ah h0;have mV:=ah (fun(k:Nat) (h:k<u.kids.length)=>OE h)
 have Hle:=ah (fun k=>(show(eO (u.kids.take k)).length<=1000 from by
  have h1:=uP (u.kids.take k) (u.kids.drop k);rw[jl]at h1;have h2:=nI List.length (jy u);rw[h1,iX,eu]at h2;omega))
 have o7:=ah (show bO u=u::eO (u.kids.take u.kids.length) by rw[List.take_length];exact jy u);obtain⟨kids,hkk⟩:=aH (u.kids);have uG:=ah (show∀(k:Nat) (h:k<kids.length) (h3:k<rs.length) wq (he:Ext w wq),Calls prog 9 #[.agg rs[k].cells.toArray] wq (K4 R0 wq (bO kids[k])) by subst hkk;exact uG.out);rw[hkk]at hrl mV Hle o7 hkb hkn;rw[<-hrl]at hkn hkb;have Hrl:=ah hrl;obtain⟨ra,ri,rn,rk,rl,fU,hn,hc,wA,wn,wc',kA,kn,kc⟩:=r;dsimp only at hkn hkc hrs;subst hkn;simp only[aB.cells]at hb hx0⊢;obtain⟨wb,hwb⟩:=aH (w.alloc (.cells #[.int .i64 ra,.int .i64 ri,.int .i64 rn,.int .i64 rk,.string rl,.slice fU hn hc,.slice wA wn wc',.slice kA rs.length kc] 30));rw[hwb]at hb hx0;have lH:=ah hwb;have Hb:=ah hb;have jv:=ah hx0;have yH:=ah hrs;obtain⟨hbl,c0,c1,c2,c3,c4,c5,c6,c7⟩:=hb;dsimp only at c0 c1 c2 c3 c4 c5 c6 c7;have av9:=hx0.size;have asO:wb.heap.size=w.heap.size+1:=by rw[<-lH.out];simp
 have hz:Own aj (w.heap.size+1) (wb.alloc (.cells #[.int .i64 ra,.int .i64 ri,.int .i64 rn,.int .i64 rk,.string rl,.slice fU hn hc,.slice wA wn wc',.slice kA rs.length kc] 30)) (.slice (some ⟨w.heap.size+1,0,none⟩) 1 1) [⟨ra,ri,rn,rk,rl,fU,hn,hc,wA,wn,wc',kA,rs.length,kc⟩]:=by
  have h:=Own.lit aj (w:=wb) (base:=wb.heap.size) (xs:=[⟨ra,ri,rn,rk,rl,fU,hn,hc,wA,wn,wc',kA,rs.length,kc⟩]) (cs:= #[.int .i64 ra,.int .i64 ri,.int .i64 rn,.int .i64 rk,.string rl,.slice fU hn hc,.slice wA wn wc',.slice kA rs.length kc]) (aI _) (by simp) (by simp[El.flat,aj,aB.cells]);rw[asO]at h;exact h
 have hxl:Ext wb (wb.alloc (.cells #[.int .i64 ra,.int .i64 ri,.int .i64 rn,.int .i64 rk,.string rl,.slice fU hn hc,.slice wA wn wc',.slice kA rs.length kc] 30)):=(Ext.refl wb).alloc _;have Hz:=ah hz;have rA:=ah hxl;clear hr hok h0 hN ih hall hrs hkc hkk hwb hx0 hz hxl hrl hpl hcnt;go_enter func9,ntmps9
 go_wp2_with fail
 try rw[lH.out]
 go_loopw [3,4] (fun vo vk wr=>∃(k:Nat) (xs:List aB),k<=rs.length/\vk=.int .i64 (k:Nat)/\Own aj (w.heap.size+1) wr vo xs/\Hid (fq (Reads R0) (u::eO (kids.take k)) xs)/\Ext wb wr) (fun _ vk _=>rs.length-(intOf vk).toNat)
 case atStart=>exact⟨0,[⟨ra,ri,rn,rk,rl,fU,hn,hc,wA,wn,wc',kA,rs.length,kc⟩],bI _,rfl,Hz.out,ah (by simp only[List.take_zero,eO];exact⟨Hr0.out,trivial⟩),rA.out⟩
 case round=>
  clear c0 c1 c2 c3 c4 c5 c6 c7 Hz rA;obtain⟨k,xs,hk,rfl,hown,Hxs,hext⟩:=hrel;obtain⟨awc,c0,c1,c2,c3,c4,c5,c6,c7⟩:=Hb.out.ext hext;dsimp only at c0 c1 c2 c3 c4 c5 c6 c7;obtain⟨A0,cc0,rfl,-,-⟩:=hown.form;by_cases hlt:k<rs.length
  ·have hltk:k<kids.length:=by rw[<-Hrl.out];exact hlt
   obtain⟨q,hq⟩:=aH (rs[k]);obtain⟨b,off,lI,hbk,u0,u1,u2,u3,u4,u5,u6,u7⟩:=qb (yH.out.ext (H0.out.trans (jv.out.trans hext))) hlt hq;subst lI;have hkc:=uG.out k hltk hlt wr (jv.out.trans hext);rw[hq]at hkc;simp only[aB.cells]at hkc;have BH:=ah hkc;have GL:=ah (mV.out k hltk);have hle2:=Hle.out (k+1);rw[GL.out,eu]at hle2;have afo:=Hxs.out.length;simp only[iX]at afo;obtain⟨pk,hpk⟩:=aH (bO kids[k]);obtain⟨pp,hpp⟩:=aH (eO (kids.take k));rw[hpk]at BH GL hle2;rw[hpp]at GL hle2 afo Hxs;have hxb:xs.length<=1001:=by omega
   have e1:=eY k rs.length;have rY:=ah hown;have NV:=ah hext;have hz0:=hext.size;clear hkc hq hown hext afo hpk hpp;go_wp2_with fail
   refine(BH.out).mono ?_;rintro e w2 ⟨v2,ys,rfl,hown2,hys,hx2⟩;obtain⟨A2,c2',rfl,-,hsl2⟩:=hown2.form;have hyl:=hys.length;have J7:=ah (rY.out.ext hx2);have DY:=ah hys;have pK:=ah hsl2;have eD:=ah hx2;have hyb:ys.length<=1000:=by omega
   have hz2:=(NV.out.trans hx2).size;clear hown2 hys hsl2 hx2 hyl hle2 u0 u1 u2 u3 u4 u5 u6 u7 c0 c1 c2 c3 c4 c5 c6 c7;go_wp2_with (refine lq aj rfl (.tmp 14) (.tmp 20) rfl c2' rfl J7.out rfl pK.out (by omega) (by omega) ?_;intro v3 w3 h1 h2 h3)
   go_roundw
   case rel=>
    refine⟨k+1,_,by omega,by go_num,h1,ah ?_,(NV.out.trans eD.out).grown h2 hz2 fun g hg=> ?_⟩
    ·rw[GL.out,<-jE]
     exact fq.append Hxs.out DY.out
    ·have:=(J7.out.lt _ hg).1
     omega
   case measure=>simp[intOf];omega
  ·have e1:=fT k rs.length
   have hkn:k=kids.length:=by rw[<-Hrl.out];omega
   have SX:=ah (show fq (Reads R0) (bO u) xs by have h:=Hxs.out;rw[hkn,<-o7.out]at h;exact h);clear hkn;have rY:=ah hown;have NV:=ah hext;clear hown hext;go_wp2;go_ret;exact⟨_,xs,rfl,rY.out.mono (by omega),SX.out,jv.out.trans NV.out⟩
theorem Xa(R0:World):∀N,Zo R0 N
 |0=>fun _ _ _ h=>(xI h).elim
 |N+1=>afn R0 N (Xa R0 N)
theorem Zp(u:av)(r:aB)(R0 w:World)(hr:Reads R0 u r)(hok:dI u)(h0:Ext R0 w):Calls prog 9 #[.agg r.cells.toArray] w (K4 R0 w (bO u)):=Xa R0 _ u r w (aI _) hr hok h0
theorem IW:∀(us vs:List av),lF (us++vs)=lF us++lF vs
 |[],vs=>by rw[lF];rfl
 |u::us,vs=>by rw[jE,lF,lF,IW us vs,dV]
theorem afp(u:av):pJ u=u.head.map aJ.t++u.words.map aJ.t++lF u.kids:=by cases u;rw[pJ];rfl
mutual
theorem IX:∀u:av,iD Lj u->(pJ u).length<=600*cntF u
 |.mk a i n k l hd wd kids,h=>by
  rw[iD]at h;have h1:=IY kids h.2;obtain⟨-,h2,h3,-⟩:=h.1;simp only[av.head,av.words]at h2 h3;rw[pJ,cntF];simp only[eu,jA];omega
theorem IY:∀us:List av,gJ Lj us->(lF us).length<=600*bZ us
 |[],_=>by rw[lF];simp
 |u::us,h=>by
  rw[gJ]at h;have h1:=IX u h.1;have h2:=IY us h.2;rw[lF,bZ,eu];omega
end
theorem U6{kids:List av}(k:Nat):bZ (kids.take k)<=bZ kids:=by
 have:=qF (kids.take k) (kids.drop k);rw[jl]at this;omega
def SaidAt(N:Nat):Prop:=∀(u:av) (r:aB) (w:World),SizeOf.sizeOf u<=N->Reads w u r->dI u->Calls prog 23 #[.agg r.cells.toArray] w (Dw bP w (pJ u))
theorem ac4(N:Nat)(ih:SaidAt N):SaidAt (N+1):=by
 intro u r w hN hr hok;obtain⟨-,-,-,hhn,-,mU,hwn,-,hws,hkn,-,rs,hrs,hall,hrl⟩:=hr.j5;obtain⟨-,o2,o3,o4,-,-⟩:=hok.all.head;have Hh0:=ah (fun wq (he:Ext w wq)=>PU r.hA r.hc u.head wq (mU.ext he) (by omega));have Hw0:=ah (fun wq (he:Ext w wq)=>PU r.wA r.wc u.words wq (hws.ext he) (by omega));rw[<-hhn]at Hh0;rw[<-hwn]at Hw0;have uG:=ah (fun(k:Nat) (h:k<u.kids.length) (h3:k<rs.length) wq (he:Ext w wq)=>ih u.kids[k] rs[k] wq (qO hN h) (Reads.ext he _ _ (ReadsAll.get hall k h h3)) (hok.kid (dW h)))
 have Hlen:=ah (fun k=>(show(lF (u.kids.take k)).length<=600000 from by
  have h1:=IY (u.kids.take k) (gJ.of fun x hx=>(hok.kid (List.mem_of_mem_take hx)).all);have h2:=U6 (kids:=u.kids) k;have h3:=hok.cnt;have h4:=jR u;omega))
 have Hkl:=ah (fun(k:Nat) (h:k<u.kids.length)=>(show(pJ u.kids[k]).length<=600000 from by
  have h1:=IX _ (hok.kid (dW h)).all;have h2:=(hok.kid (dW h)).cnt;omega))
 have anQ:=ah (afp u);have FD:=ah (show r.kn=rs.length from by omega);have Hrl:=ah hrl;have hrn:rs.length<=1000:=by omega
 have yH:=ah hrs;clear hhn mU hwn hws hkn hall hrl o4 hN hr hok ih hrs;go_enter func23,ntmps23
 go_upto_region 1 with(refine aG aj (.tmp 0) rfl rfl r rfl fun wA aR bG bB aO=> ?_)
 have jr:=ah (fun W (he:Ext wA W)=>aO.ext he (ay bB));have lA:=ay bB;have Hx:=ah aR;have Hh:=ah (fun wq (he:Ext wA wq)=>Hh0.out wq (aR.trans he));have Hw:=ah (fun wq (he:Ext wA wq)=>Hw0.out wq (aR.trans he));have jh:=ah (show∀wq,Ext wA wq->(aK [.int .i64 r.a,.int .i64 r.i,.int .i64 r.n,.int .i64 r.kind,.string r.label,.slice r.hA r.hn r.hc,.slice r.wA r.wn r.wc,.slice r.kA r.kn r.kc]).p (.pointer (some ⟨w.heap.size,0,none⟩)) wq from fun wq he=>⟨w.heap.size,0,rfl,bQ lA he.size,fun j y hy=>aO.ext he lA j y hy⟩);clear aR bG bB aO Hh0 Hw0;refine iJ 6 (fun i=>match i with|0=>aK [.slice r.hA r.hn r.hc]|1=>Ty.is (.slice r.hA r.hn r.hc)|2=>sJ bP wA.heap.size (u.head.map aJ.t)|3=>aK [.slice r.wA r.wn r.wc]|4=>Ty.is (.slice r.wA r.wn r.wc)|5=>sJ bP wA.heap.size (u.words.map aJ.t)|_=>Ty.any) (by kernel_rfl) (by kernel_rfl) (by kernel_rfl) (by decide) rfl ?_;intro v;refine⟨?_,?_,?_,?_,?_,?_,?_⟩
 ·exact fun wq hq _=>ak rfl (dB 30 3 (.tmp 1) rfl _ underlying30 _ rfl 1 sizeOf27 (by decide) [.int .i64 r.a,.int .i64 r.i,.int .i64 r.n,.int .i64 r.kind,.string r.label,.slice r.hA r.hn r.hc,.slice r.wA r.wn r.wc,.slice r.kA r.kn r.kc] ((jh.out _ hq)))
 ·rintro wq hq ⟨h0,-⟩;exact ak rfl (bW 27 (.tmp 5) rfl isAgg27 (c:=.slice r.hA r.hn r.hc) h0 rfl)
 ·rintro wq hq ⟨h0,-⟩
  change v 1=_ at h0;refine ak rfl ?_;refine fC 37 call37 _ _ rfl rfl [_] ⟨h0,trivial⟩ ?_;refine(Hh.out wq hq).mono ?_;rintro e w' ⟨v',rfl,ho,hx'⟩;exact⟨_,rfl,hx',ho.mono hq.size⟩
 ·exact fun wq hq _=>ak rfl (dB 30 4 (.tmp 1) rfl _ underlying30 _ rfl 1 sizeOf27 (by decide) [.int .i64 r.a,.int .i64 r.i,.int .i64 r.n,.int .i64 r.kind,.string r.label,.slice r.hA r.hn r.hc,.slice r.wA r.wn r.wc,.slice r.kA r.kn r.kc] ((jh.out _ hq)))
 ·rintro wq hq ⟨h0,-⟩;exact ak rfl (bW 27 (.tmp 8) rfl isAgg27 (c:=.slice r.wA r.wn r.wc) h0 rfl)
 ·rintro wq hq ⟨h0,h1,-⟩
  change v 4=_ at h0;refine ak rfl ?_;refine fC 37 call37 _ _ rfl rfl [_] ⟨h0,trivial⟩ ?_;refine(Hw.out wq hq).mono ?_;rintro e w' ⟨v',rfl,ho,hx'⟩;exact⟨_,rfl,hx',ho.mono hq.size⟩
 ·intro wq hq hT
  have k2:=hT 2 (by decide);change (sJ bP wA.heap.size (u.head.map aJ.t)).p (v 2) wq at k2;have k5:=hT 5 (by decide);change (sJ bP wA.heap.size (u.words.map aJ.t)).p (v 5) wq at k5;clear hT;simp only[List.drop_succ_cons,List.drop_zero,gH,dK,List.set_cons_succ,List.set_cons_zero,Nat.reduceAdd];generalize v 2=x2 at k2⊢;generalize v 5=x5 at k5⊢;obtain⟨A2,c2,rfl,-,hs2⟩:=Own.form k5;refine fK bP rfl (.tmp 7) (.tmp 10) rfl c2 rfl k2 (ys:=u.words.map aJ.t) rfl hs2 (by simp only[jA];omega) hq.size ?_;intro v3 w3 hown3 hb3 hg3;have AR:=ah hown3;have eU:=ah (hq.trans' hb3);clear k2 k5 hs2 hown3 hb3 hg3 hq Hh Hw jh;go_wp2
  go_loopw [3,4] (fun vo vk wr=>∃k:Nat,k<=rs.length/\vk=.int .i64 (k:Nat)/\Hid (Own bP wA.heap.size wr vo (u.head.map aJ.t++u.words.map aJ.t++lF (u.kids.take k)))/\Hid (Ext wA wr)) (fun _ vk _=>rs.length-(intOf vk).toNat)
  case atStart=>exact⟨0,bI _,rfl,ah (by rw[List.take_zero,lF,kY];exact AR.out),eU⟩
  case round=>
   clear AR eU;obtain⟨k,hk,rfl,HO,HX⟩:=hrel;obtain⟨A0,c0,rfl,-,-⟩:=HO.out.form;obtain⟨-,-,-,-,c7⟩:=o8 (jr.out wr HX.out);rw[FD.out]at c7;by_cases hlt:k<rs.length
   ·have f1:=eY k rs.length
    have hltk:k<u.kids.length:=by rw[<-Hrl.out];exact hlt
    obtain⟨b,off,lI,hbb,hcs⟩:=(yH.out.ext (Hx.out.trans HX.out)).at_ hlt;have BH:=ah (uG.out k hltk hlt wr (Hx.out.trans HX.out));obtain⟨q,hqq⟩:=aH (rs[k]);rw[hqq]at hcs BH;have jD:=ah (show At wr b (off+k*8) (aj.E q)from hcs);have HAe:=ah lI;have mV:=ah (show lF (u.kids.take (k+1))=lF (u.kids.take k)++pJ u.kids[k]from by rw[jk hltk,IW,lF,lF,kY]);have hl1:=Hlen.out k;have hl2:=Hkl.out k hltk;obtain⟨ys,hys⟩:=aH (pJ u.kids[k]);obtain⟨zs,hzs⟩:=aH (u.head.map aJ.t++u.words.map aJ.t++lF (u.kids.take k));have DR:=ah (show zs.length<=700000 from by rw[<-hzs];simp only[eu,jA];omega);have EH:=ah (show u.head.map aJ.t++u.words.map aJ.t++lF (u.kids.take (k+1))=zs++ys from by rw[mV.out,<-dV,hzs,hys]);rw[hys]at BH hl2;rw[hzs]at HO⊢;clear hcs hqq lI hys hzs hl1 mV;rw[HAe.out]at c7;go_wp2_with ((with_reducible refine au aj (.tmp 23) ?_ ?_ ?_ b (off+k*8) ?_ q ?_ ?_);rfl;rfl;rfl;rfl;exact jD.out)
    refine(BH.out).mono ?_;rintro e w2 ⟨v2,rfl,hown2,hx2⟩;obtain⟨A2,c2',rfl,-,hsl2⟩:=hown2.form;have J7:=ah (HO.out.ext hx2);have pK:=ah hsl2;have eD:=ah (HX.out.trans hx2);have hzl:=DR.out;have hsz:=(HX.out.trans hx2).size;clear hown2 hsl2 hx2 c7;go_wp2_with (at_builtin;refine fK bP rfl (.tmp 19) (.tmp 25) rfl c2' rfl J7.out (ys:=ys) rfl pK.out (by omega) (by omega) ?_;intro v3 w3 h1 h2 h3)
    go_roundw
    case rel=>exact⟨k+1,by omega,by go_num,ah (by rw[EH.out];exact h1),ah (eD.out.trans' h2)⟩
    case measure=>simp[intOf];omega
   ·have f1:=fT k rs.length
    have hfin:u.head.map aJ.t++u.words.map aJ.t++lF (u.kids.take k)=pJ u:=by rw[gY (by rw[<-Hrl.out];omega),anQ.out]
    rw[hfin]at HO⊢;clear hfin;go_wp2;go_ret;exact⟨_,rfl,HO.out.mono Hx.out.size,Hx.out.trans HX.out⟩
theorem U7:∀N,SaidAt N
 |0=>fun _ _ _ h=>(xI h).elim
 |N+1=>ac4 N (U7 N)
def Ql(w:World)(x:qo)(e:Ending)(w':World):Prop:=∃A c,e=.returned (.slice A (jQ x).length c)/\(jQ x).length<=c/\Sl bP w' A (jQ x)/\Ext w w'
theorem Zq(x:qo)(q:bE)(w:World)(hq:gF w x q)(hok:dI x.unit):Calls prog 10 #[.agg q.cells.toArray] w (Ql w x):=by
 have Hs:=ah (fun wq (he:Ext w wq)=>U7 _ x.unit q.u wq (aI _) (Reads.ext he _ _ hq.unit) hok);have Hk:=ah hq.kind;have Hn:=ah (fun wq (he:Ext w wq)=>And.intro hq.nN (And.intro hq.nC (hq.nS.ext he)));unfold Ql;obtain⟨W,hW⟩:=aH (jQ x);have HW:=ah (show W=(if x.kind=0 then pJ x.unit else if x.kind=2∨x.kind=3∨x.kind=4 then x.iE else [])from by rw[<-hW];rfl);rw[hW];clear hq hok hW;go_enter func10,ntmps10
 go_upto_region 1 with(refine aG aT (.tmp 0) rfl rfl q rfl fun wA aR bG bB aO=> ?_)
 obtain⟨⟨c0,-,-,-,-⟩,⟨-,c14,-,-⟩,-⟩:=kU aO;have jr:=ah (nH aO);have Hx:=ah aR;have wQ:=ah (Hs.out wA aR);clear aR bG bB aO Hs
 have tail:q.kind≠0->q.kind≠2->q.kind≠3->q.kind≠4->W=[]:=fun h1 h2 h3 h4=>by
  rw[HW.out,<-Hk.out,aU h1,aU (fun h=>h.elim h2 (fun h=>h.elim h3 h4))]
 have new:q.kind=2∨q.kind=3∨q.kind=4->W=x.iE:=fun h=>by
  rw[HW.out,<-Hk.out,aU (by rcases h with h|h|h<;>rw[h]<;>decide),bH h]
 have zero:q.kind=0->W=pJ x.unit:=fun h=>by rw[HW.out,<-Hk.out,bH h]
 have HT:=ah tail;have HN:=ah new;have HZ:=ah zero;clear tail new zero;by_cases k0:q.kind=0
 ·rw[k0]at c0
  have HE:=ah (HZ.out k0);clear k0;go_wp2_with ((with_reducible refine au aj (.tmp 7) ?_ ?_ ?_ w.heap.size 5 ?_ q.u ?_ ?_);rfl;rfl;rfl;rfl;exact jr.out)
  refine wQ.out.mono ?_;rintro e w2 ⟨v,rfl,hO,hx2⟩;obtain⟨A,c,rfl,hc,hs⟩:=hO.form;have HF:=ah (And.intro hc hs);clear hO hc hs;go_wp2;go_ret;rw[HE.out];exact⟨A,c,rfl,HF.out.1,HF.out.2,Hx.out.trans hx2⟩
 ·by_cases k4:q.kind=2∨q.kind=3∨q.kind=4
  ·have HE:=ah (HN.out k4)
   obtain⟨n1,n2,n3⟩:=Hn.out wA Hx.out;have HF:=ah (And.intro n1 (And.intro n2 n3));clear n1 n2 n3 k0;rcases k4 with k|k|k
   all_goals
    rw[k]at c0;clear k;go_wp2;go_ret;rw[HE.out];exact⟨q.nA,q.nC,by rw[<-HF.out.1];rfl,HF.out.2.1,HF.out.2.2,Hx.out⟩
  ·have HE:=ah (HT.out k0 (fun h=>k4 (.inl h)) (fun h=>k4 (.inr (.inl h))) (fun h=>k4 (.inr (.inr h))))
   have e0:(q.kind==0)=false:=by simp[k0]
   have e2:(q.kind==2)=false:=by simp;exact fun h=>k4 (.inl h)
   have e3:(q.kind==3)=false:=by simp;exact fun h=>k4 (.inr (.inl h))
   have e4:(q.kind==4)=false:=by simp;exact fun h=>k4 (.inr (.inr h))
   clear k0 k4;go_wp2;go_ret;rw[HE.out];exact⟨none,0,rfl,aI _,Sl.nil,Hx.out⟩
end Go.Proofs.YtgboomjahhnldaaGreatDoor
