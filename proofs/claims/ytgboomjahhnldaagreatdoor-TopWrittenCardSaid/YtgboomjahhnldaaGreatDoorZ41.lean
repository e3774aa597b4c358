/- A part of the proof of TopWritten, printed small: TTopW. -/
import Derived.Test.YtgboomjahhnldaaGreatDoorZ40
set_option maxRecDepth 100000
set_option maxHeartbeats 25600000
set_option linter.all false
namespace Go.Proofs.YtgboomjahhnldaaGreatDoor
open Go.Proofs.Tryz Go.RowKit
section
variable {P:Program} {α:Type} (D:El P α) {w:World} {A B:Option Addr} {xs ys:List α} {ρ:Operand->Value} {o:Oper}
theorem Own.made'{base n:Nat}(hn:n=w.heap.size)(hb:base<=w.heap.size):Own D base (w.alloc (.cells #[] D.e)) (.slice (Option.some ⟨n,0,none⟩) 0 0) []:=by
 subst hn;exact Own.made D hb
def Ot(base:Nat):Ty:=⟨fun v w=>∃A,v=.slice A 0 0/\Own D base w v ([]:List α),fun _ _ _ he ⟨A,h1,h2⟩=>⟨A,h1,h2.ext he⟩⟩
theorem Zr{base:Nat}(ho:o.op=.buildSlice D.t 0 #[])(hbase:base<=w.heap.size)(hr:∀w,(Instr.buildSlice D.t 0 #[]).run P w=.ok (.slice (some ⟨w.heap.size,0,none⟩) 0 0) (w.alloc (.cells #[] D.e)):=by intro w;first|(go_simp;rfl)|(change (Instr.buildSlice _ _ _).run _ w=_;go_simp;rfl)):bL P ρ o w (Ot D base).p:=by
 refine eT (w':=w.alloc (.cells #[] D.e)) (v:=.slice (some ⟨w.heap.size,0,none⟩) 0 0) ?_ ((Ext.refl _).alloc _) ⟨_,rfl,Own.made' D rfl hbase⟩;simp[execOp,ho,hr]
theorem VX(s x:Operand)(ho:o.op=.call {callee:=.builtin .append,args:= #[s,x],argTypes:= #[D.t,D.t]})(c base:Nat)(A:Option Addr)(hs:ρ s=.slice A 0 0)(hown:Own D base w (.slice A 0 0) ([]:List α))(hx:ρ x=.slice B ys.length c)
 (h2:Sl D w B ys) (hn:ys.length<=68719476736) (hbase:base<=w.heap.size):bL P ρ o w (sJ D base ys).p:=by
 have hr:=C9 D (xs:=([]:List α)) (A:=A) o.type c Sl.nil h2 (by simpa using hn);unfold bL execOp;simp only[ho,resolve,invoke,builtin,Sem.run_bind,Sem.run_pure,Result.andThen_ok,List.map_toArray,gX,List.map_nil,hs,hx];rcases hr with⟨h0,hr⟩|⟨h0,v',w',hr,hown',hext⟩
 ·subst h0
  have hr2:(Builtin.append_ #[D.t,D.t] o.type #[.slice A 0 0,.slice B ([]:List α).length c]).run P w=.ok (.slice A 0 0) w:=hr;simp only[hr2,Result.andThen_ok];exact⟨Ext.refl _,hown⟩
 ·have hr2:(Builtin.append_ #[D.t,D.t] o.type #[.slice A 0 0,.slice B ys.length c]).run P w=.ok v' w':=hr
  simp only[hr2,Result.andThen_ok];refine⟨hext,?_⟩;show Own D base w' v' ys;simpa using hown'.mono hbase
end
theorem afq{ρ:Operand->Value}{o:Oper}{w:World}{A:Option Addr}{ws:List ByteArray}(x lo hi:Operand)(ho:o.op=.slice bP.t x (some lo) (some hi) none)(c:Nat)(hx:ρ x=.slice A ws.length c)(j:Nat)(hlo:ρ lo=.int .i64 (j:Nat))(hhi:ρ hi=.int .i64 ((j:Nat)+1))(hsl:Sl bP w A ws)(s:ByteArray)(hs:ws[j]? =some s)(h3:ws.length<=c):bL prog ρ o w (Gg bP [s]).p:=by
 have hj:=(List.getElem?_eq_some_iff.1 hs).1;have hr:=run_slice_any bP (w:=w) (A:=A) (c:=c) ws.length j (j+1) c (some (.int .i64 (j:Nat))) (some (.int .i64 ((j:Nat)+1))) none rfl rfl rfl (by omega) (by omega) (aI _) h3;have hc:=Sl.cut bP hsl j (j+1) (by omega) (by omega) h3
 have e:(ws.drop j).take (j+1-j)=[s]:=by
  have h1:j+1-j=1:=by omega
  rw[h1,iW hj,(List.getElem?_eq_some_iff.1 hs).2];rfl
 rw[e]at hc;unfold bL execOp;simp only[ho,hx,hlo,hhi,Option.map_some,Option.map_none,Sem.run_bind,Sem.run_pure,hr,Result.andThen_ok];refine⟨Ext.refl _,?_⟩;have h1:j+1-j=1:=by omega
 rw[h1];exact⟨_,_,rfl,by simp only[List.length_singleton];omega,hc⟩
theorem aio{ρ:Operand->Value}{o:Oper}{w:World}{t:ByteArray}(x:Operand)(ho:o.op=.buildSlice 37 1 #[(0,x)])(h1:ρ x=.string t):bL prog ρ o w (Gg bP [t]).p:=by
 have hr:=Bw bP (.string t) t rfl (by decide) w
 exact eT (w':=w.alloc (.cells (bP.E t).toArray bP.e)) (v:=.slice (some ⟨w.heap.size,0,none⟩) 1 1) (by
  simp only[execOp,ho,List.map_toArray,gX,List.map_nil,h1];simp only[Sem.run_bind];rw[show bP.t=37 from rfl]at hr;rw[hr];rfl) ((Ext.refl w).alloc _) ⟨_,_,rfl,aI _,Sl.new bP (by simp[El.flat])⟩
theorem U8{q:dY}{v:Value}{w:World}(h:(aK (bF.E q)).p v w):(aK [.int .i64 q.act,.int .i64 q.item]).p v w:=by
 obtain⟨b,off,h1,h2,h3⟩:=h;refine⟨b,off,h1,h2,fun j u hu=>h3 j u ?_⟩
 match j,hu with
 |0,h=>exact h
 |1,h=>exact h
theorem afr{W:World}{b off:Nat}{q:dY}(h:At W b off (bF.E q)):At W b (off+3) (aT.E q.it):=fun j y hy=>by
 have h2:=h (3+j) y (by rw[Nat.add_comm];exact hy);rw[show off+3+j=off+(3+j)from by omega];exact h2
def Nr(g:aJ)(l:List dn):Prop:=∀d∈l,d.act=g.a->d.item=g.i->g.t∉jQ d.it.x
theorem Nr.snoc{g:aJ}{D:List dn}{n:Nat}(hn:n<D.length)(h:Nr g (D.take n))(h2:D[n].act=g.a->D[n].item=g.i->g.t∉jQ D[n].it.x):Nr g (D.take (n+1)):=by
 intro d hd;rw[jk hn]at hd;rcases List.mem_append.1 hd with hd|hd
 ·exact h d hd
 ·rw[List.mem_singleton.1 hd]
  exact h2
def Wrote(D:List dn)(u:av):Prop:=∀x∈bO u,∀g∈x.head++x.words,∃d∈D,d.act=g.a/\d.item=g.i/\g.t∈jQ d.it.x
theorem gD.wrote{ds D:List dn}{n:Nat}{u:av}(h:gD ds n u)(hs:ds.Sublist D):Wrote D u:=fun x hx g hg=>by
 have hr:=h.all _ (qG hx);rcases List.mem_append.1 hg with hg|hg
 ·obtain⟨d,h1,h2⟩:=hr.ha g hg
  exact⟨d,hs.subset h1,h2⟩
 ·obtain⟨d,h1,h2⟩:=hr.wa g hg
  exact⟨d,hs.subset h1,h2⟩
theorem VY{x:qo}(h:sM x):(jQ x).length<=600000:=by
 have h1:dI x.unit:=Bu (by decide) (by decide) h.u;have h2:=IX _ h1.all;have h3:=h1.cnt;have h4:=h.n;unfold jQ
 split
 ·omega
 ·split
  ·omega
  ·simp
theorem Ou(gs:List jJ)(rs:List nX)(A:Option Addr)(c:Nat)(day:Int)(purpose:ByteArray)(w:World)(hs:Sl lW w A rs)(hall:fq (jZ w) gs rs)(hn:gs.length<=9223372036854775807)(hbig:∀g∈gs,Rh g)(hT:kN w)(hT0:ou w)(hO:Ae w):
 Calls prog 3 #[.slice A rs.length c,.int .i64 day,.string purpose] w fun e w'=>e=.returned (.bool true)/\Ext w w':=by
 have HB:=ah (Zn w hT hT0 hO);have HF:=ah (fun wq (he:Ext w wq)=>aa0 gs rs A c purpose wq (hs.ext he) (hall.mono fun _ _ h=>h.cin (aZ.dH he)) hn hbig);have HC:=ah (fun wq (he:Ext w wq) (hok:rF gs 24)=>Ka (fun _=>false) WX gs rs A c purpose day w wq (ahF wq) he hs hall hok (hT.ext he) (U5 (hT.ext he) (hO.ext he)));have HE:=ah (fun wq (he:Ext w wq) (hok:rF gs 24)=>EL gs rs A c w wq he hs hall hok);clear hs hall hn hbig hT hT0 hO;go_enter func3,ntmps3
 go_wp2_with fail
 refine HB.out.mono ?_;rintro e w1 ⟨rfl,hx1⟩;have tq:=ah hx1;have H:=ah (HF.out w1 hx1);clear hx1 HB HF;go_wp2_with fail
 refine H.out.mono ?_;rintro e w2 ⟨b,rfl,hb,hx2⟩;have eD:=ah (tq.out.trans hx2);clear hx2 H;cases b with
 |false=>
  go_wp2;go_ret;exact⟨rfl,eD.out⟩
 |true=>
  have hok:=hb rfl;have H:=ah (HC.out w2 eD.out hok);have HE:=ah (fun wq (he:Ext w wq)=>HE.out wq he hok);have HOk:=ah (JI hok);have HDl:=ah (Ib hok);clear hb hok HC;go_wp2_with fail
  refine H.out.mono ?_;rintro e w3 ⟨w0,ds,u,r,rfl,-,hx3,hr,hI,-,hsub,-⟩;have Hr:=ah (Reads.cin (aZ.iV _ _) u r hr);have fI:=ah (hI.ok (aI _));have HW:=ah (hI.wrote hsub);have eU:=ah (eD.out.trans hx3);clear hx3 hr hI hsub H;obtain⟨D,hD⟩:=aH (gq gs);rw[hD]at HE HOk HDl HW;clear hD;go_wp2_with (first|(refine aL aj rfl rfl fun wG dL fF dM=> ?_)|(refine aD aj (.tmp 7) (.tmp 26) rfl rfl w3 w3.heap.size rfl r rfl _ _ dM rfl dL (aI _) fun w4 hx4 yI hk4 IL ho4=> ?_)|((with_reducible refine au aj (.tmp 7) ?_ ?_ ?_ w3.heap.size 0 ?_ r ?_ ?_);rfl;rfl;rfl;rfl;exact IL))
  have Hl4:=ah (ay hk4);have jr:=ah (fun W (he:Ext w4 W)=>IL.ext he (ay hk4));have mM:=ah hx4;have H:=ah (Q8 u r 40 w4 (Reads.ext hx4 u r Hr.out) (iD.mono (fun u h=>by obtain⟨a,i,n,k,l,hd,wd,kids⟩:=u;obtain⟨h1,h2,h3⟩:=h;exact⟨by omega,by omega,by omega⟩) u fI.out.LB) (by decide) (by decide));clear hx4 yI hk4 IL ho4 dL fF dM;refine H.out.mono ?_;obtain⟨fb,hfb⟩:=aH (zQ u 40);rw[hfb];clear hfb H;rintro e w5 ⟨rfl,hx5⟩;have mG:=ah (mM.out.trans hx5);have sW:=ah (fun W (he:Ext w5 W)=>jr.out W (hx5.trans he));clear hx5 jr mM;cases fb with
  |false=>
   go_wp2;go_ret;exact⟨rfl,eU.out.trans mG.out⟩
  |true=>
   have H:=ah (HE.out w5 (eU.out.trans mG.out));go_wp2_with fail
   refine H.out.mono ?_;rintro e w6 ⟨vD,xs,rfl,hx6,hOD,hAD⟩;obtain⟨AD,cD,rfl,-,hsD⟩:=hOD.form;have DU:=ah (mG.out.trans hx6);have Py:=ah hsD;have HAD:=ah hAD;have KE:=ah (sW.out w6 hx6);have H:=ah (Zp u r w3 w6 Hr.out fI.out DU.out);clear hx6 hOD hAD hsD HE sW;go_wp2_with ((with_reducible refine au aj (.tmp 7) ?_ ?_ ?_ w3.heap.size 0 ?_ r ?_ ?_);rfl;rfl;rfl;rfl;exact KE.out)
   refine H.out.mono ?_;rintro e w7 ⟨vU,us,rfl,hOU,hAU,hx7⟩;obtain⟨AU,cU,rfl,-,hsU⟩:=hOU.form;have HU:=ah hsU;have HAU:=ah hAU;have BP:=ah (DU.out.trans hx7);have Py:=ah (Py.out.ext hx7)
   have Fy:=ah (show us.length<=1000 by
    have h1:=hAU.length;have h2:=fI.out.cnt;rw[nW]at h1;omega)
   have rA:=ah (show D.length=xs.length from HAD.out.length.symm);have jo:=ah (eU.out.trans BP.out);obtain⟨B9,hB9⟩:=aH (w7.heap.size);have HB9:=ah (show B9<=w7.heap.size by omega);have asP:=ah (show w7.heap.size<=B9 by omega);clear hsU hAU hOU hx7 hB9 H KE mG DU tq eD;go_wp2
   go_loopw [10,11,12,13,14,15,16] (fun vk _ _ _ _ _ _ wr=>∃k:Nat,k<=us.length/\vk=.int .i64 (k:Nat)/\Hid (Ext w7 wr)) (fun vk _ _ _ _ _ _ _=>us.length-(intOf vk).toNat)
   case atStart=>exact⟨0,bI _,rfl,ah (Ext.refl _)⟩
   case round=>
    obtain⟨k,hk,rfl,HX⟩:=hrel;by_cases hlt:k<us.length
    ·have e1:=eY k us.length
     have CO:=Fy.out;have FW:k<(bO u).length:=by rw[<-HAU.out.length];exact hlt
     have hrx:Reads w3 (bO u)[k] us[k]:=HAU.out.get k FW hlt;have hWx:=HW.out (bO u)[k] (dW FW);have hox:=(fI.out.pre (dW FW)).all.head;obtain⟨x,hx⟩:=aH ((bO u)[k]);obtain⟨q,hq⟩:=aH (us[k]);have hq0:us[k]? =some q:=by rw[fP hlt,hq]
     rw[hx]at hrx hWx hox;rw[hq]at hrx;obtain⟨-,-,-,hhn,-,mU,hwn,-,hws,-⟩:=hrx.j5;obtain⟨-,o2,o3,-⟩:=hox;obtain⟨qa,qi,qn,qk,ql,hA,hn,hc,wA,wn,wc,kA,kn,kc⟩:=q;dsimp only at hhn mU hwn hws;obtain⟨hd,hhd⟩:=aH (x.head);obtain⟨wd,hwd⟩:=aH (x.words);rw[hhd]at hhn mU o2 hWx;rw[hwd]at hwn hws o3 hWx;subst hhn hwn;have Hq:=ah hq0;have Hhl:=ah (show hd.length<=300 from o2);have Rx:=ah (show wd.length<=300 from o3);have Hhs:=ah (fun wq (he:Ext w7 wq)=>mU.ext (BP.out.trans he));have BG:=ah (fun wq (he:Ext w7 wq)=>hws.ext (BP.out.trans he));have HWx:=ah hWx;clear FW hrx hWx hx hq hq0 mU hws o2 o3 hhd hwd;go_upto_region 13 with fail
     refine iJ 12 (fun i=>match i with|0=>Ot aQ B9|1=>Ty.is (.slice AU us.length cU)|2=>Ty.is (.int .i64 (k:Nat))|3=>aK [.int .i64 qa,.int .i64 qi,.int .i64 qn,.int .i64 qk,.string ql,.slice hA hd.length hc,.slice wA wd.length wc,.slice kA kn kc]|4=>aK [.slice hA hd.length hc]|5=>Ty.is (.slice hA hd.length hc)|6=>sJ aQ B9 hd|7=>Ty.is (.slice AU us.length cU)|8=>Ty.is (.int .i64 (k:Nat))|9=>aK [.int .i64 qa,.int .i64 qi,.int .i64 qn,.int .i64 qk,.string ql,.slice hA hd.length hc,.slice wA wd.length wc,.slice kA kn kc]|10=>aK [.slice wA wd.length wc]|11=>Ty.is (.slice wA wd.length wc)|_=>Ty.any) (by kernel_rfl) (by kernel_rfl) (by kernel_rfl) (by decide) rfl ?_;intro v;refine⟨?_,?_,?_,?_,?_,?_,?_,?_,?_,?_,?_,?_,?_⟩
     ·exact fun wq hq _=>ak rfl (Zr aQ rfl (bX HB9.out (HX.out.trans hq).size))
     ·exact fun wq hq _=>ak rfl (aF (.tmp 9) rfl rfl rfl)
     ·exact fun wq hq _=>ak rfl (aF (.tmp 10) rfl rfl rfl)
     ·rintro wq hq ⟨h0,h1,-⟩
      change v 1=_ at h0;change v 2=_ at h1;refine ak rfl ?_;exact iq aj (.tmp 41) (.tmp 42) rfl _ us cU h0 k h1 ((HU.out.ext (HX.out.trans hq))) ⟨qa,qi,qn,qk,ql,hA,hd.length,hc,wA,wd.length,wc,kA,kn,kc⟩ Hq.out
     ·rintro wq hq ⟨h0,-⟩;exact ak rfl (dB 30 3 (.tmp 43) rfl _ underlying30 _ rfl 1 sizeOf27 (by decide) [.int .i64 qa,.int .i64 qi,.int .i64 qn,.int .i64 qk,.string ql,.slice hA hd.length hc,.slice wA wd.length wc,.slice kA kn kc] (h0))
     ·rintro wq hq ⟨h0,-⟩;exact ak rfl (bW 27 (.tmp 44) rfl isAgg27 (c:=.slice hA hd.length hc) h0 rfl)
     ·rintro wq hq ⟨h0,h1,-⟩
      change (Ot aQ B9).p (v 0) wq at h0;change v 5=_ at h1;refine ak rfl ?_;obtain⟨A0,hv0,ho0⟩:=h0;rw[hv0]at ho0;exact VX aQ (.tmp 40) (.tmp 45) rfl hc B9 A0 hv0 ho0 h1 (Hhs.out wq (HX.out.trans hq)) (bX Hhl.out (by decide)) (bX HB9.out (HX.out.trans hq).size)
     ·exact fun wq hq _=>ak rfl (aF (.tmp 9) rfl rfl rfl)
     ·exact fun wq hq _=>ak rfl (aF (.tmp 10) rfl rfl rfl)
     ·rintro wq hq ⟨h0,h1,-⟩
      change v 7=_ at h0;change v 8=_ at h1;refine ak rfl ?_;exact iq aj (.tmp 47) (.tmp 48) rfl _ us cU h0 k h1 ((HU.out.ext (HX.out.trans hq))) ⟨qa,qi,qn,qk,ql,hA,hd.length,hc,wA,wd.length,wc,kA,kn,kc⟩ Hq.out
     ·rintro wq hq ⟨h0,-⟩;exact ak rfl (dB 30 4 (.tmp 49) rfl _ underlying30 _ rfl 1 sizeOf27 (by decide) [.int .i64 qa,.int .i64 qi,.int .i64 qn,.int .i64 qk,.string ql,.slice hA hd.length hc,.slice wA wd.length wc,.slice kA kn kc] (h0))
     ·rintro wq hq ⟨h0,-⟩;exact ak rfl (bW 27 (.tmp 50) rfl isAgg27 (c:=.slice wA wd.length wc) h0 rfl)
     ·intro wq hq hT
      have k6:=hT 6 (by decide);change (sJ aQ B9 hd).p (v 6) wq at k6;have k11:=hT 11 (by decide);change v 11=_ at k11;clear hT;simp only[List.drop_succ_cons,List.drop_zero,gH,dK,List.set_cons_succ,List.set_cons_zero,Nat.reduceAdd];generalize v 6=x6 at k6⊢;rw[k11];obtain⟨AH,cH,rfl,-,-⟩:=Own.form k6;refine fK aQ rfl (.tmp 46) (.tmp 51) rfl wc rfl k6 (ys:=wd) rfl (BG.out wq (HX.out.trans hq)) (by have h1:=Hhl.out;have h2:=Rx.out;omega) (bX HB9.out (HX.out.trans hq).size) ?_;intro vW wM hOW hbM hgM;have HXM:=ah ((HX.out.trans hq).trans' hbM asP.out);obtain⟨AW,cW,rfl,-,hsW⟩:=hOW.form;have Zt:(hd++wd).length<=600:=by rw[eu];have h1:=Hhl.out;have h2:=Rx.out;omega
      obtain⟨wl,hwl⟩:=aH (hd++wd);rw[hwl]at hsW HWx Zt⊢;have HW:=ah hsW;have Py:=ah (Py.out.ext HXM.out);have asQ:=ah Zt;clear k6 k11 hq hOW hbM hgM hsW hwl Hhs BG Hhl Rx Hq HX Zt;go_wp2
      go_loopw [12,13,14,15,16] (fun vk _ _ _ _ wr=>∃kw:Nat,kw<=wl.length/\vk=.int .i64 (kw:Nat)/\Hid (Ext wM wr)) (fun vk _ _ _ _ _=>wl.length-(intOf vk).toNat)
      case atStart=>exact⟨0,bI _,rfl,ah (Ext.refl _)⟩
      case round=>
       obtain⟨kw,hkw,rfl,HX⟩:=hrel;have Zt:=asQ.out;by_cases amX:kw<wl.length
       ·have e2:=eY kw wl.length
        obtain⟨g,hg⟩:=aH (wl[kw]);have Hg:=ah (show wl[kw]? =Option.some g by rw[fP amX,hg]);have HA:=ah (show∃d∈D,d.act=g.a/\d.item=g.i/\g.t∈jQ d.it.x from HWx.out g (by rw[<-hg];exact dW amX));clear hg;go_wp2
        go_loopw [13,14,15,16] (fun vf vn _ _ wr=>∃(n:Nat) (fd:Bool),n<=xs.length/\vn=.int .i64 (n:Nat)/\vf=.bool fd/\Hid (Ext wM wr)/\Hid (fd=false->Nr g (D.take n))) (fun _ vn _ _ _=>xs.length-(intOf vn).toNat)
        case atStart=>exact⟨0,false,bI _,rfl,rfl,HX,ah (fun _=>by intro d hd;simp at hd)⟩
        case round=>
         clear HX;obtain⟨n,fd,hn,rfl,rfl,HX,HN⟩:=hrel;have hxl:xs.length<=1536:=by rw[<-rA.out];exact HDl.out
         cases fd with
         |true=>
          by_cases U9:n<xs.length
          ·have e3:=eY n xs.length
           go_wp2;go_roundw
           case rel=>exact⟨kw+1,by omega,by go_num,HX⟩
           case measure=>simp[intOf];omega
          ·have e3:=fT n xs.length
           go_wp2;go_roundw
           case rel=>exact⟨kw+1,by omega,by go_num,HX⟩
           case measure=>simp[intOf];omega
         |false=>
          by_cases U9:n<xs.length
          ·have e3:=eY n xs.length
           have hnD:n<D.length:=by rw[rA.out];exact U9
           obtain⟨q,hq0⟩:=aH (xs[n]);have Hq0:=ah hq0;have Hq:=ah (show xs[n]? =Option.some q by rw[fP U9,hq0]);have qZ:=ah (show fH w D[n] q by rw[<-hq0];exact HAD.out.get n hnD U9);have HN2:=ah (fun h=>(HN.out rfl).snoc hnD h);have Pk:=ah (HOk.out D[n] (dW hnD));obtain⟨d,hdd⟩:=aH (D[n]);rw[hdd]at qZ HN2 Pk;clear hq0 hdd HN hnD;go_upto_region 21 with fail
           refine iw (by kernel_rfl) (fun i=>match i with|0=>Ty.is (.slice AD xs.length cD)|1=>Ty.is (.int .i64 (n:Nat))|2=>aK [.int .i64 q.act,.int .i64 q.item]|3=>aK [.int .i64 q.act]|4=>Ty.is (.int .i64 q.act)|5=>Ty.is (.slice AW wl.length cW)|6=>Ty.is (.int .i64 (kw:Nat))|7=>aK (aJ.cells g)|8=>aK [.int .i64 g.a,.int .i64 g.i,.int .i64 g.k]|9=>aK [.int .i64 g.a]|10=>Ty.is (.int .i64 g.a)|11=>Ty.is (.bool (decide ((q.act:Int)≠g.a)))|12=>Ty.is (.bool (decide ((q.act:Int)≠g.a)))|13=>fQ ((decide ((q.act:Int)≠g.a))=false) (Ty.is (.slice AD xs.length cD))|14=>fQ ((decide ((q.act:Int)≠g.a))=false) (Ty.is (.int .i64 (n:Nat)))|15=>fQ ((decide ((q.act:Int)≠g.a))=false) (aK [.int .i64 q.act,.int .i64 q.item])|16=>fQ ((decide ((q.act:Int)≠g.a))=false) (aK [.int .i64 q.item])|17=>fQ ((decide ((q.act:Int)≠g.a))=false) (Ty.is (.int .i64 q.item))|18=>fQ ((decide ((q.act:Int)≠g.a))=false) (Ty.is (.slice AW wl.length cW))|19=>fQ ((decide ((q.act:Int)≠g.a))=false) (Ty.is (.int .i64 (kw:Nat)))|20=>fQ ((decide ((q.act:Int)≠g.a))=false) (aK (aJ.cells g))|21=>fQ ((decide ((q.act:Int)≠g.a))=false) (aK [.int .i64 g.a,.int .i64 g.i,.int .i64 g.k])|22=>fQ ((decide ((q.act:Int)≠g.a))=false) (aK [.int .i64 g.i])|23=>fQ ((decide ((q.act:Int)≠g.a))=false) (Ty.is (.int .i64 g.i))|24=>fQ ((decide ((q.act:Int)≠g.a))=false) (Ty.is (.bool (decide ((q.item:Int)≠g.i))))|25=>Ty.is (.bool ((decide ((q.act:Int)≠g.a))||(decide ((q.item:Int)≠g.i))))|_=>Ty.any) (by kernel_rfl) rfl ?_;intro v;refine⟨?_,?_,?_,?_,?_,?_,?_,?_,?_,?_,?_,?_,?_,?_,?_,?_,?_,?_,?_,?_,?_,?_,?_,?_,?_,?_,?_⟩
           ·exact fun wq hq _=>ak rfl (aF (.tmp 8) rfl rfl rfl)
           ·exact fun wq hq _=>ak rfl (aF (.tmp 14) rfl rfl rfl)
           ·rintro wq hq ⟨h0,h1,-⟩
            change v 0=_ at h0;change v 1=_ at h1;refine ak rfl ?_;exact(iq bF (.tmp 69) (.tmp 70) rfl _ xs cD h0 n h1 (Py.out.ext (HX.out.trans hq)) q Hq.out).imp fun _ _ h=>U8 h
           ·rintro wq hq ⟨h0,-⟩;exact ak rfl (dB 44 0 (.tmp 71) rfl _ underlying44 _ rfl 1 sizeOf3 (by decide) [.int .i64 q.act,.int .i64 q.item] (h0))
           ·rintro wq hq ⟨h0,-⟩;exact ak rfl (bW 3 (.tmp 72) rfl isAgg3 (c:=.int .i64 q.act) h0 rfl)
           ·exact fun wq hq _=>ak rfl (aF (.tmp 11) rfl rfl rfl)
           ·exact fun wq hq _=>ak rfl (aF (.tmp 12) rfl rfl rfl)
           ·rintro wq hq ⟨h0,h1,-⟩
            change v 5=_ at h0;change v 6=_ at h1;refine ak rfl ?_;exact iq aQ (.tmp 74) (.tmp 75) rfl _ wl cW h0 kw h1 ((HW.out.ext (HX.out.trans hq))) g Hg.out
           ·rintro wq hq ⟨h0,-⟩;exact ak rfl (dB 48 1 (.tmp 76) rfl _ underlying48 _ rfl 3 sizeOf46 (by decide) [.string g.t,.int .i64 g.a,.int .i64 g.i,.int .i64 g.k] (h0))
           ·rintro wq hq ⟨h0,-⟩;exact ak rfl (dB 46 0 (.tmp 77) rfl _ underlying46 _ rfl 1 sizeOf3 (by decide) [.int .i64 g.a,.int .i64 g.i,.int .i64 g.k] (h0))
           ·rintro wq hq ⟨h0,-⟩;exact ak rfl (bW 3 (.tmp 78) rfl isAgg3 (c:=.int .i64 g.a) h0 rfl)
           ·rintro wq hq ⟨h0,h1,-⟩;exact ak rfl (eF .neq 3 3 (.tmp 73) (.tmp 79) rfl _ _ h0 h1 (Jo _ _ _) rfl)
           ·rintro wq hq ⟨h0,-⟩;exact ak rfl (aF (.tmp 80) rfl h0 rfl)
           ·rintro wq hq ⟨h0,-⟩
            change v 12=_ at h0;refine bg 12 false ((decide ((q.act:Int)≠g.a))) rfl (aV rfl h0) (fun hg=> ?_) (fun hg=> ?_)
            ·refine bL.gd (p:=(decide ((q.act:Int)≠g.a))=false) (T:=Ty.is (.slice AD xs.length cD)) ?_
             exact aF (.tmp 8) rfl rfl rfl
            ·intro hn;rw[hn]at hg;cases hg
           ·rintro wq hq ⟨h0,-⟩
            change v 12=_ at h0;refine bg 12 false ((decide ((q.act:Int)≠g.a))) rfl (aV rfl h0) (fun hg=> ?_) (fun hg=> ?_)
            ·refine bL.gd (p:=(decide ((q.act:Int)≠g.a))=false) (T:=Ty.is (.int .i64 (n:Nat))) ?_
             exact aF (.tmp 14) rfl rfl rfl
            ·intro hn;rw[hn]at hg;cases hg
           ·rintro wq hq ⟨h0,h1,h2,-⟩
            change ((decide ((q.act:Int)≠g.a))=false)->v 13=_ at h0;change ((decide ((q.act:Int)≠g.a))=false)->v 14=_ at h1;change v 12=_ at h2;refine bg 12 false ((decide ((q.act:Int)≠g.a))) rfl (aV rfl h2) (fun hg=> ?_) (fun hg=> ?_)
            ·refine bL.gd (p:=(decide ((q.act:Int)≠g.a))=false) (T:=aK [.int .i64 q.act,.int .i64 q.item]) ?_
             replace h0:=h0 hg;replace h1:=h1 hg;exact(iq bF (.tmp 82) (.tmp 83) rfl _ xs cD h0 n h1 (Py.out.ext (HX.out.trans hq)) q Hq.out).imp fun _ _ h=>U8 h
            ·intro hn;rw[hn]at hg;cases hg
           ·rintro wq hq ⟨h0,h1,-⟩
            change ((decide ((q.act:Int)≠g.a))=false)->(aK [.int .i64 q.act,.int .i64 q.item]).p (v 15) wq at h0;change v 12=_ at h1;refine bg 12 false ((decide ((q.act:Int)≠g.a))) rfl (aV rfl h1) (fun hg=> ?_) (fun hg=> ?_)
            ·refine bL.gd (p:=(decide ((q.act:Int)≠g.a))=false) (T:=aK [.int .i64 q.item]) ?_
             replace h0:=h0 hg;exact dB 44 1 (.tmp 84) rfl _ underlying44 _ rfl 1 sizeOf3 (by decide) [.int .i64 q.act,.int .i64 q.item] (h0)
            ·intro hn;rw[hn]at hg;cases hg
           ·rintro wq hq ⟨h0,h1,-⟩
            change ((decide ((q.act:Int)≠g.a))=false)->(aK [.int .i64 q.item]).p (v 16) wq at h0;change v 12=_ at h1;refine bg 12 false ((decide ((q.act:Int)≠g.a))) rfl (aV rfl h1) (fun hg=> ?_) (fun hg=> ?_)
            ·refine bL.gd (p:=(decide ((q.act:Int)≠g.a))=false) (T:=Ty.is (.int .i64 q.item)) ?_
             replace h0:=h0 hg;exact bW 3 (.tmp 85) rfl isAgg3 (c:=.int .i64 q.item) h0 rfl
            ·intro hn;rw[hn]at hg;cases hg
           ·rintro wq hq ⟨h0,-⟩
            change v 12=_ at h0;refine bg 12 false ((decide ((q.act:Int)≠g.a))) rfl (aV rfl h0) (fun hg=> ?_) (fun hg=> ?_)
            ·refine bL.gd (p:=(decide ((q.act:Int)≠g.a))=false) (T:=Ty.is (.slice AW wl.length cW)) ?_
             exact aF (.tmp 11) rfl rfl rfl
            ·intro hn;rw[hn]at hg;cases hg
           ·rintro wq hq ⟨h0,-⟩
            change v 12=_ at h0;refine bg 12 false ((decide ((q.act:Int)≠g.a))) rfl (aV rfl h0) (fun hg=> ?_) (fun hg=> ?_)
            ·refine bL.gd (p:=(decide ((q.act:Int)≠g.a))=false) (T:=Ty.is (.int .i64 (kw:Nat))) ?_
             exact aF (.tmp 12) rfl rfl rfl
            ·intro hn;rw[hn]at hg;cases hg
           ·rintro wq hq ⟨h0,h1,h2,-⟩
            change ((decide ((q.act:Int)≠g.a))=false)->v 18=_ at h0;change ((decide ((q.act:Int)≠g.a))=false)->v 19=_ at h1;change v 12=_ at h2;refine bg 12 false ((decide ((q.act:Int)≠g.a))) rfl (aV rfl h2) (fun hg=> ?_) (fun hg=> ?_)
            ·refine bL.gd (p:=(decide ((q.act:Int)≠g.a))=false) (T:=aK (aJ.cells g)) ?_
             replace h0:=h0 hg;replace h1:=h1 hg;exact iq aQ (.tmp 87) (.tmp 88) rfl _ wl cW h0 kw h1 ((HW.out.ext (HX.out.trans hq))) g Hg.out
            ·intro hn;rw[hn]at hg;cases hg
           ·rintro wq hq ⟨h0,h1,-⟩
            change ((decide ((q.act:Int)≠g.a))=false)->(aK (aJ.cells g)).p (v 20) wq at h0;change v 12=_ at h1;refine bg 12 false ((decide ((q.act:Int)≠g.a))) rfl (aV rfl h1) (fun hg=> ?_) (fun hg=> ?_)
            ·refine bL.gd (p:=(decide ((q.act:Int)≠g.a))=false) (T:=aK [.int .i64 g.a,.int .i64 g.i,.int .i64 g.k]) ?_
             replace h0:=h0 hg;exact dB 48 1 (.tmp 89) rfl _ underlying48 _ rfl 3 sizeOf46 (by decide) [.string g.t,.int .i64 g.a,.int .i64 g.i,.int .i64 g.k] (h0)
            ·intro hn;rw[hn]at hg;cases hg
           ·rintro wq hq ⟨h0,h1,-⟩
            change ((decide ((q.act:Int)≠g.a))=false)->(aK [.int .i64 g.a,.int .i64 g.i,.int .i64 g.k]).p (v 21) wq at h0;change v 12=_ at h1;refine bg 12 false ((decide ((q.act:Int)≠g.a))) rfl (aV rfl h1) (fun hg=> ?_) (fun hg=> ?_)
            ·refine bL.gd (p:=(decide ((q.act:Int)≠g.a))=false) (T:=aK [.int .i64 g.i]) ?_
             replace h0:=h0 hg;exact dB 46 1 (.tmp 90) rfl _ underlying46 _ rfl 1 sizeOf3 (by decide) [.int .i64 g.a,.int .i64 g.i,.int .i64 g.k] (h0)
            ·intro hn;rw[hn]at hg;cases hg
           ·rintro wq hq ⟨h0,h1,-⟩
            change ((decide ((q.act:Int)≠g.a))=false)->(aK [.int .i64 g.i]).p (v 22) wq at h0;change v 12=_ at h1;refine bg 12 false ((decide ((q.act:Int)≠g.a))) rfl (aV rfl h1) (fun hg=> ?_) (fun hg=> ?_)
            ·refine bL.gd (p:=(decide ((q.act:Int)≠g.a))=false) (T:=Ty.is (.int .i64 g.i)) ?_
             replace h0:=h0 hg;exact bW 3 (.tmp 91) rfl isAgg3 (c:=.int .i64 g.i) h0 rfl
            ·intro hn;rw[hn]at hg;cases hg
           ·rintro wq hq ⟨h0,h1,h2,-⟩
            change ((decide ((q.act:Int)≠g.a))=false)->v 17=_ at h0;change ((decide ((q.act:Int)≠g.a))=false)->v 23=_ at h1;change v 12=_ at h2;refine bg 12 false ((decide ((q.act:Int)≠g.a))) rfl (aV rfl h2) (fun hg=> ?_) (fun hg=> ?_)
            ·refine bL.gd (p:=(decide ((q.act:Int)≠g.a))=false) (T:=Ty.is (.bool (decide ((q.item:Int)≠g.i)))) ?_
             replace h0:=h0 hg;replace h1:=h1 hg;exact eF .neq 3 3 (.tmp 86) (.tmp 92) rfl _ _ h0 h1 (Jo _ _ _) rfl
            ·intro hn;rw[hn]at hg;cases hg
           ·rintro wq hq ⟨h0,h1,-⟩;exact ak rfl (ZB (.tmp 81) (.tmp 93) rfl rfl _ _ h0 (fun hgd=>h1 hgd) rfl)
           ·intro wq hq hT
            have k25:=hT 25 (by decide);change v 25=_ at k25;clear hT;simp only[List.drop_succ_cons,List.drop_zero,gH,dK,List.set_cons_succ,List.set_cons_zero,Nat.reduceAdd];rw[k25];have Eb:=ah (HX.out.trans hq);obtain⟨ob,qK⟩:=aH ((decide ((q.act:Int)≠g.a)||decide ((q.item:Int)≠g.i)));rw[qK];clear k25 hq HX;cases ob with
            |true=>
             have HN3:=ah (HN2.out (fun h1 h2=>by
              rw[qZ.out.act,qZ.out.item,h1,h2]at qK;simp at qK))
             clear qK;go_wp2;go_roundw
             case rel=>exact⟨n+1,false,by omega,by go_num,rfl,Eb,ah fun _=>HN3.out⟩
             case measure=>simp[intOf];omega
            |false=>
             clear qK;have H:=ah (Zq d.it.x q.it wq (qZ.out.it.it.cin (aZ.dH (jo.out.trans (HXM.out.trans Eb.out)))) (Bu (by decide) (by decide) Pk.out.one.u));have amZ:=ah (VY Pk.out.one);obtain⟨b,off,lI,hbb,hcs⟩:=(Py.out.ext Eb.out).at_ U9;rw[Hq0.out]at hcs;have jD:=ah (show At wq b (off+n*28+3) (aT.E q.it)from afr hcs);subst lI;clear hcs;go_wp2_with ((with_reducible refine au aT (.tmp 98) ?_ ?_ ?_ b (off+n*28+3) ?_ q.it ?_ ?_);rfl;rfl;rfl;rfl;exact jD.out)
             refine H.out.mono ?_;rintro e w8 ⟨AS,cS,rfl,TL,hsS,jL⟩;obtain⟨ws,hws⟩:=aH (jQ d.it.x);rw[hws]at TL hsS HN2 amZ⊢;have HcS:=ah TL;have HS:=ah hsS;have HX8:=ah (Eb.out.trans jL);clear TL hsS jL hws H jD Eb;go_wp2
             go_loopw [13,16] (fun vf vj wr=>∃(j:Nat) (fd:Bool),j<=ws.length/\vj=.int .i64 (j:Nat)/\vf=.bool fd/\Hid (Ext w8 wr)/\Hid (fd=false->g.t∉ws.take j)) (fun _ vj _=>ws.length-(intOf vj).toNat)
             case atStart=>exact⟨0,false,bI _,rfl,rfl,ah (Ext.refl _),ah (fun _=>by simp)⟩
             case round=>
              obtain⟨j,fd,hj,rfl,rfl,iF,HM⟩:=hrel;have HX:=ah (HX8.out.trans iF.out);have awd:=amZ.out;by_cases am1:j<ws.length
              ·have e4:=eY j ws.length
               obtain⟨s,hs⟩:=aH (ws[j]);have Hs:=ah (show ws[j]? =Option.some s by rw[fP am1,hs])
               have JK:=ah (show(fd||decide ([s]=[g.t]))=false->g.t∉ws.take (j+1)from fun h=>by
                rw[Bool.or_eq_false_iff]at h;rw[jk am1,oo,kX,hs];rintro(h1|h1)
                ·exact HM.out h.1 h1
                ·exact(of_decide_eq_false h.2) (by rw[h1]))
               clear hs HM;go_upto_region 26 with fail
               refine iw (by kernel_rfl) (fun i=>match i with|0=>Ty.is (.bool fd)|1=>Ty.is (.bool fd)|2=>fQ (fd=false) (Ty.is (.slice AS ws.length cS))|3=>fQ (fd=false) (Ty.is (.int .i64 (j:Nat)))|4=>fQ (fd=false) (Ty.is (.int .i64 (j:Nat)))|5=>fQ (fd=false) (Ty.is (.int .i64 ((j:Nat)+1)))|6=>fQ (fd=false) (Gg bP [s])|7=>fQ (fd=false) (Ty.is (.slice AW wl.length cW))|8=>fQ (fd=false) (Ty.is (.int .i64 (kw:Nat)))|9=>fQ (fd=false) (aK (aJ.cells g))|10=>fQ (fd=false) (aK [.string g.t])|11=>fQ (fd=false) (Ty.is (.string g.t))|12=>fQ (fd=false) (Gg bP [g.t])|13=>fQ (fd=false) (Ty.is (.bool (decide ([s]=[g.t]))))|14=>Ty.is (.bool (fd||(decide ([s]=[g.t]))))|15=>Ty.is (.bool (fd||(decide ([s]=[g.t]))))|_=>Ty.any) (by kernel_rfl) rfl ?_;intro v;refine⟨?_,?_,?_,?_,?_,?_,?_,?_,?_,?_,?_,?_,?_,?_,?_,?_,?_⟩
               ·exact fun wq hq _=>ak rfl (aF (.tmp 13) rfl rfl rfl)
               ·rintro wq hq ⟨h0,-⟩;exact ak rfl (aF (.tmp 107) rfl h0 rfl)
               ·rintro wq hq ⟨h0,-⟩
                change v 1=_ at h0;refine bg 1 false (fd) rfl (aV rfl h0) (fun hg=> ?_) (fun hg=> ?_)
                ·refine bL.gd (p:=fd=false) (T:=Ty.is (.slice AS ws.length cS)) ?_
                 exact aF (.tmp 15) rfl rfl rfl
                ·intro hn;rw[hn]at hg;cases hg
               ·rintro wq hq ⟨h0,-⟩
                change v 1=_ at h0;refine bg 1 false (fd) rfl (aV rfl h0) (fun hg=> ?_) (fun hg=> ?_)
                ·refine bL.gd (p:=fd=false) (T:=Ty.is (.int .i64 (j:Nat))) ?_
                 exact aF (.tmp 16) rfl rfl rfl
                ·intro hn;rw[hn]at hg;cases hg
               ·rintro wq hq ⟨h0,-⟩
                change v 1=_ at h0;refine bg 1 false (fd) rfl (aV rfl h0) (fun hg=> ?_) (fun hg=> ?_)
                ·refine bL.gd (p:=fd=false) (T:=Ty.is (.int .i64 (j:Nat))) ?_
                 exact aF (.tmp 16) rfl rfl rfl
                ·intro hn;rw[hn]at hg;cases hg
               ·rintro wq hq ⟨h0,h1,-⟩
                change (fd=false)->v 4=_ at h0;change v 1=_ at h1;refine bg 1 false (fd) rfl (aV rfl h1) (fun hg=> ?_) (fun hg=> ?_)
                ·refine bL.gd (p:=fd=false) (T:=Ty.is (.int .i64 ((j:Nat)+1))) ?_
                 replace h0:=h0 hg;exact eF .add 3 3 (.tmp 111) _ rfl _ _ h0 rfl (oF _ _ _ (by omega) (by omega)) rfl
                ·intro hn;rw[hn]at hg;cases hg
               ·rintro wq hq ⟨h0,h1,h2,h3,-⟩
                change (fd=false)->v 2=_ at h0;change (fd=false)->v 3=_ at h1;change (fd=false)->v 5=_ at h2;change v 1=_ at h3;refine bg 1 false (fd) rfl (aV rfl h3) (fun hg=> ?_) (fun hg=> ?_)
                ·refine bL.gd (p:=fd=false) (T:=Gg bP [s]) ?_
                 replace h0:=h0 hg;replace h1:=h1 hg;replace h2:=h2 hg;exact afq (.tmp 109) (.tmp 110) (.tmp 112) rfl cS h0 j h1 h2 (HS.out.ext (iF.out.trans hq)) s Hs.out HcS.out
                ·intro hn;rw[hn]at hg;cases hg
               ·rintro wq hq ⟨h0,-⟩
                change v 1=_ at h0;refine bg 1 false (fd) rfl (aV rfl h0) (fun hg=> ?_) (fun hg=> ?_)
                ·refine bL.gd (p:=fd=false) (T:=Ty.is (.slice AW wl.length cW)) ?_
                 exact aF (.tmp 11) rfl rfl rfl
                ·intro hn;rw[hn]at hg;cases hg
               ·rintro wq hq ⟨h0,-⟩
                change v 1=_ at h0;refine bg 1 false (fd) rfl (aV rfl h0) (fun hg=> ?_) (fun hg=> ?_)
                ·refine bL.gd (p:=fd=false) (T:=Ty.is (.int .i64 (kw:Nat))) ?_
                 exact aF (.tmp 12) rfl rfl rfl
                ·intro hn;rw[hn]at hg;cases hg
               ·rintro wq hq ⟨h0,h1,h2,-⟩
                change (fd=false)->v 7=_ at h0;change (fd=false)->v 8=_ at h1;change v 1=_ at h2;refine bg 1 false (fd) rfl (aV rfl h2) (fun hg=> ?_) (fun hg=> ?_)
                ·refine bL.gd (p:=fd=false) (T:=aK (aJ.cells g)) ?_
                 replace h0:=h0 hg;replace h1:=h1 hg;exact iq aQ (.tmp 114) (.tmp 115) rfl _ wl cW h0 kw h1 ((HW.out.ext (HX.out.trans hq))) g Hg.out
                ·intro hn;rw[hn]at hg;cases hg
               ·rintro wq hq ⟨h0,h1,-⟩
                change (fd=false)->(aK (aJ.cells g)).p (v 9) wq at h0;change v 1=_ at h1;refine bg 1 false (fd) rfl (aV rfl h1) (fun hg=> ?_) (fun hg=> ?_)
                ·refine bL.gd (p:=fd=false) (T:=aK [.string g.t]) ?_
                 replace h0:=h0 hg;exact dB 48 0 (.tmp 116) rfl _ underlying48 _ rfl 1 sizeOf9 (by decide) [.string g.t,.int .i64 g.a,.int .i64 g.i,.int .i64 g.k] (h0)
                ·intro hn;rw[hn]at hg;cases hg
               ·rintro wq hq ⟨h0,h1,-⟩
                change (fd=false)->(aK [.string g.t]).p (v 10) wq at h0;change v 1=_ at h1;refine bg 1 false (fd) rfl (aV rfl h1) (fun hg=> ?_) (fun hg=> ?_)
                ·refine bL.gd (p:=fd=false) (T:=Ty.is (.string g.t)) ?_
                 replace h0:=h0 hg;exact bW 9 (.tmp 117) rfl isAgg9 (c:=.string g.t) h0 rfl
                ·intro hn;rw[hn]at hg;cases hg
               ·rintro wq hq ⟨h0,h1,-⟩
                change (fd=false)->v 11=_ at h0;change v 1=_ at h1;refine bg 1 false (fd) rfl (aV rfl h1) (fun hg=> ?_) (fun hg=> ?_)
                ·refine bL.gd (p:=fd=false) (T:=Gg bP [g.t]) ?_
                 replace h0:=h0 hg;exact aio (.tmp 118) rfl h0
                ·intro hn;rw[hn]at hg;cases hg
               ·rintro wq hq ⟨h0,h1,h2,h3,-⟩
                change (fd=false)->(Gg bP [s]).p (v 6) wq at h0;change (fd=false)->(Gg bP [g.t]).p (v 12) wq at h1;change v 1=_ at h2;refine bg 1 false (fd) rfl (aV rfl h2) (fun hg=> ?_) (fun hg=> ?_)
                ·refine bL.gd (p:=fd=false) (T:=Ty.is (.bool (decide ([s]=[g.t])))) ?_
                 replace h0:=h0 hg;replace h1:=h1 hg;obtain⟨A1,c1,e1,-,s1⟩:=h0;obtain⟨A2,c2,e2,-,s2⟩:=h1;refine fC 11 call11 _ _ rfl rfl [_,_] ⟨e1,e2,trivial⟩ ?_;refine(aed A1 A2 c1 c2 [s] [g.t] wq s1 s2 (by simp)).mono ?_;rintro e w' ⟨rfl,m,rfl⟩;exact⟨_,rfl,(Ext.refl _).drewN m,rfl⟩
                ·intro hn;rw[hn]at hg;cases hg
               ·rintro wq hq ⟨h0,h1,-⟩;exact ak rfl (ZB (.tmp 108) (.tmp 120) rfl rfl _ _ h0 (fun hgd=>h1 hgd) rfl)
               ·rintro wq hq ⟨h0,h1,h2,h3,h4,h5,h6,h7,h8,h9,h10,h11,h12,CB,Q9,OD,h16,-⟩;exact ak rfl (jY (.tmp 121) rfl h0 rfl)
               ·intro wq hq hT
                have k15:=hT 15 (by decide);change v 15=_ at k15;clear hT;simp only[List.drop_succ_cons,List.drop_zero,gH,dK,List.set_cons_succ,List.set_cons_zero,Nat.reduceAdd];rw[k15];have iR:=ah (iF.out.trans hq);clear k15 hq HX iF;go_wp2;go_roundw
                case rel=>exact⟨j+1,_,by omega,by go_num,rfl,iR,JK⟩
                case measure=>simp[intOf];omega
              ·have e4:=fT j ws.length
               have HN3:=ah (show fd=false->Nr g (D.take (n+1))from fun h=>HN2.out (fun _ _=>by
                have h2:=HM.out h
                rwa[gY (by omega)]at h2))
               go_wp2;go_roundw
               case rel=>exact⟨n+1,fd,by omega,by go_num,rfl,HX,HN3⟩
               case measure=>simp[intOf];omega
          ·exfalso
           obtain⟨d,h1,h2,h3,h4⟩:=HA.out;have h5:=HN.out rfl;rw[gY (by rw[rA.out];omega)]at h5;exact h5 d h1 h2 h3 h4
       ·have e2:=fT kw wl.length
        have CO:=Fy.out;go_wp2;go_roundw
        case rel=>exact⟨k+1,by omega,by go_num,ah (HXM.out.trans HX.out)⟩
        case measure=>simp[intOf];omega
    ·have e1:=fT k us.length
     go_wp2;go_ret;exact⟨rfl,jo.out.trans HX.out⟩
end Go.Proofs.YtgboomjahhnldaaGreatDoor
