/- A part of the proof of TopWritten, printed small: STreeW StripW StampFW. -/
import Derived.Test.YtgboomjahhnldaaGreatDoorZ27
import Derived.Test.YtgboomjahhnldaaGreatDoorZ04
set_option maxRecDepth 100000
set_option maxHeartbeats 25600000
set_option linter.all false
namespace Go.Proofs.YtgboomjahhnldaaGreatDoor
open Go.Proofs.Tryz Go.RowKit
section
variable {P:Program} {ρ:Operand->Value} {o:Oper} {w:World} {T:Value->World->Prop}
theorem aef(s f:Nat)(x:Operand)(ho:o.op=.fieldAddr s x f)(fs:Array Field)(hs:P.underlying s=some (.struct fs))(kF:Field)(hf:fs[f]? =some kF)(m:Nat)(hm:∀w,(sizeOf kF.type).run P w=.ok m w)(hm0:m≠0)
 (b off:Nat) (hx:ρ x=.pointer (some ⟨b,off,none⟩)) (h:T (.pointer (some ⟨b,off+kF.offset,none⟩)) w):bL P ρ o w T:=by
 have ea:((⟨b,off,none⟩:Addr).add kF.offset)=⟨b,off+kF.offset,none⟩:=by
  unfold Addr.add
  split
  ·rename_i h0;simp[h0]
  ·rfl
 refine eT (w':=w) (v:=.pointer (some ⟨b,off+kF.offset,none⟩)) ?_ (Ext.refl _) h;simp[execOp,ho,hx,Instr.fieldAt,run_underlying hs,hf,Instr.sureAddr,fieldPlace,hm,hm0,ea]
end
theorem Sl.iV{P:Program}{α:Type}{D:El P α}{w:World}{p:Nat->Bool}{A:Option Addr}{xs:List α}(h:Sl D (mask p w) A xs):Sl D w A xs:=h.cin (aZ.iV p w)
def TU(act item:Int)(N:Nat):Prop:=∀(u:av) (r:aB) (sb:Nat) (unit word:Int) (w:World),SizeOf.sizeOf u<=N->Reads (mask (fun k=>decide (k=sb)) w) u r->iD (qm 300 60) u->0<=unit->unit+cntF u<=1000000->0<=word->word+600*cntF u<=1000000000->
 w.heap[sb]? =some (.cells #[.int .i64 act,.int .i64 item,.int .i64 (unit),.int .i64 (word)] 205 (0,0))->
 Calls prog 160 #[.pointer (some ⟨sb,0,none⟩),.agg r.cells.toArray] w fun e w'=>∃r':aB,e=.returned (.agg r'.cells.toArray)/\pO sb w w'/\
  w'.heap[sb]? =some (.cells #[.int .i64 act,.int .i64 item,.int .i64 ((gK act item u (unit+1) word).2.1-1),.int .i64 ((gK act item u (unit+1) word).2.2)] 205 (0,0))/\Reads (mask (fresh w.heap.size) w') (gK act item u (unit+1) word).1 r'
theorem abH(act item:Int)(N:Nat)(ih:TU act item N):TU act item (N+1):=by
 intro u0 r sb unit word w hN hr hA hu0 hu1 hw0 hw1 hst;obtain⟨a,i,n,kd,lb,hl,wl,kids⟩:=u0;rw[Reads]at hr;rw[iD]at hA;rw[cntF]at hu1 hw1;obtain⟨⟨hl1,hl2,hl3⟩,hA⟩:=hA;obtain⟨⟨-,-,-,hkd,hlb⟩,⟨hhn,xH,mU⟩,⟨hwn,hwc,hws⟩,hkn,hkc,us,sO,hall⟩:=hr;have akO:=ay hst;obtain⟨ra,ri,rn,rk,rl,fU,hn,hc,wA,wn,wc,kA,kn,kc⟩:=r;dsimp only at hkn hkc sO hall hkd hlb hhn xH mU hwn hwc hws hl3;simp only[aB.cells];have CO:=ReadsAll.length hall;rw[<-CO]at hkn hkc hl3;subst hkn hlb hhn hwn hkd;have jo:=ah hall;have HA:=ah hA;have HN:=ah hN;have Fy:=ah CO;clear hall hA CO hN;obtain⟨R,hR⟩:=aH (gK act item (.mk a i n rk rl hl wl kids) (unit+1) word);rw[hR];rw[gK]at hR;have HR:=ah hR;clear hR;have hbx:=heap_alloc_new w (.cells #[.int .i64 ra,.int .i64 ri,.int .i64 rn,.int .i64 rk,.string rl,.slice fU hl.length hc,.slice wA wl.length wc,.slice kA us.length kc] 30)
 have t2:∀w',Ext w w'->w'.cell? ⟨sb,2,none⟩=some (.int .i64 unit):=fun w' he=>by
  have:=aK.cell (TT hst akO he) 2 _ rfl
  rwa[bV]at this
 have t2':=t2 _ (((Ext.refl w).alloc (.cells #[.int .i64 ra,.int .i64 ri,.int .i64 rn,.int .i64 rk,.string rl,.slice fU hl.length hc,.slice wA wl.length wc,.slice kA us.length kc] 30)).alloc (.cells #[.int .i64 0,.int .i64 0,.int .i64 0,.int .i64 0,.string ⟨#[]⟩,.slice none 0 0,.slice none 0 0,.slice none 0 0] 30));have hst':=((((Ext.refl w).alloc (.cells #[.int .i64 ra,.int .i64 ri,.int .i64 rn,.int .i64 rk,.string rl,.slice fU hl.length hc,.slice wA wl.length wc,.slice kA us.length kc] 30)).alloc (.cells #[.int .i64 0,.int .i64 0,.int .i64 0,.int .i64 0,.string ⟨#[]⟩,.slice none 0 0,.slice none 0 0,.slice none 0 0] 30)).block akO).trans hst;clear t2;go_enter func160,ntmps160
 go_wp2_with (first|(refine fV rfl 205 2 (.tmp 12) rfl _ underlying205 _ rfl 1 sizeOf3 (by decide) sb 0 rfl ?_)|(refine aP rfl 3 (.tmp 13) (.tmp 11) rfl sb 2 (.int .i64 (unit+1)) rfl rfl [.int .i64 (unit+1)] rfl sizeOf3 (by simp[Value.oneCell']) 205 _ hst' (by simp) ?_;intro w1 hw1 BA BD BF hs1 hbk1))
 have hB1:pO sb w w1:=(pO.dH (((Ext.refl w).alloc _).alloc _)).put (.inl rfl) hw1 BA BD BF hs1;have hb1:w1.heap[w.heap.size]? =some (.cells #[.int .i64 ra,.int .i64 ri,.int .i64 rn,.int .i64 rk,.string rl,.slice fU hl.length hc,.slice wA wl.length wc,.slice kA us.length kc] 30 (0,0)):=(hw1 _ (by omega)).trans ((heap_alloc_old _ _ (by simp)).trans hbx)
 have hr1:w1.heap[w.heap.size+1]? =some (.cells dU.cells.toArray 30 (0,0)):=by
  rw[hw1 _ (by omega)];have e:=heap_alloc_new (w.alloc (.cells #[.int .i64 ra,.int .i64 ri,.int .i64 rn,.int .i64 rk,.string rl,.slice fU hl.length hc,.slice wA wl.length wc,.slice kA us.length kc] 30)) (.cells dU.cells.toArray 30);rw[show(w.alloc (.cells #[.int .i64 ra,.int .i64 ri,.int .i64 rn,.int .i64 rk,.string rl,.slice fU hl.length hc,.slice wA wl.length wc,.slice kA us.length kc] 30)).heap.size=w.heap.size+1 from by simp]at e;exact e
 have hz1:w.heap.size+2<=w1.heap.size:=by rw[hs1];simp
 have yw:w1.heap[sb]? =some (.cells #[.int .i64 act,.int .i64 item,.int .i64 (unit+1),.int .i64 (word)] 205 (0,0)):=by rw[hbk1];simp
 clear hw1 BA BD BF hs1 hbk1 hbx hst' t2';have nO:=ah (show∀w',Ext w1 w'->_ from fun w' he=>TT yw (ay yw) he);refine iJ 14 (fun i=>match i with|0=>Ty.is (.pointer (some ⟨sb,0,none⟩))|1=>Ty.is (.pointer (some ⟨sb,0,none⟩))|2=>aK [.int .i64 act]|3=>Ty.is (.int .i64 act)|4=>Ty.is (.pointer (some ⟨sb,0,none⟩))|5=>Ty.is (.pointer (some ⟨sb,0,none⟩))|6=>aK [.int .i64 item]|7=>Ty.is (.int .i64 item)|8=>Ty.is (.pointer (some ⟨sb,0,none⟩))|9=>Ty.is (.pointer (some ⟨sb,0,none⟩))|10=>aK [.int .i64 (unit+1)]|11=>Ty.is (.int .i64 (unit+1))|12=>Ty.is (.agg #[.int .i64 act,.int .i64 item,.int .i64 (unit+1)])|13=>Ty.is (.pointer (some ⟨w.heap.size,0,none⟩))|_=>Ty.any) (by kernel_rfl) (by kernel_rfl) (by kernel_rfl) (by decide) rfl ?_;intro v;refine⟨?_,?_,?_,?_,?_,?_,?_,?_,?_,?_,?_,?_,?_,?_,?_⟩
 ·exact fun wq hq _=>ak rfl (aF (.tmp 0) rfl rfl rfl)
 ·rintro wq hq ⟨h0,-⟩;exact ak rfl (Bn (.tmp 14) rfl h0 rfl)
 ·rintro wq hq ⟨h0,-⟩;exact ak rfl (dB 205 0 (.tmp 15) rfl _ underlying205 _ rfl 1 sizeOf3 (by decide) [.int .i64 act,.int .i64 item,.int .i64 (unit+1),.int .i64 word] (by show(aK _).p (v 1) wq;rw[h0];exact nO.out _ hq))
 ·rintro wq hq ⟨h0,-⟩;exact ak rfl (bW 3 (.tmp 16) rfl isAgg3 (c:=.int .i64 act) h0 rfl)
 ·exact fun wq hq _=>ak rfl (aF (.tmp 0) rfl rfl rfl)
 ·rintro wq hq ⟨h0,-⟩;exact ak rfl (Bn (.tmp 18) rfl h0 rfl)
 ·rintro wq hq ⟨h0,-⟩;exact ak rfl (dB 205 1 (.tmp 19) rfl _ underlying205 _ rfl 1 sizeOf3 (by decide) [.int .i64 act,.int .i64 item,.int .i64 (unit+1),.int .i64 word] (by show(aK _).p (v 5) wq;rw[h0];exact nO.out _ hq))
 ·rintro wq hq ⟨h0,-⟩;exact ak rfl (bW 3 (.tmp 20) rfl isAgg3 (c:=.int .i64 item) h0 rfl)
 ·exact fun wq hq _=>ak rfl (aF (.tmp 0) rfl rfl rfl)
 ·rintro wq hq ⟨h0,-⟩;exact ak rfl (Bn (.tmp 22) rfl h0 rfl)
 ·rintro wq hq ⟨h0,-⟩;exact ak rfl (dB 205 2 (.tmp 23) rfl _ underlying205 _ rfl 1 sizeOf3 (by decide) [.int .i64 act,.int .i64 item,.int .i64 (unit+1),.int .i64 word] (by show(aK _).p (v 9) wq;rw[h0];exact nO.out _ hq))
 ·rintro wq hq ⟨h0,-⟩;exact ak rfl (bW 3 (.tmp 24) rfl isAgg3 (c:=.int .i64 (unit+1)) h0 rfl)
 ·rintro wq hq ⟨h0,h1,h2,-⟩
  change v 3=_ at h0;change v 7=_ at h1;change v 11=_ at h2;refine ak rfl ?_;exact Cx 26 [(0,_),(1,_),(2,_)] rfl [(0,.int .i64 act),(1,.int .i64 item),(2,.int .i64 (unit+1))] ⟨⟨rfl,h0⟩,⟨rfl,h1⟩,⟨rfl,h2⟩,trivial⟩ (fun w=>by go_simp) rfl
 ·rintro wq hq ⟨h0,h1,h2,h3,h4,h5,h6,h7,h8,h9,h10,h11,h12,-⟩;exact ak rfl (aef 30 0 (.tmp 3) rfl _ underlying30 _ rfl 3 sizeOf26 (by decide) w.heap.size 0 rfl rfl)
 ·intro wq hq hT
  have k12:=hT 12 (by decide);change v 12=_ at k12;have k13:=hT 13 (by decide);change v 13=_ at k13;clear hT;simp only[List.drop_succ_cons,List.drop_zero,gH,dK,List.set_cons_succ,List.set_cons_zero,Nat.reduceAdd];rw[k12];rw[k13];have hbq:=(hq.block (ay hb1)).trans hb1;have hrq:=(hq.block (ay hr1)).trans hr1;have YG:=(hq.block (ay yw)).trans yw;have hBq:pO sb w wq:=hB1.ext hq;have Rp:=bX hz1 hq.size;clear hb1 hr1 yw hB1 hz1 nO hq;go_wp2_with (refine aP rfl 26 (.tmp 27) (.tmp 26) rfl w.heap.size 0 (.agg #[.int .i64 act,.int .i64 item,.int .i64 (unit+1)]) rfl rfl [.int .i64 act,.int .i64 item,.int .i64 (unit+1)] rfl sizeOf26 (by simp[Value.oneCell']) 30 _ hbq (by simp) ?_;intro w2 hw2 uD uE uF hs2 hbk2;have f5:=(wO (r:=⟨act,item,unit+1,rk,rl,fU,hl.length,hc,wA,wl.length,wc,kA,us.length,kc⟩) (hbk2.trans (by simp[aB.cells]))).2.2.2.2.2.1;dsimp only at f5)
  have hB2:pO sb w w2:=hBq.put (.inr (aI _)) hw2 uD uE uF hs2;have hb2:w2.heap[w.heap.size]? =some (.cells (aB.cells ⟨act,item,unit+1,rk,rl,fU,hl.length,hc,wA,wl.length,wc,kA,us.length,kc⟩).toArray 30 (0,0)):=hbk2.trans (by simp[aB.cells]);have hr2:=(hw2 (w.heap.size+1) (by omega)).trans hrq;have lT:=(hw2 sb (by omega)).trans YG;have hz2:w.heap.size+2<=w2.heap.size:=by rw[hs2];exact Rp
  clear hw2 uD uE uF hs2 hbk2 hbq hrq YG hBq Rp;refine(WL sb act item (unit+1) word fU hc hl w2 (mU.cin (hB2.cin (by simp))).iV (by omega) lT (by omega) (by omega)).mono ?_;rintro e w3 ⟨v1,rfl,hown3,hB3,Od⟩;have hO3:=hown3.mono (base':=w.heap.size+2) hz2;obtain⟨A1,c1,rfl,hc1,-⟩:=hown3.form;have hml:(gB act item word (hl.map aJ.t)).length=hl.length:=by rw[kI,jA]
  obtain⟨MH,hMH⟩:=aH (gB act item word (hl.map aJ.t));rw[hMH]at hO3 hml hc1⊢;have HMH:=ah hMH;have Hml:=ah hml;have hb3:=(hB3.block w.heap.size (by omega) (by omega)).trans hb2;have hr3:=(hB3.block (w.heap.size+1) (by omega) (by omega)).trans hr2;have akQ:=hB2.trans hB3;have hz3:=bX hz2 hB3.size;clear hMH hml hown3 hB2 hB3 hb2 hr2 lT hz2 f5;go_wp2_with (first|(refine fV rfl 30 3 (.tmp 3) rfl _ underlying30 _ rfl 1 sizeOf27 (by decide) w.heap.size 0 rfl ?_)|(refine aP rfl 27 (.tmp 32) (.tmp 31) rfl w.heap.size 5 (.slice A1 MH.length c1) rfl rfl [.slice A1 MH.length c1] rfl sizeOf27 (by simp[Value.oneCell']) 30 _ hb3 (by simp[aB.cells]) ?_;intro w4 hw4 dP dQ dR hs4 eX;have f6:=(wO (r:=⟨act,item,unit+1,rk,rl,A1,MH.length,c1,wA,wl.length,wc,kA,us.length,kc⟩) (eX.trans (by simp[aB.cells]))).2.2.2.2.2.2.1;dsimp only at f6))
  have hB4:pO sb w w4:=akQ.put (.inr (aI _)) hw4 dP dQ dR hs4;have hb4:w4.heap[w.heap.size]? =some (.cells (aB.cells ⟨act,item,unit+1,rk,rl,A1,MH.length,c1,wA,wl.length,wc,kA,us.length,kc⟩).toArray 30 (0,0)):=eX.trans (by simp[aB.cells]);have hr4:=(hw4 (w.heap.size+1) (by omega)).trans hr3;have akR:=(hw4 sb (by omega)).trans Od;have yI:w.heap.size+2<=w4.heap.size:=by rw[hs4];exact hz3
  have hO4:Own aQ (w.heap.size+2) w4 (.slice A1 MH.length c1) MH:=hO3.keep fun k hk=>hw4 k (by have:=(hO3.lt k hk).1;omega);clear hw4 dP dQ dR hs4 eX hb3 hr3 Od akQ hz3 hO3;refine(WL sb act item (unit+1) (word+hl.length) wA wc wl w4 (hws.cin (hB4.cin (by simp))).iV (by omega) akR (by omega) (by omega)).mono ?_;rintro e w5 ⟨v1,rfl,hown5,zH,akS⟩;have FT:=hown5.mono (base':=w.heap.size+2) yI;have aeg:Own aQ (w.heap.size+2) w5 (.slice A1 MH.length c1) MH:=hO4.keep fun k hk=>zH.block k (hO4.lt k hk).2 (by have:=(hO4.lt k hk).1;omega);obtain⟨A2,c2,rfl,hc2,-⟩:=hown5.form;have hml:(gB act item (word+hl.length) (wl.map aJ.t)).length=wl.length:=by rw[kI,jA]
  obtain⟨MW,hMW⟩:=aH (gB act item (word+hl.length) (wl.map aJ.t));rw[hMW]at FT hml hc2⊢;have HMW:=ah hMW;have Hmw:=ah hml;have hb5:=(zH.block w.heap.size (by omega) (by omega)).trans hb4;have lY:=(zH.block (w.heap.size+1) (by omega) (by omega)).trans hr4;have akU:=hB4.trans zH;have FH:=bX yI zH.size;clear hMW hml hown5 hB4 zH hb4 hr4 akR yI f6 hO4
  go_wp2_with (first|(refine fV rfl 30 4 (.tmp 3) rfl _ underlying30 _ rfl 1 sizeOf27 (by decide) w.heap.size 0 rfl ?_)|(refine aP rfl 27 (.tmp 37) (.tmp 36) rfl w.heap.size 6 (.slice A2 MW.length c2) rfl rfl [.slice A2 MW.length c2] rfl sizeOf27 (by simp[Value.oneCell']) 30 _ hb5 (by simp[aB.cells]) ?_;intro w6 yh uI uJ uK hs6 Cb;have hB6:pO sb w w6:=(akU.put (.inr (aI _)) yh uI uJ uK hs6);have DJ:w.heap.size+2<=w6.heap.size:=(by rw[hs6];exact FH);have Hs6:=ah hs6;clear hs6;have akW:=sO.cin (hB6.cin (by simp));have f7:=(wO (r:=⟨act,item,unit+1,rk,rl,A1,MH.length,c1,A2,MW.length,c2,kA,us.length,kc⟩) (Cb.trans (by simp[aB.cells]))).2.2.2.2.2.2.2;dsimp only at f7)|
   (at_make;refine Oy aj rfl _ _ rfl _ _ rfl rfl us.length rfl rfl (by omega) DJ ?_;intro w7 LP AV akX;have Wy:=ah akX;clear akX;have f7':=(AV.cell (p:=⟨w.heap.size,7,none⟩) (by show w.heap.size<_;omega)).trans f7)|
   (refine K9 aj rfl (.tmp 42) (.tmp 44) rfl kc _ rfl rfl LP (akW.iV.ext AV) rfl ?_;intro w8 agG V8))
  have arT:w6.heap.size<w8.heap.size:=by have:=V8.size;have:=Wy.out;omega
  have agH:Own aj (w.heap.size+2) w8 (.slice (some ⟨w6.heap.size,0,none⟩) us.length us.length) us:=agG;have jL:Ext w6 w8:=AV.trans' (base:=w6.heap.size) ((Below.refl _ _).grown V8 (by have:=AV.size;omega) (fun k hk=>by cases hk;exact aI _));have hO6:Own aQ (w.heap.size+2) w6 (.slice A1 MH.length c1) MH:=aeg.keep fun k hk=>yh k (by have:=(aeg.lt k hk).1;omega);have JE:Own aQ (w.heap.size+2) w6 (.slice A2 MW.length c2) MW:=FT.keep fun k hk=>yh k (by have:=(FT.lt k hk).1;omega);obtain⟨gb,hgb⟩:∃gb,gb=w6.heap.size:=⟨_,rfl⟩;obtain⟨p,hp⟩:∃p:Nat->Bool,p=fun k=>decide (k<w.heap.size+2)||decide (k=gb):=⟨_,rfl⟩;have akZ:=hO6.ext jL;have ak0:=JE.ext jL;obtain⟨_,_,hv1,-,-,hsl1⟩:=akZ.kG (p:=p) (fun k hk hk2=>by have:=(hO6.lt k hk2).2;rw[hp];simp;omega);cases hv1
  obtain⟨_,_,hv2,-,-,hsl2⟩:=ak0.kG (p:=p) (fun k hk hk2=>by have:=(JE.lt k hk2).2;rw[hp];simp;omega);cases hv2
  have hb6:w6.heap[w.heap.size]? =some (.cells (aB.cells ⟨act,item,unit+1,rk,rl,A1,MH.length,c1,A2,MW.length,c2,kA,us.length,kc⟩).toArray 30 (0,0)):=Cb.trans (by simp[aB.cells]);have hb8:=(jL.block (k:=w.heap.size) (by omega)).trans hb6;have hr8:=(jL.block (k:=w.heap.size+1) (by omega)).trans ((yh (w.heap.size+1) (by omega)).trans lY);have ak1:=(jL.block (k:=sb) (by omega)).trans ((yh sb (by omega)).trans akS);have hB8:=hB6.ext jL;have hz8:=bX DJ jL.size;have av1:w.heap.size+2<=gb:=by omega
  have arU:gb<w8.heap.size:=by omega
  rw[<-hgb]at agH⊢;have uQ:=ah (show∀k,k<w.heap.size+2->p k=true from fun k hk=>by rw[hp];simp[hk]);have Jw:=ah (show p gb=true by rw[hp];simp);have Gl:=ah (show∀k,w.heap.size+2<=k->k≠gb->p k=false from fun k hk hk2=>by rw[hp];simp[hk2];omega);obtain⟨m2,hm2⟩:=aH (word+(hl.length:Int)+(wl.length:Int));have arV:0<=m2:=by omega
  have arW:m2+600*(bZ kids:Int)<=1000000000:=by omega
  have hn2:unit+1+(bZ kids:Int)<=1000000:=by omega
  have anp:w8.heap[sb]? =some (.cells #[.int .i64 act,.int .i64 item,.int .i64 (unit+1),.int .i64 (m2)] 205 (0,0)):=by rw[ak1,hm2]
  obtain⟨RK,hRK⟩:=aH (jP act item kids (unit+1+1) m2);have hR:=HR.out;rw[hm2,hRK,HMH.out,HMW.out]at hR;have HR':=ah hR;have HRK:=ah hRK;clear Hs6 Wy;clear HR hR hRK hp aeg FT hO6 JE akZ ak0 yh uI uJ uK Cb hb5 lY akS akU FH agG V8 arT LP AV f7 f7' jL hb6 ak1 hm2 hgb akW DJ hB6 hz8;clear w3 w4 w5 w7
  go_loopw [48] (fun i wr=>∃(k:Nat) (uk wk:Int) (done:List av) (rs:List aB),k<=us.length/\i=.int .i64 k/\0<=uk/\0<=wk/\uk+bZ (kids.drop k)<=1000000/\wk+600*bZ (kids.drop k)<=1000000000/\
   Hid ((done++(jP act item (kids.drop k) (uk+1) wk).1,(jP act item (kids.drop k) (uk+1) wk).2.1,(jP act item (kids.drop k) (uk+1) wk).2.2)=RK)/\wr.heap[sb]? =some (.cells #[.int .i64 act,.int .i64 item,.int .i64 (uk),.int .i64 (wk)] 205 (0,0))/\
   Own aj (w.heap.size+2) wr (.slice (some ⟨gb,0,none⟩) us.length us.length) (rs++us.drop k)/\wr.heap[w.heap.size]? =some (.cells (aB.cells ⟨act,item,unit+1,rk,rl,A1,MH.length,c1,A2,MW.length,c2,kA,us.length,kc⟩).toArray 30 (0,0))/\wr.heap[w.heap.size+1]? =some (.cells dU.cells.toArray 30 (0,0))/\
   Sl aQ (mask p wr) A1 MH/\Sl aQ (mask p wr) A2 MW/\Hid (ReadsAll (mask p wr) done rs)/\Hid (done.length=k)/\pO sb w wr/\gb<wr.heap.size) (fun i _=>us.length-(intOf i).toNat)
  case atStart=>exact⟨0,unit+1,m2,[],[],bI _,rfl,by omega,arV,hn2,arW,by unfold Hid;rw[List.drop_zero,jW,HRK.out],anp,by rw[List.drop_zero,jW];exact agH,hb8,hr8,hsl1,hsl2,ah (by rw[ReadsAll];trivial),ah rfl,hB8,arU⟩
  case round=>
   obtain⟨k,uk,wk,done,rs,hk,rfl,huk,hwk,arX,arY,HS,hstr,hown,hbr,hrr,hs1,hs2,yH,Hdl,hBr,hgr⟩:=hrel;have Hrl:=ah ((ReadsAll.length yH.out).trans Hdl.out);by_cases hlt:k<us.length
   ·have d1:=eY k us.length
    have hltk:k<kids.length:=by rw[<-Fy.out];exact hlt
    obtain⟨xs,hxs⟩:=aH (rs++us.drop k);have hxl:xs.length=us.length:=by rw[<-hxs,eu,Hrl.out,jV];omega
    have hltx:k<xs.length:=by rw[hxl];exact hlt
    obtain⟨q,hq⟩:=aH (us[k])
    have hxk:xs[k]=q:=by
     have e1:us.drop k=us[k]::us.drop (k+1):=iW hlt;subst hxs;rw[List.getElem_append_right (by rw[Hrl.out];exact aI _)];simp[Hrl.out,hq]
    have hown':Own aj (w.heap.size+2) wr (.slice (some ⟨gb,0,none⟩) xs.length us.length) xs:=by rw[hxl,<-hxs];exact hown
    obtain⟨_,_,Tp,-,ak3⟩:=hown'.form;cases Tp
    obtain⟨b,off,hbe,hbl,u0,u1,u2,u3,u4,u5,u6,u7⟩:=Gh ak3 hltx;simp only[Option.some.injEq,Addr.mk.injEq]at hbe;obtain⟨rfl,rfl,-⟩:=hbe;rw[hxk]at u0 u1 u2 u3 u4 u5 u6 u7;rw[bV]at u0 u1 u2 u3 u4 u5 u6 u7
    have hsub:SizeOf.sizeOf kids[k]<=N:=by
     have a1:=List.sizeOf_lt_of_mem (dW hltk);have a2:=HN.out;simp at a2;omega
    have hAk:=HA.out.get k hltk;have hck:=ZE hltk;have hbd:=FZ act item kids[k] (uk+1) wk hAk;have MG:=HS.out;rw[iW hltk,jP]at MG;have hrec:=ih kids[k] q sb uk wk wr hsub (Reads.cin (hBr.cin (by simp)) _ _ (hq▸ReadsAll.get jo.out k hltk hlt)) hAk huk (by omega) hwk (by omega) hstr;obtain⟨X,hX⟩:=aH (gK act item kids[k] (uk+1) wk);rw[hX]at hrec hbd MG;obtain⟨n1,aeh⟩:=aH (X.2.1);obtain⟨m1,aei⟩:=aH (X.2.2);obtain⟨u',hu'⟩:=aH (X.1);rw[aeh,aei,hu']at MG hrec;rw[aeh,aei]at hbd;obtain⟨arZ,ar0,ar1⟩:=hbd;have Hb1:=ah (show n1-1+bZ (kids.drop (k+1))<=1000000 by omega);have Hb2:=ah (show m1+600*bZ (kids.drop (k+1))<=1000000000 by omega);have Hb3:=ah (show 0<=n1-1 by omega);have Hb4:=ah (show 0<=m1 by omega);have yJ:=ah MG;have iY:=ah hrec;have Hxs:=ah hxs;have Hq:=ah hq;have rA:=ah hxl;have hgn:gb<wr.heap.size:=hgr;clear MG hX aeh aei hu' hsub hAk hck arZ ar0 ar1 arX arY HS hrec hxs hxk hxl hq huk hwk hown;go_wp2_with fail
    refine(iY.out).mono ?_;rintro e w2 ⟨r',rfl,hB2,lT,hrd⟩
    have agL:Own aj (w.heap.size+2) w2 (.slice (some ⟨gb,0,none⟩) xs.length us.length) xs:=hown'.keep fun g hg=>by
     cases hg
     exact hB2.block gb hgn (by omega)
    have hb2:=(hB2.block w.heap.size (by have:=hBr.size;omega) (by omega)).trans hbr;have hr2:=(hB2.block (w.heap.size+1) (by have:=hBr.size;omega) (by omega)).trans hrr;have hBz:=hBr.size;clear hbr hrr u0 u1 u2 u3 u4 u5 u6 u7 hown' ak3;go_wp2_with (refine nU aj rfl (.tmp 59) (.tmp 58) rfl gb us.length k (k*8) r' (.agg r'.cells.toArray) rfl rfl rfl rfl agL hltx ?_;intro w3 hw3 gQ gT gU hs3 hown3)
    have hrow3:Own aj (w.heap.size+2) w3 (.slice (some ⟨gb,0,none⟩) us.length us.length) ((rs++[r'])++us.drop (k+1)):=by
     have e1:us.drop k=us[k]::us.drop (k+1):=iW hlt
     have e2:xs.set k r'=(rs++[r'])++us.drop (k+1):=by
      rw[<-Hxs.out,e1,List.set_append_right _ _ (by rw[Hrl.out];exact aI _),Hrl.out,Nat.sub_self,List.set_cons_zero,dV];rfl
     rw[<-e2];have e3:=hown3;rw[rA.out]at e3;exact e3
    have Rq:aZ (mask p wr) (mask p w3):=aZ.keep (by rw[hs3];exact hB2.size) fun j hj ni=>by
     have h1:j≠gb:=by rintro rfl;rw[Jw.out]at ni;cases ni
     have h2:j≠sb:=by rintro rfl;rw[uQ.out j (by omega)]at ni;cases ni
     exact⟨(hw3 j h1).trans (hB2.block j hj h2),ni⟩
    have Rs:aZ (mask (fresh wr.heap.size) w2) (mask p w3):=aZ.keep (by rw[hs3];exact aI _) fun j hj ni=>by
     simp only[fresh,decide_eq_false_iff_not,Nat.not_lt]at ni;exact⟨hw3 j (by omega),Gl.out j (by omega) (by omega)⟩
    have adp:=ah (ReadsAll.snoc (ReadsAll.cin Rq _ _ yH.out) (Reads.cin Rs _ _ hrd));have hB3:pO sb w w3:=(hBr.trans hB2).put (.inr (by omega)) hw3 gQ gT gU hs3;have hb3:=(hw3 w.heap.size (by omega)).trans hb2;have hr3:=(hw3 (w.heap.size+1) (by omega)).trans hr2;have Od:=(hw3 sb (by omega)).trans lT;have hgz:gb<w3.heap.size:=by rw[hs3];exact bQ hgn hB2.size
    clear hw3 gQ gT gU hs3 hown3 agL hb2 hr2 hB2 lT hrd;go_wp2;go_roundw
    case rel=>exact⟨k+1,n1-1,m1,done++[u'],rs++[r'],by omega,by go_num,Hb3.out,Hb4.out,Hb1.out,Hb2.out,by unfold Hid;rw[dV,Int.sub_add_cancel];exact yJ.out,Od,hrow3,hb3,hr3,hs1.cin Rq,hs2.cin Rq,adp,ah (by rw[eu,Hdl.out];rfl),hB3,hgz⟩
    case measure=>simp[intOf];omega
   ·have d1:=fT k us.length
    have MG:=HS.out;rw[mH (by rw[<-Fy.out];omega),jP,kY]at MG;have hR:=HR'.out;rw[<-MG]at hR;have yJ:=ah hR;have hxl:rs++us.drop k=rs:=by rw[mH (by omega),kY]
    rw[hxl]at hown;have ak4:=ah (Hrl.out.trans (show k=us.length by omega));have hBz:=hBr.size;clear MG hR HS hxl
    go_wp2_with (first|(refine fV rfl 30 5 (.tmp 3) rfl _ underlying30 _ rfl 1 sizeOf28 (by decide) w.heap.size 0 rfl ?_)|(refine aP rfl 28 (.tmp 62) (.tmp 61) rfl w.heap.size 7 (.slice (some ⟨gb,0,none⟩) us.length us.length) rfl rfl [.slice (some ⟨gb,0,none⟩) us.length us.length] rfl sizeOf28 (by simp[Value.oneCell']) 30 _ hbr (by simp[aB.cells]) ?_;intro w2 hw2 uD uE uF hz2 hbk2;obtain⟨f0,f1,f2,f3,f4,f5,f6,f7⟩:=wO (r:=⟨act,item,unit+1,rk,rl,A1,MH.length,c1,A2,MW.length,c2,some ⟨gb,0,none⟩,us.length,us.length⟩) (hbk2.trans (by simp[aB.cells]));dsimp only at f0 f1 f2 f3 f4 f5 f6 f7;have ar2:=(hw2 (w.heap.size+1) (by omega)).trans hrr)|
     (refine aP rfl 30 (.tmp 4) (.tmp 63) rfl (w.heap.size+1) 0 (.agg (aB.cells ⟨act,item,unit+1,rk,rl,A1,MH.length,c1,A2,MW.length,c2,some ⟨gb,0,none⟩,us.length,us.length⟩).toArray) rfl rfl (aB.cells ⟨act,item,unit+1,rk,rl,A1,MH.length,c1,A2,MW.length,c2,some ⟨gb,0,none⟩,us.length,us.length⟩) rfl sizeOf30 (by simp[aB.cells,Value.oneCell']) 30 _ ar2 (by simp[dU,aB.cells]) ?_;intro w3 hw3 gQ gT gU hs3 jw))
    have hfin:w3.heap[w.heap.size+1]? =some (.cells (aB.cells ⟨act,item,unit+1,rk,rl,A1,MH.length,c1,A2,MW.length,c2,some ⟨gb,0,none⟩,us.length,us.length⟩).toArray 30 (0,0)):=by
     rw[jw];simp[aB.cells,dU]
    have hB2:pO sb w w2:=hBr.put (.inr (aI _)) hw2 uD uE uF hz2;have hB3:pO sb w w3:=hB2.put (.inr (by omega)) hw3 gQ gT gU hs3
    have hci:aZ (mask p wr) (mask (fresh w.heap.size) w3):=aZ.keep (by rw[hs3,hz2];exact aI _) fun j hj ni=>by
     have hnj:¬j<w.heap.size+2:=fun h=>by rw[uQ.out j h]at ni;cases ni
     exact⟨(hw3 j (by omega)).trans (hw2 j (by omega)),by simp[fresh];omega⟩
    have hown3:Own aj (w.heap.size+2) w3 (.slice (some ⟨gb,0,none⟩) rs.length us.length) rs:=by
     rw[ak4.out]
     exact hown.keep fun g hg=>by
      cases hg
      exact(hw3 gb (by omega)).trans (hw2 gb (by omega))
    obtain⟨_,_,hv3,hoc,-,aiP⟩:=hown3.kG (p:=fresh w.heap.size) (fun g hg _=>by simp[fresh];omega);cases hv3
    have ak5:rs.length=done.length:=ReadsAll.length yH.out;have Od:=(hw3 sb (by omega)).trans ((hw2 sb (by omega)).trans hstr);go_wp2
    (try simp only[Exit.inBlock,Exit.then])
    refine bodyPost_ret (kJ rfl _ _ (w.heap.size+1) _ rfl hfin) rfl ?_;have hRe:=yJ.out;subst hRe;refine⟨_,rfl,hB3,?_,?_⟩
    ·simp only
     rw[Int.add_sub_cancel];exact Od
    ·simp only
     rw[Reads];exact⟨⟨rfl,rfl,rfl,rfl,rfl⟩,⟨rfl,hc1,hs1.cin hci⟩,⟨rfl,hc2,hs2.cin hci⟩,by rw[<-ak5];exact ak4.out.symm,by rw[<-ak5];exact hoc,rs,aiP,ReadsAll.cin hci _ _ yH.out⟩
theorem TV(act item:Int):∀N,TU act item N
 |0=>fun u _ _ _ _ _ h=>by obtain⟨a,i,n,kd,lb,hl,wl,kids⟩:=u;simp at h
 |N+1=>abH act item N (TV act item N)
def Jh(l:List aJ):List aJ:=l.map fun x=>⟨x.t,0,0,0⟩
mutual
def Ir:av->av
 |.mk _ _ _ k l hd wd kids=>.mk 0 0 0 k l (Jh hd) (Jh wd) (stripL kids)
def stripL:List av->List av
 |[]=>[]
 |u::us=>Ir u::stripL us
end
theorem JR(act item:Int):∀(m:Int) (l:List ByteArray),(gB act item m l).map aJ.t=l
 |_,[]=>rfl
 |m,s::l=>by rw[gB,gX,JR act item (m+1) l]
theorem JU(l:List aJ):Jh l=(l.map aJ.t).map fun s=>⟨s,0,0,0⟩:=by
 unfold Jh;rw[List.map_map];rfl
theorem MI(act item m:Int)(l:List aJ):Jh (gB act item m (l.map aJ.t))=Jh l:=by rw[JU,JR,<-JU]
mutual
theorem VJ(act item:Int):∀(u:av) (n m:Int),Ir (gK act item u n m).1=Ir u
 |.mk a i c k l hl wl kids,n,m=>by
  rw[gK,Ir,Ir]
  try simp only
  rw[MI,MI,Iu act item kids]
theorem Iu(act item:Int):∀(us:List av) (n m:Int),stripL (jP act item us n m).1=stripL us
 |[],n,m=>by rw[jP]
 |u::us,n,m=>by
  rw[jP,stripL,stripL]
  try simp only
  rw[VJ act item u,Iu act item us]
end
mutual
theorem CW(act item:Int):∀(u:av) (n m:Int),cntF (gK act item u n m).1=cntF u
 |.mk _ _ c k l hl wl kids,n,m=>by
  rw[gK]
  try simp only
  rw[cntF,cntF,MJ act item kids]
theorem MJ(act item:Int):∀(us:List av) (n m:Int),bZ (jP act item us n m).1=bZ us
 |[],n,m=>by rw[jP]
 |u::us,n,m=>by
  rw[jP]
  try simp only
  rw[bZ,bZ,CW act item u,MJ act item us]
end
end Go.Proofs.YtgboomjahhnldaaGreatDoor
