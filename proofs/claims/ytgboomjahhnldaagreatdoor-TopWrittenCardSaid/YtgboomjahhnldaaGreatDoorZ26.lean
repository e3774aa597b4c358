/- A part of the proof of TopWritten, printed small: TFmtP TFound TFindOne. -/
import Derived.Test.YtgboomjahhnldaaGreatDoorZ25
import Derived.Deep.CutBlock
import Derived.Deep.DeepCutAuto
import Derived.Test.YtgboomjahhnldaaGreatDoorZ12
set_option maxRecDepth 100000
set_option maxHeartbeats 25600000
set_option linter.all false
namespace Go.Proofs.YtgboomjahhnldaaGreatDoor
open Go.Proofs.Tryz Go.RowKit
def ad8(V:Prop)(w:World)(e:Ending)(w':World):Prop:=∃(A:Option Addr) (c:Nat) (xs:List ByteArray),e=.returned (.slice A xs.length c)/\xs.length<=c/\Sl bP w' A xs/\xs.length<=1000/\(∀s∈xs,s.size<=200000)/\(V->xs.length=1/\∀s∈xs,s.size<=130)/\Ext w w'
theorem ad9(u:av)(r:aB)(w:World)(hr:Reads w u r)(hok:dI u)(hT:kN w):Calls prog 209 #[.agg r.cells.toArray] w (ad8 (gG u) w):=by
 have nO:=ah (fun wq (he:Ext w wq)=>Mr u r wq (Reads.ext he u r hr) hok);have Hr:=ah (fun wq (he:Ext w wq)=>Reads.ext he u r hr);have HT:=ah (fun wq (he:Ext w wq)=>hT.ext he);have fI:=ah hok;obtain⟨V,hV⟩:∃V:Prop,gG u=V:=⟨_,rfl⟩;have HV:=ah (show V->gG u from by rw[<-hV];exact id);have HV':=ah (show gG u->V from by rw[<-hV];exact id);rw[hV];have HC:=ah (show V->cntF u=1 from by rw[<-hV];exact fun h=>by rw[jR,h.kids,bZ]);have hcn:=hok.cnt;clear hr hok hT hV;go_enter func209,ntmps209
 go_upto_region 1 with(refine aG aj (.tmp 0) rfl rfl r rfl fun wA aR bG bB aO=> ?_)
 have jr:=ah aO;have DZ:=ah (ay bB);have Hx:=ah aR;have y5:=ah (nO.out wA aR);clear aR bG bB aO nO;go_wp2_with (((with_reducible refine au aj (.tmp 1) ?_ ?_ ?_ w.heap.size 0 ?_ r ?_ ?_);rfl;rfl;rfl;rfl;exact jr.out))
 refine y5.out.mono ?_;rintro e w2 ⟨v,r2,rfl,hx2,hr2,hs2⟩;have iF:=ah (Hx.out.trans hx2);have Hv:=ah (Tn v r2 w2 (Reads.cin (aZ.iV _ w2) _ _ hr2) (PG fI.out hs2) (HT.out w2 iF.out));have wQ:=ah hs2;have eD:=ah hx2;clear hx2 hr2 hs2 y5;go_wp2_with fail
 refine Hv.out.mono ?_;rintro e w3 ⟨b,rfl,-,hb2,hx3⟩;have iR:=ah (iF.out.trans hx3);have Hb:=ah (show V->b=true from fun h=>hb2 ((HV.out h).strip wQ.out));have jq:=ah (jr.out.ext (eD.out.trans hx3) DZ.out);have arK:=ah (bQ DZ.out (eD.out.trans hx3).size);clear hb2 hx3 Hv jr;cases b with
 |false=>
  have HN:=ah (show V->False from fun h=>by have:=Hb.out h;cases this);go_wp2;go_ret;exact⟨none,0,[],rfl,bI _,Sl.nil,bI _,by simp,(fun h=>(HN.out h).elim),iR.out⟩
 |true=>
  obtain⟨C,hC⟩:∃C:Value,C=.func (.func 236) #[] #[.pointer (some ⟨w3.heap.size,0,none⟩),.pointer (some ⟨w3.heap.size+1,0,none⟩)]:=⟨_,rfl⟩;have hxa:Ext w3 ((w3.alloc (.cells #[.slice none 0 0] 37)).alloc (.cells #[.nilFunc] 267)):=((Ext.refl _).alloc _).alloc _
  have jO:((w3.alloc (.cells #[.slice none 0 0] 37)).alloc (.cells #[.nilFunc] 267)).heap[w3.heap.size+1]? =some (.cells #[.nilFunc] 267 (0,0)):=by
   have h:=heap_alloc_new (w3.alloc (.cells #[.slice none 0 0] 37)) (.cells #[.nilFunc] 267)
   rwa[show(w3.alloc (.cells #[.slice none 0 0] 37)).heap.size=w3.heap.size+1 from by simp]at h
  have hkB:((w3.alloc (.cells #[.slice none 0 0] 37)).alloc (.cells #[.nilFunc] 267)).heap[w3.heap.size]? =some (.cells #[.slice none 0 0] 37 (0,0)):=by
   have e:=((Ext.refl (w3.alloc (.cells #[.slice none 0 0] 37))).alloc (.cells #[.nilFunc] 267)).block (k:=w3.heap.size) (by simp);exact e.trans (heap_alloc_new w3 _)
  have hsz:((w3.alloc (.cells #[.slice none 0 0] 37)).alloc (.cells #[.nilFunc] 267)).heap.size=w3.heap.size+2:=by simp
  go_upto_region 6 with(refine aP rfl 267 (.tmp 4) (.tmp 9) rfl (w3.heap.size+1) 0 (.func (.func 236) #[] #[.pointer (some ⟨w3.heap.size,0,none⟩),.pointer (some ⟨w3.heap.size+1,0,none⟩)]) rfl rfl [.func (.func 236) #[] #[.pointer (some ⟨w3.heap.size,0,none⟩),.pointer (some ⟨w3.heap.size+1,0,none⟩)]] rfl sizeOf267 (by simp[Value.oneCell']) _ _ jO (by simp) ?_;intro w4 hw4 dP dQ dR hs4 eX)
  rw[<-hC]at eX;have rZ:w4.heap[w3.heap.size+1]? =some (.cells #[C] 267 (0,0)):=by rw[eX];simp
  have hx4:Ext w3 w4:=hxa.put (Nat.le_succ _) hw4 dP dQ dR hs4;have WA:w4.cell? ⟨w3.heap.size+1,0,none⟩=some C:=by simp only[World.cell?,rZ];rfl
  have Gr:w4.heap.size=w3.heap.size+2:=hs4.trans hsz
  have HL:=ah (show LI w3 w3.heap.size (w3.heap.size+1) (w3.heap.size+2) C V (.slice none 0 0) 0 w4 from
   ⟨hx4,(hw4 _ (by omega)).trans hkB,WA,by omega,[],Own.nil _,rfl,by simp,by simp⟩)
  have Hln:=ah (TK hC (HT.out w3 iR.out) (aI _) (Nat.lt_succ_self _) (Nat.lt_succ_self _) _ u r 0 (.slice none 0 0) 0 w4 (aI _) (Hr.out w3 iR.out) fI.out HL.out (by omega) (by omega) (by omega) (fun h=>⟨HV.out h,rfl⟩));have hE5:w4.cell? ⟨w3.heap.size+1,0,none⟩=some (.func (.func 236) #[] #[.pointer (some ⟨w3.heap.size,0,none⟩),.pointer (some ⟨w3.heap.size+1,0,none⟩)]):=by rw[WA,hC]
  have N9:=ah (jq.out.ext hx4 arK.out);obtain⟨cn,Tq⟩:=aH (cntF u);rw[Tq]at Hln HC hcn;clear Tq hC hw4 dP dQ dR hs4 eX rZ WA Gr hsz hkB jO hxa hx4 HL;go_wp2_with (((with_reducible refine au aj (.tmp 1) ?_ ?_ ?_ w.heap.size 0 ?_ r ?_ ?_);rfl;rfl;rfl;rfl;exact N9.out))
  refine Hln.out.mono ?_;rintro e w5 ⟨rfl,-,v',-,hL⟩;obtain⟨xs,hO,hxl,hx1,hx2⟩:=hL.row;obtain⟨A,c,rfl,hc,hs⟩:=hO.form;have cB:w5.cell? ⟨w3.heap.size,0,none⟩=some (.slice A xs.length c):=by simp[World.cell?,hL.blk]
  have mg:=ah (iR.out.trans hL.ext);have HF:=ah (show xs.length<=c/\Sl bP w5 A xs/\xs.length<=1000/\(∀s∈xs,s.size<=200000)/\(V->xs.length=1/\∀s∈xs,s.size<=130)from⟨hc,hs,by omega,hx1,fun h=>⟨by have:=HC.out h;omega,hx2 h⟩⟩);clear hL hO hxl hx1 hx2 hc hs;go_wp2;go_ret;obtain⟨f1,f2,f3,f4,f5⟩:=HF.out;exact⟨A,c,xs,rfl,f1,f2,f3,f4,f5,mg.out⟩
theorem WJ{M:Nat}:∀xs:List (List UInt8),(∀s∈xs,s.length<=M)->Lib.lens xs<=M*xs.length
 |[],_=>by simp[Lib.lens]
 |x::xs,h=>by
  have h1:=WJ xs fun s hs=>h s (by simp[hs]);have h2:=h x (by simp);simp only[Lib.lens,gX,List.sum_cons,iX,Nat.mul_succ]at h1⊢;omega
theorem abv(A:Option Addr)(c M:Nat)(xs:List ByteArray)(w:World)(hs:Sl bP w A xs)(hc:xs.length<=c)(h0:0<xs.length)(hn:xs.length<=1000)(hz:∀s∈xs,s.size<=M)(hM:M<=1000000):
 Calls prog 210 #[.slice A xs.length c,.string ⟨#[10]⟩] w fun e w'=>∃t:ByteArray,e=.returned (.string t)/\t.size<=(M+1)*xs.length/\Ext w w':=by
 obtain⟨x,r,rfl⟩:∃x r,xs=x::r:=by
  cases xs with
  |nil=>simp at h0
  |cons x r=>exact⟨x,r,rfl⟩
 have hlen:(Lib.join ((x::r).map (·.data.toList)) (⟨#[10]⟩:ByteArray).data.toList).length<=(M+1)*(x::r).length:=by
  have h1:=WJ (M:=M) ((x::r).map (·.data.toList)) (fun s hs=>by
   obtain⟨y,hy,rfl⟩:=List.mem_map.1 hs;simpa using hz y hy)
  rw[jA]at h1;rw[gX]at h1⊢;rw[Lib.join_length];have h2:(⟨#[10]⟩:ByteArray).data.toList.length=1:=rfl;rw[h2,jA,Nat.one_mul,Nat.succ_mul];simp only[iX]at h1⊢;omega
 have hb:(M+1)*(x::r).length<=1000001*1000:=Nat.mul_le_mul (by omega) hn;obtain⟨b,off,rfl,hb2,hcell⟩:=hs (by simp);refine(Tryz.strings_Join b off c (x::r) ⟨#[10]⟩ w (fun j y hy=> ?_) hb2 (by omega) hc (by omega)).mono fun e w' ⟨h1,h2⟩=>⟨_,h1,hlen,h2⟩;have:=hcell (j*1+0) (.string y) (bP.flat_get (x::r) j 0 y (.string y) hy rfl);simpa using this
theorem YB(u:av)(r:aB)(w:World)(hr:Reads w u r)(hok:dI u)(hT:kN w):Calls prog 181 #[.agg r.cells.toArray] w fun e w'=>∃(s:ByteArray) (x:Int),e=.returned (.tuple #[.string s,.int .i64 x])/\(gG u->x=0)/\Ext w w':=by
 have Hl:=ah (fun wq (he:Ext w wq)=>ad9 u r wq (Reads.ext he u r hr) hok (hT.ext he));obtain⟨V,hV⟩:∃V:Prop,gG u=V:=⟨_,rfl⟩;rw[hV]at Hl⊢;clear hr hok hT hV;go_enter func181,ntmps181
 go_upto_region 1 with(refine aG aj (.tmp 0) rfl rfl r rfl fun wA aR bG bB aO=> ?_)
 have jr:=ah aO;have Hx:=ah aR;have Fz:=ah (Hl.out wA aR);clear aR bG bB aO Hl;go_wp2_with (((with_reducible refine au aj (.tmp 1) ?_ ?_ ?_ w.heap.size 0 ?_ r ?_ ?_);rfl;rfl;rfl;rfl;exact jr.out))
 refine Fz.out.mono ?_;rintro e w2 ⟨A,c,xs,rfl,hc,hs,hn,hz,hv,hx2⟩;have iF:=ah (Hx.out.trans hx2);have Hs:=ah hs;have Hz:=ah hz;have Hv:=ah hv;clear hs hz hv hx2 Fz jr;by_cases h0:xs.length=0
 ·have HN:=ah (show V->False from fun h=>by have:=(Hv.out h).1;omega)
  have Hc:=ah hc;have hb:((xs.length:Int)==0)=true:=by simp[h0]
  clear hc hn h0;go_wp2;refine bodyPost_ret (results_tmp2 rfl _ _ _) rfl ?_;exact⟨_,_,rfl,(fun h=>(HN.out h).elim),iF.out⟩
 ·have hb:((xs.length:Int)==0)=false:=beq_false_of_ne (by omega)
  obtain⟨M,hM,hMz,hMv⟩:∃M,M<=200000/\(∀s∈xs,s.size<=M)/\(V->M=130):=by
   by_cases hV:V
   ·exact⟨130,by omega,(Hv.out hV).2,fun _=>rfl⟩
   ·exact⟨200000,aI _,Hz.out,fun h=>absurd h hV⟩
  have Hj:=ah (abv A c M xs w2 Hs.out hc (by omega) hn hMz (by omega));have HM:=ah (show V->(M+1)*xs.length<=131 from fun h=>by rw[hMv h,(Hv.out h).1];decide);have hMb:(M+1)*xs.length<=200001*1000:=Nat.mul_le_mul (by omega) hn;clear hc hn h0 hM hMz hMv;go_wp2_with fail
  refine Hj.out.mono ?_;rintro e w3 ⟨t,rfl,ht,hx3⟩;have e1:(⟨#[10]⟩:ByteArray).size=1:=rfl;have n1:¬9223372036854775807<t.size+1:=by omega
  have iR:=ah (iF.out.trans hx3);have HT:=ah (show V->t.size<=131 from fun h=>bX ht (HM.out h));obtain⟨s2,hs2⟩:∃s,t++⟨#[10]⟩=s:=⟨_,rfl⟩;have hsz:s2.size=t.size+1:=by rw[<-hs2,ByteArray.size_append,e1]
  clear ht hx3 hMb;by_cases hb:s2.size>16384
  ·have HN:=ah (show V->False from fun h=>by have:=HT.out h;omega)
   have d1:decide ((s2.size:Int)>16384)=true:=bJ (by omega);have d1':decide (16384<s2.size)=true:=bJ hb;clear hb hsz;go_wp2;refine bodyPost_ret (results_tmp2 rfl _ _ _) rfl ?_;exact⟨_,_,rfl,(fun h=>(HN.out h).elim),iR.out⟩
  ·have d1:decide ((s2.size:Int)>16384)=false:=aY (by omega)
   have d1':decide (16384<s2.size)=false:=aY hb;clear hb hsz;go_wp2;refine bodyPost_ret (results_tmp2 rfl _ _ _) rfl ?_;exact⟨_,_,rfl,(fun _=>rfl),iR.out⟩
theorem YC(u:av)(r:aB)(w:World)(hr:Reads w u r)(hok:dI u)(hT:kN w):Calls prog 118 #[.agg r.cells.toArray] w (ad3 (gG u/\u.id=q8) w):=by
 have Hf:=ah (fun wq (he:Ext w wq)=>YB u r wq (Reads.ext he u r hr) hok (hT.ext he));have Hb:=ah (fun wq (he:Ext w wq)=>Yp u r wq (Reads.ext he u r hr) hok (hT.ext he));have hkd:=hr.j5.2.1;obtain⟨V,hV⟩:∃V:Prop,(gG u/\u.id=q8)=V:=⟨_,rfl⟩;have HV:=ah (show V->gG u/\r.kind=2 from by rw[<-hV];exact fun h=>⟨h.1,hkd.trans h.1.kind⟩);rw[hV]at Hb⊢;clear hr hok hT hV hkd;go_enter func118,ntmps118
 go_upto_region 1 with(refine aG aj (.tmp 0) rfl rfl r rfl fun wA aR bG bB aO=> ?_)
 have jr:=ah (fun W (he:Ext wA W)=>aO.ext he (ay bB));have Hx:=ah aR;have l8:=ah (Hf.out wA aR);have TA:=ah aO;clear aR bG bB aO Hf;go_wp2_with (((with_reducible refine au aj (.tmp 1) ?_ ?_ ?_ w.heap.size 0 ?_ r ?_ ?_);rfl;rfl;rfl;rfl;exact TA.out))
 refine l8.out.mono ?_;rintro e w2 ⟨s,x,rfl,hx,hx2⟩;have iF:=ah (Hx.out.trans hx2);have Hxv:=ah hx;have pU:=ah (jr.out w2 hx2);have eD:=ah hx2;have Hb2:=ah (Hb.out w2 iF.out);clear hx hx2 l8 TA Hb;go_wp2_with (((with_reducible refine au aj (.tmp 1) ?_ ?_ ?_ w.heap.size 0 ?_ r ?_ ?_);rfl;rfl;rfl;rfl;exact pU.out))
 refine Hb2.out.mono ?_;rintro e w3 ⟨b,rfl,hb,hx3⟩;have iR:=ah (iF.out.trans hx3);have HbV:=ah hb;obtain⟨c3,-,-,-,-⟩:=o8 (jr.out w3 (eD.out.trans hx3));clear hb hx3 Hb2 pU;cases b with
 |false=>
  go_wp2;go_ret;exact⟨_,rfl,HbV.out,iR.out⟩
 |true=>
  by_cases hk:r.kind=0
  ·have hkb:(r.kind !=0)=false:=by simp[hk]
   have HN:=ah (show V->False from fun h=>by have:=(HV.out h).2;omega);clear hk;go_wp2
   all_goals
    go_ret;exact⟨_,rfl,(fun h=>(HN.out h).elim),iR.out⟩
  ·have hkb:(r.kind !=0)=true:=by simp[hk]
   by_cases hx0:x=0
   ·have hxb:(x==0)=true:=by simp[hx0]
    clear hk hx0;go_wp2
    all_goals
     go_ret;exact⟨_,rfl,(fun _=>by first|rfl|assumption),iR.out⟩
   ·have hxb:(x==0)=false:=by simp[hx0]
    have HN:=ah (show V->False from fun h=>hx0 (Hxv.out (HV.out h).1));clear hk hx0;go_wp2
    all_goals
     go_ret;exact⟨_,rfl,(fun h=>(HN.out h).elim),iR.out⟩
section
variable {P:Program} {α:Type} {w:World} {ops:Array Oper} {rest:List Oper} {o:Oper} {a:Act} {Q:Exit->Act->World->Prop}
theorem Qw(D:El P α)(x:Operand)(ho:o.op=.buildSlice D.t 1 #[(0,x)])(hw:Region.wanted o (yielded ops a.tmps)=true)(r:α)(v:Value)(hx:a.eval x=v)(hv:v.cells.toList=D.E r)(ZI:D.m<=16777216)(base:Nat)(hb:base<=w.heap.size)
 (h:∀w',Ext w w'->w'.heap.size=w.heap.size+1->Own D base w' (.slice (some ⟨w.heap.size,0,none⟩) 1 1) [r]->wpList P ops Q rest (a.put o.dst (.slice (some ⟨w.heap.size,0,none⟩) 1 1)) w'):wpList P ops Q (o::rest) a w:=by
 refine wpList_want hw fun K hK=> ?_;have hr:=Bw D v r hv ZI w;unfold Oper.wp;simp only[execOp,ho,List.map_toArray,gX,List.map_nil,hx];simp only[Sem.run_bind,hr,Result.andThen_ok,Sem.run_pure];exact hK _ _ (h _ ((Ext.refl w).alloc _) (by simp) (Own.lit D (xs:=[r]) hb (by simp) (by simp[El.flat])))
variable {α:Type} (D:El P α) {A:Option Addr} {xs:List α} {c:Nat}
theorem Oa(I:World->Prop)(hgd:o.guard=none)(x lo:Operand)(ho:o.op=.slice D.t x (some lo) none none)(hx:a.eval x=.slice A xs.length c)(L:Int)(hlo:a.eval lo=.int .i64 L)
 (hsl:∀W,I W->Sl D W A xs) (l:Nat) (hL:L=l) (h2:l<=xs.length) (h3:xs.length<=c)
 (h:∀A' ys c',Hid (ys=xs.drop l)->ys.length<=c'->(∀W,I W->Sl D W A' ys)->wpList P ops Q rest (a.put o.dst (.slice A' ys.length c')) w):wpList P ops Q (o::rest) a w:=by
 subst hL;refine wpList_plain hgd fun K hK=>sI D x (some lo) none none ho xs.length l xs.length c hx hlo rfl rfl h2 h3 (aI _) h3 (hK _ _ ?_);have:=h _ (xs.drop l) (c-l) rfl (by simp;omega) (fun W hW=>Sl.drop (hsl W hW) l c h2 h3)
 rwa[jV]at this
theorem PS{w W W':World}(he:Ext w W)(hb:Below w.heap.size W W'):Ext w W':=⟨hb.os.trans he.os,hb.tape.trans he.tape,hb.output.trans he.output,bX he.size hb.size,fun k hk=>(hb.block k hk).trans (he.block hk)⟩
end
def KN(w:World)(us:List av)(e:Ending)(w':World):Prop:=∃A c xs,e=.returned (.slice A xs.length c)/\xs.length<=c/\Sl aj w' A xs/\ReadsAll w' us xs/\Ext w w'
theorem abw(u:av)(r:aB)(l:List GStep)(AS:Option Addr)(cS:Nat)(w:World)(hs:Sl dG w AS l)(hn:l.length<=1000000)(hsz:∀s∈l,s.l.size<=1048576)(hb:yc l=false):
 Calls prog 146 #[.agg r.cells.toArray,.slice AS l.length cS] w (KN w (iO u l)):=by
 have hf:iO u l=[]:=by unfold iO;rw[aU (by rw[hb];simp)]
 rw[hf];have Ig:=ah (fun wq (he:Ext w wq)=>by have h:=AY AS cS l wq (hs.ext he) hn hsz;rw[hb]at h;exact h);clear hs hn hsz hb hf;go_enter func146,ntmps146
 go_upto_region 1 with(refine aG aj (.tmp 0) rfl rfl r rfl fun wA aR bG bB aO=> ?_)
 have hxb:Ext w (wA.alloc (.cells #[.slice AS l.length cS] 36)):=aR.alloc _;have hcb:(wA.alloc (.cells #[.slice AS l.length cS] 36)).cell? ⟨w.heap.size+1,0,none⟩=some (.slice AS l.length cS):=by rw[<-bG];simp
 obtain⟨wb,hwb⟩:=aH (wA.alloc (.cells #[.slice AS l.length cS] 36));rw[hwb]at hxb hcb⊢;have QH:=ah (Ig.out wb hxb);clear hwb aR bG bB aO Ig;go_wp2_with fail
 refine QH.out.mono ?_;rintro e w2 ⟨rfl,hx2⟩;have hx:=hxb.trans hx2;go_wp2;go_ret;exact⟨none,0,[],rfl,aI _,Sl.nil,trivial,hx⟩
def anl(u:av):List GStep->List av
 |[]=>[u]
 |s::r=>r.foldl kE (oh u s)
theorem found_eq{u:av}{l:List GStep}(h:yc l=true):iO u l=anl u l:=by
 unfold iO;rw[bH h];cases l<;>rfl
theorem abx{acc:List av}{j:Nat}(hj:j<acc.length)(st:GStep)(i:Nat):(kE (acc.take j) st++(acc[j].kids.take i).filter (jd · st)).length+1<=bZ acc:=by
 have h1:=nV (kE (acc.take j) st);have h2:=Ii st (acc.take j);have h3:=List.length_filter_le (jd · st) (acc[j].kids.take i);have h4:=nV acc[j].kids;have h5:=jR acc[j];have h6:=OA hj
 have h7:bZ (acc.take (j+1))<=bZ acc:=by
  have:=qF (acc.take (j+1)) (acc.drop (j+1));rw[jl]at this;omega
 rw[fu]at h3;rw[eu];omega
theorem aby{us:List av}{k:Nat}(h:k<us.length)(s:GStep):kE (us.take (k+1)) s=kE (us.take k) s++Yt s us[k]:=by
 unfold kE;rw[jk h,List.flatMap_append];simp
theorem VI{us:List av}{k:Nat}(h:k<us.length)(p:av->Bool):(us.take (k+1)).filter p=(us.take k).filter p++(if p us[k]=true then [us[k]]else []):=by
 rw[jk h,List.filter_append];cases hp:p us[k]<;>simp[hp]
theorem abz{l:List GStep}{k:Nat}(h:k<l.length)(x:List av):(l.take (k+1)).foldl kE x=kE ((l.take k).foldl kE x) l[k]:=by
 rw[jk h,List.foldl_append];rfl
theorem YD(u:av)(r:aB)(l:List GStep)(AS:Option Addr)(cS:Nat)(w:World)(hr:Reads w u r)(hok:dI u)(hs:Sl dG w AS l)(hlc:l.length<=cS)(hn:l.length<=1000000)(hsz:∀s∈l,s.l.size<=1048576)(hb:yc l=true):
 Calls prog 146 #[.agg r.cells.toArray,.slice AS l.length cS] w (KN w (iO u l)):=by
 have Ig:=ah (fun wq (he:Ext w wq)=>by have h:=AY AS cS l wq (hs.ext he) hn hsz;rw[hb]at h;exact h);go_enter func146,ntmps146
 go_upto_region 1 with(refine aG aj (.tmp 0) rfl rfl r rfl fun wA aR bG bB aO=> ?_)
 have hxb:Ext w (wA.alloc (.cells #[.slice AS l.length cS] 36)):=aR.alloc _;have aea:Ext wA (wA.alloc (.cells #[.slice AS l.length cS] 36)):=(Ext.refl wA).alloc _;have hcb:(wA.alloc (.cells #[.slice AS l.length cS] 36)).cell? ⟨w.heap.size+1,0,none⟩=some (.slice AS l.length cS):=by rw[<-bG];simp
 have hzb:(wA.alloc (.cells #[.slice AS l.length cS] 36)).heap.size=w.heap.size+2:=by simp;omega
 obtain⟨wb,hwb⟩:=aH (wA.alloc (.cells #[.slice AS l.length cS] 36));rw[hwb]at hxb aea hcb hzb⊢;have QH:=ah (Ig.out wb hxb);have jr:=ah (aO.ext aea (ay bB));have Hxb:=ah hxb;have Hzb:=ah hzb;clear hwb aR bG bB aO Ig aea hxb hzb;go_wp2_with fail
 refine QH.out.mono ?_;rintro e w2 ⟨rfl,hx2⟩;have lX:=Hxb.out.trans hx2;have c2:w2.cell? ⟨w.heap.size+1,0,none⟩=some (.slice AS l.length cS):=(hx2.cell (p:=⟨w.heap.size+1,0,none⟩) (by show w.heap.size+1<wb.heap.size;have:=Hzb.out;omega)).trans hcb;have pU:=ah (jr.out.ext hx2 (by have:=Hzb.out;omega));have Oc:=ah lX;have hsz2:w.heap.size+2<=w2.heap.size:=by have:=hx2.size;have:=Hzb.out;omega
 clear hcb hx2 QH jr lX
 go_upto_block 0 with fail
 have hx3:Ext w2 (w2.alloc (.cells #[.slice none 0 0] 28)):=(Ext.refl w2).alloc _;have hB3:(w2.alloc (.cells #[.slice none 0 0] 28)).heap[w2.heap.size]? =some (.cells #[.slice none 0 0] 28 (0,0)):=heap_alloc_new _ _;have hz3:(w2.alloc (.cells #[.slice none 0 0] 28)).heap.size=w2.heap.size+1:=by simp
 obtain⟨w3,hw3⟩:=aH (w2.alloc (.cells #[.slice none 0 0] 28));rw[hw3]at hx3 hB3 hz3⊢;obtain⟨B,hBe⟩:=aH (w2.heap.size);have HBe:=ah hBe;rw[hBe]at hB3 hz3 hsz2⊢;have c3:w3.cell? ⟨w.heap.size+1,0,none⟩=some (.slice AS l.length cS):=(hx3.cell (p:=⟨w.heap.size+1,0,none⟩) (by show w.heap.size+1<w2.heap.size;omega)).trans c2;have jq:=ah (pU.out.ext hx3 (by omega));have aky:=ah (Oc.out.trans hx3);have GY:=ah (hs.ext (Oc.out.trans hx3));have HI3:=ah (show FI w2 B (B+1) (.slice none 0 0) [] w3 from⟨hx3,hB3,[],Own.nil _,trivial⟩);have Hz3:=ah hz3;have Hr:=ah hr;have Gm:=ah hsz;have Hfe:=ah (found_eq (u:=u) hb);have sQ:=ah c2;have wQ:=ah (hs.ext Oc.out);have fI:=ah hok;clear hx3 hB3 hw3 hBe c2 pU hr hsz hb hz3 hok hs;have hB0:=ah HI3.out.blk;go_cut [] (fun wx=>∃(s:GStep) (rest:List GStep) (v:Value),Hid (l=s::rest)/\Hid (FI w2 B (B+1) v (oh u s) wx))
 case first=>
  by_cases h0:l.length=0
  ·have hl0:l=[]:=kM h0
   subst hl0;have d0:((([]:List GStep).length:Int)==0)=true:=rfl;go_wp2_with (first|((with_reducible refine au aj (.tmp 2) ?_ ?_ ?_ w.heap.size 0 ?_ r ?_ ?_);rfl;rfl;rfl;rfl;exact jq.out)|((with_reducible refine gP aj (.tmp 23) ?_ ?_ r (.agg (aj.E r).toArray) ?_ ?_ ?_ ?_);rfl;rfl;rfl;rfl;decide;intro w4 hx4 yI Er))
   go_ret;refine⟨_,1,[r],rfl,aI _,Er,?_,aky.out.trans hx4⟩;rw[Hfe.out];exact⟨Reads.ext (aky.out.trans hx4) _ _ Hr.out,trivial⟩
  ·have d0:((l.length:Int)==0)=false:=by simpa using h0
   have d1:=eY (0:Int) l.length;obtain⟨s,rest,hlE⟩:=List.exists_cons_of_ne_nil (fun h=>h0 (by rw[h];rfl):l≠[]);have Hs0:=ah (show l[0]? =some s from by rw[hlE];rfl);have agA:=ah (show l.drop 1=rest from by rw[hlE];rfl);have akz:=ah (show iO u l=rest.foldl kE (oh u s)from by rw[Hfe.out,hlE];rfl);have FY:=ah hlE;clear hlE;obtain⟨bS,oS,hAS,hbS,TL⟩:=GY.out.at_ (k:=0) (by omega);subst hAS
   have akA:At w3 bS oS (dG.E s):=by
    have e:l[0]'(by omega)=s:=by have:=Hs0.out;rw[fP (by omega)]at this;simpa using this
    rw[e]at TL;intro j y hy;have:=TL j y hy;simpa using this
   have arL:=ah akA;clear TL akA;go_wp2_with ((with_reducible refine au dG (.tmp 27) ?_ ?_ ?_ bS oS ?_ s ?_ ?_);rfl;rfl;rfl;rfl;exact arL.out)
   refine(PK s w3).mono ?_;rintro e w4 ⟨rfl,hx4⟩;have c4:w4.cell? ⟨w.heap.size+1,0,none⟩=some (.slice (some ⟨bS,oS,none⟩) l.length cS):=(hx4.cell (p:=⟨w.heap.size+1,0,none⟩) (by show w.heap.size+1<w3.heap.size;have:=Hz3.out;omega)).trans c3;have N9:=ah (jq.out.ext hx4 (by have:=Hz3.out;omega));have HI4:=ah (HI3.out.mono hx4);have akB:=ah (show B+1<=w4.heap.size from by have:=Hz3.out;have:=hx4.size;omega);have LM:=ah HI4.out.blk;obtain⟨N,hN⟩:=aH (ER s);rw[hN];have HN:=ah hN;clear c3 jq HI3 Hz3 hx4 hN;cases N with
   |true=>
    go_wp2_with (first|((with_reducible refine au aj (.tmp 2) ?_ ?_ ?_ w.heap.size 0 ?_ r ?_ ?_);rfl;rfl;rfl;rfl;exact N9.out)|((with_reducible refine Qw aj (.tmp 30) ?_ ?_ r (.agg (aj.E r).toArray) ?_ ?_ ?_ (B+1) ?_ ?_);rfl;rfl;rfl;rfl;decide;exact akB.out;intro w5 hx5 FH hown5;have rZ:=(hx5.block (ay LM.out)).trans LM.out)|(refine aP rfl 28 (.tmp 5) (.tmp 31) rfl B 0 (.slice (some ⟨w4.heap.size,0,none⟩) 1 1) rfl rfl [.slice (some ⟨w4.heap.size,0,none⟩) 1 1] rfl sizeOf28 (by simp[Value.oneCell']) 28 _ rZ (by simp) ?_;intro w6 yh uI uJ uK hs6 Cb))
    go_meet
    case rel=>
     refine⟨s,rest,.slice (some ⟨w4.heap.size,0,none⟩) 1 1,FY,ah ⟨Ext.put (HI4.out.ext.trans hx5) (b:=B) (by have:=HBe.out;omega) yh uI uJ uK hs6,by rw[Cb];simp,[r],?_,?_⟩⟩
     ·exact hown5.keep fun k hk=>yh k (fun h=>by
       subst h;have h1:=(hown5.lt k hk).1;omega)
     ·have e:oh u s=[u]:=by unfold oh;rw[bH HN.out]
      rw[e];exact⟨Reads.ext Oc.out _ _ Hr.out,trivial⟩
   |false=>
    have anm:=ah (TI (R0:=w2) (B:=B) (base:=B+1) (P:=w.heap.size+1) sQ.out (by have:=HBe.out;omega) wQ.out Hs0.out (by have:=HBe.out;omega) (Nat.lt_succ_self B) (SizeOf.sizeOf u) u r (.slice none 0 0) [] w4 (aI _) (Reads.ext Oc.out _ _ Hr.out) fI.out HI4.out akB.out (by have:=fI.out.cnt;simp;omega));go_wp2_with ((with_reducible refine au aj (.tmp 2) ?_ ?_ ?_ w.heap.size 0 ?_ r ?_ ?_);rfl;rfl;rfl;rfl;exact N9.out)
    refine anm.out.mono ?_;rintro e w5 ⟨rfl,-,v5,-,hI5⟩;go_wp2_with fail
    go_meet
    case rel=>
     refine⟨s,rest,v5,FY,ah ?_⟩;have e:oh u s=(bO u).filter (jd · s):=by unfold oh;rw[aU (by rw[HN.out];simp)]
     rw[e];exact hI5
 case rest=>
  obtain⟨s,rest,v,FY,HI⟩:=hcut;have hl1:1<=l.length:=by rw[FY.out];simp
  have akz:=ah (show iO u l=rest.foldl kE (oh u s)from by rw[Hfe.out,FY.out];rfl);have cw:wc.cell? ⟨w.heap.size+1,0,none⟩=some (.slice AS l.length cS):=(HI.out.ext.cell (p:=⟨w.heap.size+1,0,none⟩) (by show w.heap.size+1<w2.heap.size;have:=HBe.out;omega)).trans sQ.out;clear c3 jq GY HI3 Hz3 hB0 Hfe;go_wp2_with (refine Oa dG (fun W=>Ext w2 W) rfl (.tmp 32) (.const (.int .i64 1)) rfl rfl 1 rfl (fun W hW=>wQ.out.ext hW) 1 rfl hl1 hlc ?_;intro A1 ys c1 DY arM hs1)
  have hy:ys=rest:=by rw[DY.out,FY.out];rfl
  subst hy;have Jt:=ah hs1
  have hyl:ys.length<=1000000:=by have:l.length=ys.length+1:=by rw[FY.out];rfl
                                  omega
  clear cw hs1 DY arM FY
  go_loopw [35] (fun vk wr=>∃(k:Nat) (v1:Value),k<=ys.length/\vk=.int .i64 (k:Nat)/\Hid (FI w2 B (B+1) v1 ((ys.take k).foldl kE (oh u s)) wr)) (fun vk _=>ys.length-(intOf vk).toNat)
  case atStart=>exact⟨0,v,bI _,rfl,HI⟩
  case round=>
   clear HI;obtain⟨k,v1,hk,rfl,HI⟩:=hrel;by_cases hlt:k<ys.length
   ·have f1:=eY k ys.length
    obtain⟨acc,hacc⟩:=aH ((ys.take k).foldl kE (oh u s));have TM:=ah hacc;rw[hacc]at HI;have GH:=ah (show bZ acc<=1000000 from by rw[<-hacc];exact bX (Ij _ _) (Ms u s fI.out));have qE:=ah (show∀x∈acc,x∈bO u from by rw[<-hacc];exact KI _ _ (PO u s));clear hacc;obtain⟨bR,oR,hAR,hbR,hcR⟩:=(Jt.out wr HI.out.ext).at_ hlt;obtain⟨st,hst⟩:=aH (ys[k]);rw[hst]at hcR;have nO:=ah hst;have HcR:=ah (show At wr bR (oR+k*2) (dG.E st)from hcR);have HAR:=ah hAR;clear hcR hst hAR;rw[HAR.out];obtain⟨xs,hO,hA⟩:=HI.out.row;have hxl:=hA.length;obtain⟨Av,cv,rfl,-,YE⟩:=hO.form;have DT:=HI.out.blk;go_upto_region 13 with(first|((with_reducible refine au dG (.tmp 37) ?_ ?_ ?_ bR (oR+k*2) ?_ st ?_ ?_);rfl;rfl;rfl;rfl;exact HcR.out)|(refine aL dG rfl rfl fun wG dL fF dM=> ?_)|(refine aD dG (.tmp 7) (.tmp 38) rfl rfl wr wr.heap.size rfl st rfl _ _ dM rfl dL (aI _) fun w7 hx7 hz7 FR TN ho7=> ?_))
    have cB7:w7.cell? ⟨B,0,none⟩=some (.slice Av xs.length cv):=by
     rw[hx7.cell (p:=⟨B,0,none⟩) (ay DT)];simp[World.cell?,DT]
    have Gs:=ah ((hx7.block (ay DT)).trans DT);have arN:=ah (fun W (he:Ext w7 W)=>YE.ext (hx7.trans he));have Yr:=ah (fun W (he:Ext w7 W)=>TN.ext he (ay FR));have HA:=ah hA;have rA:=ah hxl;have H27:=ah (HI.out.ext.trans hx7);have hxn:xs.length<=1000000:=by have:=nV acc;have:=GH.out;omega
    clear hO YE DT hA hxl dL fF dM hz7 FR TN ho7 HcR;obtain⟨bT,hbT⟩:=aH (wr.heap.size);rw[hbT]at Yr⊢;clear hbT;go_wp2
    go_loopw [41,8] (fun vj v8 wq=>∃(j:Nat) (zs:List aB),j<=xs.length/\vj=.int .i64 (j:Nat)/\Hid (Ext w7 wq)/\Hid (Own aj w7.heap.size wq v8 zs)/\Hid (ReadsAll w2 (kE (acc.take j) st) zs)) (fun vj _ _=>xs.length-(intOf vj).toNat)
    case atStart=>exact⟨0,[],bI _,rfl,ah (Ext.refl _),ah (Own.nil _),ah (by simp[kE,ReadsAll])⟩
    case round=>
     clear cB7;obtain⟨j,zs,hj,rfl,Hq,HO,HZ⟩:=hrel;by_cases hjt:j<xs.length
     ·have g1:=eY j xs.length
      have hja:j<acc.length:=by rw[<-rA.out];exact hjt
      obtain⟨bx,ox,hAx,hbx,hcx⟩:=(arN.out _ Hq.out).at_ hjt;have Hrq:=ah (ReadsAll.get HA.out j hja hjt);obtain⟨q,hqq⟩:=aH (xs[j]);rw[hqq]at hcx Hrq;have Hcx:=ah (show At wr bx (ox+j*8) (aj.E q)from hcx);have HAx:=ah hAx;clear hcx hqq hAx;rw[HAx.out];go_upto_region 16 with(first|((with_reducible refine au aj (.tmp 43) ?_ ?_ ?_ bx (ox+j*8) ?_ q ?_ ?_);rfl;rfl;rfl;rfl;exact Hcx.out)|(refine aL aj rfl rfl fun wH mO yj om=> ?_)|(refine aD aj (.tmp 10) (.tmp 44) rfl rfl wr wr.heap.size rfl q rfl _ _ om rfl mO (aI _) fun w8 jL hz8 RG akF ho8=> ?_))
      obtain⟨-,-,-,-,-,-,-,-,-,hkn,-,ks,hks,LK,hkl⟩:=Hrq.out.j5;have av0:=ah (H27.out.trans (Hq.out.trans jL));have Hq8:=ah (Hq.out.trans jL);have O9:=ah (HO.out.ext jL)
      have c7:w8.cell? ⟨wr.heap.size,7,none⟩=some (.slice q.kA ks.length q.kc):=by
       have:=akF.one 7 (u:=.slice q.kA q.kn q.kc) rfl;rw[hkn,<-hkl]at this;simpa using this
      have hkb:ks.length<=1000:=by rw[hkl];exact(fI.out.pre (qE.out _ (dW hja))).all.head.2.2.2.1
      have Hks:=ah (fun W (he:Ext w2 W)=>hks.ext he);have ano:=ah LK;have Hkl:=ah hkl;have Hza:=ah (fun i=>abx hja st i);have Hzn:=ah (aby hja st);clear hks LK hkn hkl mO yj om hz8 RG akF ho8 Hcx Hrq HO Hq jL hbx;go_wp2
      go_loopw [48,8] (fun vi v8 wq=>∃(i:Nat) (zs:List aB),i<=ks.length/\vi=.int .i64 (i:Nat)/\Hid (Ext w7 wq)/\Hid (Own aj w7.heap.size wq v8 zs)/\Hid (ReadsAll w2 (kE (acc.take j) st++(acc[j].kids.take i).filter (jd · st)) zs)) (fun vi _ _=>ks.length-(intOf vi).toNat)
      case atStart=>exact⟨0,zs,bI _,rfl,Hq8,O9,ah (by simpa using HZ.out)⟩
      case round=>
       clear c7 O9 Hq8 HZ;obtain⟨i,ts,hi,rfl,Hq,HO,HZ⟩:=hrel;by_cases hit:i<ks.length
       ·have e1:=eY i ks.length
        have hik:i<acc[j].kids.length:=by rw[<-Hkl.out];exact hit
        obtain⟨sK,oy,hAy,hby,hcy⟩:=(Hks.out _ (H27.out.trans Hq.out)).at_ hit;have Hrp:=ah (ReadsAll.get ano.out i hik hit);obtain⟨p,hpp⟩:=aH (ks[i]);rw[hpp]at hcy Hrp;have Hcy:=ah (show At wr sK (oy+i*8) (aj.E p)from hcy);have HAy:=ah hAy;clear hcy hpp hAy;rw[HAy.out];go_upto_region 19 with(first|((with_reducible refine au aj (.tmp 50) ?_ ?_ ?_ sK (oy+i*8) ?_ p ?_ ?_);rfl;rfl;rfl;rfl;exact Hcy.out)|(refine aL aj rfl rfl fun wJ hxJ hzJ Io=> ?_)|(refine aD aj (.tmp 12) (.tmp 51) rfl rfl wr wr.heap.size rfl p rfl _ _ Io rfl hxJ (aI _) fun w9 ko qp oI sZ qQ=> ?_))
        have aeb:=ah (fun W (he:Ext w9 W)=>sZ.ext he (ay oI));have Hq9:=ah (Hq.out.trans ko);have HO9:=ah (HO.out.ext ko);have HS9:=ah (Yr.out w9 Hq9.out);have AP:=ah (Yq acc[j].kids[i] p st w9 (Reads.ext (H27.out.trans Hq9.out) _ _ Hrp.out));obtain⟨N,hN⟩:=aH (jd acc[j].kids[i] st);rw[hN]at AP;have HN:=ah hN;have DR:=ah HZ.out.length;clear hN hxJ hzJ Io qp oI sZ qQ Hcy HO Hq hby;go_wp2_with (first|((with_reducible refine au aj (.tmp 12) ?_ ?_ ?_ wr.heap.size 0 ?_ p ?_ ?_);rfl;rfl;rfl;rfl;exact aeb.out _ (Ext.refl _))|((with_reducible refine au dG (.tmp 7) ?_ ?_ ?_ bT 0 ?_ st ?_ ?_);rfl;rfl;rfl;rfl;exact HS9.out))
        refine AP.out.mono ?_;rintro e wa ⟨rfl,hxa⟩;have hft:(acc[j].kids.take (i+1)).filter (jd · st)=(acc[j].kids.take i).filter (jd · st)++(if N=true then [acc[j].kids[i]]else []):=by rw[VI hik,HN.out]
        have Hft:=ah hft;have SK:=ah (Hq9.out.trans hxa);have HOa:=ah (HO9.out.ext hxa);have arO:=ah (aeb.out wa hxa);clear hft hxa HO9 Hq9 aeb HS9 AP;cases N with
        |false=>
         have HZ2:=ah (show ReadsAll w2 (kE (acc.take j) st++(acc[j].kids.take (i+1)).filter (jd · st)) ts from by rw[Hft.out];simpa using HZ.out);go_wp2;go_roundw
         case rel=>exact⟨i+1,ts,by omega,by go_num,SK,HOa,HZ2⟩
         case measure=>simp[intOf];omega
        |true=>
         have HZ2:=ah (show ReadsAll w2 (kE (acc.take j) st++(acc[j].kids.take (i+1)).filter (jd · st)) (ts++[p])from by
          rw[Hft.out,<-dV];exact HZ.out.snoc Hrp.out)
         obtain⟨At8,ct8,rfl,-,-⟩:=HOa.out.form;have hlen:ts.length+1<=1000000:=by have h1:=Hza.out i;have h2:=DR.out;have h3:=GH.out;omega
         clear HZ DR;go_wp2_with (first|((with_reducible refine au aj (.tmp 12) ?_ ?_ ?_ wr.heap.size 0 ?_ p ?_ ?_);rfl;rfl;rfl;rfl;exact arO.out)|((with_reducible refine gP aj (.tmp 56) ?_ ?_ p (.agg (aj.E p).toArray) ?_ ?_ ?_ ?_);rfl;rfl;rfl;rfl;decide;intro wz hxz hzz TP;have aec:=ah TP;have WK:=ah (HOa.out.ext hxz);have Hqz:=ah (SK.out.trans hxz);clear TP hxz hzz)|(at_builtin;refine fK aj rfl (.tmp 55) (.tmp 57) rfl 1 rfl WK.out rfl aec.out (by simp;omega) Hqz.out.size ?_;intro v5 w5 hown5 zH hg5;have JQ:=ah (PS Hqz.out zH);have GN:=ah hown5;clear hown5 zH hg5))
         go_roundw
         case rel=>exact⟨i+1,ts++[p],by omega,by go_num,JQ,GN,HZ2⟩
         case measure=>simp[intOf];omega
       ·have e1:=fT i ks.length
        have HZ2:=ah (show ReadsAll w2 (kE (acc.take (j+1)) st) ts from by
         have h:=HZ.out;have ht:acc[j].kids.take i=acc[j].kids:=gY (by rw[<-Hkl.out];omega);rw[ht]at h;rw[Hzn.out];exact h)
        go_wp2;go_roundw
        case rel=>exact⟨j+1,ts,by omega,by go_num,Hq,HO,HZ2⟩
        case measure=>simp[intOf];omega
     ·have g1:=fT j xs.length
      have HZ2:=ah (show ReadsAll w2 (kE acc st) zs from by
       have h:=HZ.out
       rwa[gY (by rw[<-rA.out];omega)]at h)
      obtain⟨At8,ct8,rfl,-,-⟩:=HO.out.form;have akI:=(Hq.out.block (ay Gs.out)).trans Gs.out;go_wp2_with (refine aP rfl 28 (.tmp 5) (.tmp 61) rfl B 0 (.slice At8 zs.length ct8) rfl rfl [.slice At8 zs.length ct8] rfl sizeOf28 (by simp[Value.oneCell']) 28 _ akI (by simp) ?_;intro w6 yh uI uJ uK hs6 Cb)
      have HI6:=ah (show FI w2 B (B+1) (.slice At8 zs.length ct8) ((ys.take (k+1)).foldl kE (oh u s)) w6 from by
       refine⟨Ext.put (H27.out.trans Hq.out) (b:=B) (by have:=HBe.out;omega) yh uI uJ uK hs6,by rw[Cb];simp,zs,?_,?_⟩
       ·refine(HO.out.keep fun k hk=>yh k (fun h=> ?_)).mono ?_
        ·subst h
         have h1:=(HO.out.lt k hk).1;have h2:=ay Gs.out;omega
        ·have h2:=ay Gs.out
         omega
       ·rw[abz hlt,TM.out,nO.out]
        exact HZ2.out)
      clear yh uI uJ uK hs6 Cb akI;go_roundw
      case rel=>exact⟨k+1,_,by omega,by go_num,HI6⟩
      case measure=>simp[intOf];omega
   ·have f1:=fT k ys.length
    have h1:=HI.out;rw[gY (by omega)]at h1;have HI2:=ah h1;clear h1 HI;obtain⟨xs,hO,hA⟩:=HI2.out.row;obtain⟨Av,cv,rfl,hcv,YE⟩:=hO.form;have cB:wr.cell? ⟨B,0,none⟩=some (.slice Av xs.length cv):=by simp[World.cell?,HI2.out.blk]
    go_wp2;go_ret;refine⟨Av,cv,xs,rfl,hcv,YE,?_,Oc.out.trans HI2.out.ext⟩;rw[akz.out];exact ReadsAll.ext HI2.out.ext _ _ hA
theorem abE(u:av)(r:aB)(l:List GStep)(AS:Option Addr)(cS:Nat)(w:World)(hr:Reads w u r)(hok:dI u)(hs:Sl dG w AS l)(hlc:l.length<=cS)(hn:l.length<=1000000)(hsz:∀s∈l,s.l.size<=1048576):
 Calls prog 146 #[.agg r.cells.toArray,.slice AS l.length cS] w (KN w (iO u l)):=by
 cases h:yc l with
 |false=>exact abw u r l AS cS w hs hn hsz h
 |true=>exact YD u r l AS cS w hr hok hs hlc hn hsz h
theorem abF(u:av)(l:List GStep)(hok:dI u):(iO u l).length<=1000000:=bX (nV _) (abm u l hok)
def akJ(xs:List bf)(w:World)(e:Ending)(w':World):Prop:=∃A c,e=.returned (.slice A xs.length c)/\xs.length<=c/\Sl aM w' A xs/\Ext w w'
theorem TQ(u:av)(r:aB)(l:List GStep)(AS:Option Addr)(cS:Nat)(w:World)(hr:Reads w u r)(hok:dI u)(hs:Sl dG w AS l)(hlc:l.length<=cS)(hn:l.length<=1000000)(hsz:∀s∈l,s.l.size<=1048576):
 Calls prog 75 #[.agg r.cells.toArray,.slice AS l.length cS] w (akJ ((iO u l).map av.id) w):=by
 have Hf:=ah (fun wq (he:Ext w wq)=>abE u r l AS cS wq (Reads.ext he _ _ hr) hok (hs.ext he) hlc hn hsz);have Hlen:=ah (abF u l hok);clear hr hok hs hlc hn hsz;obtain⟨us,sO⟩:=aH (iO u l);rw[sO]at Hf Hlen⊢;clear sO;go_enter func75,ntmps75
 go_upto_region 1 with(refine aG aj (.tmp 0) rfl rfl r rfl fun wA aR bG bB aO=> ?_)
 have l8:=ah (Hf.out wA aR);have oZ:=ah aO;have FX:=ah aR;clear bG bB aO aR Hf;go_wp2_with ((with_reducible refine au aj (.tmp 2) ?_ ?_ ?_ w.heap.size 0 ?_ r ?_ ?_);rfl;rfl;rfl;rfl;exact oZ.out)
 refine l8.out.mono ?_;rintro e w2 ⟨A,c,xs,rfl,hc,hsl,hall,hx2⟩;have jo:=ah hall;have rA:=ah hall.length;have hxn:xs.length<=1000000:=by rw[hall.length];exact Hlen.out
 have eD:=ah (FX.out.trans hx2);clear hall hx2 l8 oZ;go_wp2
 go_loopw [12,5] (fun vk v5 wr=>∃k:Nat,k<=xs.length/\vk=.int .i64 (k:Nat)/\Hid (Ext w2 wr)/\Hid (Own aM w2.heap.size wr v5 ((us.take k).map av.id))) (fun vk _ _=>xs.length-(intOf vk).toNat)
 case atStart=>exact⟨0,bI _,rfl,ah (Ext.refl _),ah (Own.nil _)⟩
 case round=>
  obtain⟨k,hk,rfl,Hq,HO⟩:=hrel;by_cases hlt:k<xs.length
  ·have f1:=eY k xs.length
   have hlu:k<us.length:=by rw[<-rA.out];exact hlt
   obtain⟨b,off,hA,hb,hcs⟩:=(hsl.ext Hq.out).at_ hlt;have xM:=ReadsAll.get jo.out k hlu hlt;obtain⟨q,hqq⟩:=aH (xs[k]);rw[hqq]at hcs xM
   have akK:=ah (show(us.take (k+1)).map av.id=(us.take k).map av.id++[q.id]from by
    rw[jk hlu,List.map_append,xM.j5.1];rfl)
   have jD:=ah (show At wr b (off+k*8) (aj.E q)from hcs);have HA:=ah hA;clear hcs hqq hA xM;rw[HA.out];obtain⟨Y,hY⟩:=aH ((us.take k).map av.id);rw[hY]at HO akK;have hYl:Y.length<=1000000:=by rw[<-hY];simp;omega
   clear hY;obtain⟨A5,c5,rfl,-,-⟩:=HO.out.form;go_upto_region 5 with(first|((with_reducible refine au aj (.tmp 14) ?_ ?_ ?_ b (off+k*8) ?_ q ?_ ?_);rfl;rfl;rfl;rfl;exact jD.out)|(refine aL aj rfl rfl fun wG dL fF dM=> ?_)|(refine aD aj (.tmp 7) (.tmp 15) rfl rfl wr wr.heap.size rfl q rfl _ _ dM rfl dL (aI _) fun w3 hx3 hz3 hk3 dX ho3=> ?_))
   have p0:=dX.zero (u:=.int .i64 q.a) rfl;have p1:=dX.one 1 (u:=.int .i64 q.i) rfl;have p2:=dX.one 2 (u:=.int .i64 q.n) rfl
   have arP:=ah (show At w3 wr.heap.size 0 (aM.E q.id)from fun j y hy=>dX j y (by
    have:(aj.E q)[j]? =some y:=by
     have hj:j<3:=(List.getElem?_eq_some_iff.1 hy).1
     match j,hj with
     |0,_=>exact hy
     |1,_=>exact hy
     |2,_=>exact hy
    exact this))
   have Hq3:=ah (Hq.out.trans hx3);have HO3:=ah (HO.out.ext hx3);clear dL fF dM hz3 hk3 dX ho3 hx3 jD p0 p1 p2 Hq HO;go_wp2_with (first|(refine fV rfl 30 0 (.tmp 7) rfl _ underlying30 _ rfl 3 sizeOf26 (by decide) wr.heap.size 0 rfl ?_)|((with_reducible refine au aM (.tmp 17) ?_ ?_ ?_ wr.heap.size 0 ?_ q.id ?_ ?_);rfl;rfl;rfl;rfl;exact arP.out)|((with_reducible refine gP aM (.tmp 18) ?_ ?_ q.id (.agg (aM.E q.id).toArray) ?_ ?_ ?_ ?_);rfl;rfl;rfl;rfl;decide;intro wz hxz hzz TP;have aec:=ah TP;have WK:=ah (HO3.out.ext hxz);have Hqz:=ah (Hq3.out.trans hxz);clear TP hxz hzz)|(at_builtin;refine fK aM rfl (.tmp 16) (.tmp 19) rfl 1 rfl WK.out rfl aec.out (by simp;omega) Hqz.out.size ?_;intro v5 w5 hown5 zH hg5;have JQ:=ah (PS Hqz.out zH);have GN:=ah hown5;clear hown5 zH hg5))
   go_roundw
   case rel=>exact⟨k+1,by omega,by go_num,JQ,ah (by rw[akK.out];exact GN.out)⟩
   case measure=>simp[intOf];omega
  ·have f1:=fT k xs.length
   have h1:=HO.out;rw[gY (by rw[<-rA.out];omega)]at h1;obtain⟨A5,c5,rfl,ZY,hs5⟩:=h1.form;go_wp2;go_ret;exact⟨A5,c5,rfl,ZY,hs5,eD.out.trans Hq.out⟩
theorem fJ{fn:Func}{t u:Tmp}{ty:TypeId}(h:fn.results= #[.cell t ty,.tmp u])(hag:∀w,(isAgg ty).run prog w=.ok true w)(cs:List Value)(hsz:∀w,(sizeOf ty).run prog w=.ok cs.length w)(tmps:Array Value)(w:World)(b:Nat)(ty2:TypeId)(hp:tmps.getD t undef=.pointer (some ⟨b,0,none⟩))(hc:w.heap[b]? =some (.cells cs.toArray ty2 (0,0))):
 (results fn tmps).run prog w=.ok (.tuple #[.agg cs.toArray,tmps.getD u undef]) w:=by
 have hl:=run_loadCells_list (P:=prog) w ⟨b,0,none⟩ cs (fun j u hu=>by
  have hadd:(⟨b,0,none⟩:Addr).add j=⟨b,j,none⟩:=by unfold Addr.add;split<;>simp_all
  rw[hadd];simp only[World.cell?,hc];simpa using hu)
 have hp':tmps[t]?.getD undef=.pointer (some ⟨b,0,none⟩):=by simpa using hp
 simp[results,h,hp',asAddr,loadVar,hag,hsz,hl]
def akL(us:List av)(w:World)(e:Ending)(w':World):Prop:=∃(id:bf) (E:Int),e=.returned (.tuple #[.agg id.cells.toArray,.int .i64 E])/\(E=0->∃x,us=[x]/\x.id=id)/\(∀x,us=[x]->E=0/\id=x.id)/\Ext w w'
theorem uW(u:av)(r:aB)(l:List GStep)(AS:Option Addr)(cS:Nat)(w:World)(hr:Reads w u r)(hok:dI u)(hs:Sl dG w AS l)(hlc:l.length<=cS)(hn:l.length<=1000000)(hsz:∀s∈l,s.l.size<=1048576):
 Calls prog 54 #[.agg r.cells.toArray,.slice AS l.length cS] w (akL (iO u l) w):=by
 have Hf:=ah (fun wq (he:Ext w wq)=>TQ u r l AS cS wq (Reads.ext he _ _ hr) hok (hs.ext he) hlc hn hsz);clear hr hok hs hlc hn hsz;obtain⟨us,sO⟩:=aH (iO u l);rw[sO]at Hf⊢;clear sO;go_enter func54,ntmps54
 go_upto_region 1 with(first|(refine aG aj (.tmp 0) rfl rfl r rfl fun wA aR bG bB aO=> ?_)|(refine aL aM rfl rfl fun wC dD jK fE=> ?_))
 have Hx:=ah (aR.trans dD);have oZ:=ah (aO.ext dD (ay bB));have l8:=ah (Hf.out wC (aR.trans dD));have sG:=ah fE;have Hz:=ah bG;clear bG bB aO aR Hf dD jK fE;go_wp2_with ((with_reducible refine au aj (.tmp 2) ?_ ?_ ?_ w.heap.size 0 ?_ r ?_ ?_);rfl;rfl;rfl;rfl;exact oZ.out)
 refine l8.out.mono ?_;rintro e w2 ⟨A,c,rfl,hc,hsl,hx2⟩;have vY:=ah (show w2.heap[w.heap.size+1]? =some (.cells aM.z.cells aM.e (0,0))from by rw[<-Hz.out];exact(hx2.block (ay sG.out)).trans sG.out);have eD:=ah (Hx.out.trans hx2);have hwA:w.heap.size<=wA.heap.size:=by have:=Hz.out;omega
 have e0:wA.heap.size=w.heap.size+1:=Hz.out;have pK:=ah hsl;obtain⟨n,hn⟩:=aH ((us.map av.id).length);have hnu:us.length=n:=by rw[<-hn];simp
 rw[hn]at hc⊢;have Hnu:=ah hnu;have Hc:=ah hc;clear hsl hx2 l8 oZ sG hn hnu hc;by_cases h0:n=0
 ·have d0:((n:Int)==0)=true:=by rw[h0];rfl
  have Hn:=ah h0;clear h0;go_wp2_with ((refine aD aM (.tmp 4) (.tmp 14) ?_ ?_ w (w.heap.size+1) ?_ ⟨0,0,0⟩ ?_ _ _ vY.out ?_ eD.out (Nat.le_succ _) ?_);rfl;rfl;rfl;rfl;rfl;intro w3 hx3 hz3 hk3 dX ho3)
  refine bodyPost_ret (fJ rfl isAgg26 (bf.cells ⟨0,0,0⟩) sizeOf26 _ _ (w.heap.size+1) _ rfl hk3) rfl ?_;refine⟨⟨0,0,0⟩,7,rfl,(fun h=>by cases h),fun x hx=> ?_,hx3⟩;have h1:=Hnu.out;have h2:=Hn.out;rw[hx]at h1;simp at h1;omega
 ·have d0:((n:Int)==0)=false:=by simpa using h0
  by_cases h1:n=1
  ·subst h1
   have h2:=Hnu.out;obtain⟨x,hx⟩:=List.length_eq_one_iff.1 h2;subst hx;obtain⟨b,off,hA,hb,hcs⟩:=pK.out.at_ (k:=0) (by simp);subst hA
   have jD:=ah (show At w2 b off (aM.E x.id)from fun j y hy=>by
    have:=hcs j y hy;simpa using this)
   clear h2 hcs h0;go_wp2_with (first|((with_reducible refine au aM (.tmp 18) ?_ ?_ ?_ b off ?_ x.id ?_ ?_);rfl;rfl;rfl;rfl;exact jD.out)|((refine aD aM (.tmp 4) (.tmp 19) ?_ ?_ w (w.heap.size+1) ?_ x.id ?_ _ _ vY.out ?_ eD.out (Nat.le_succ _) ?_);rfl;rfl;rfl;rfl;rfl;intro w3 hx3 hz3 hk3 dX ho3))
   refine bodyPost_ret (fJ rfl isAgg26 (bf.cells x.id) sizeOf26 _ _ (w.heap.size+1) _ rfl hk3) rfl ?_;refine⟨x.id,0,rfl,fun _=>⟨x,rfl,rfl⟩,fun y hy=> ?_,hx3⟩;simp only[List.cons.injEq,and_true]at hy;subst hy;exact⟨rfl,rfl⟩
  ·have d1:((n:Int)==1)=false:=by simp;omega
   have Hn:=ah h1;clear h0 h1;go_wp2_with ((refine aD aM (.tmp 4) (.tmp 20) ?_ ?_ w (w.heap.size+1) ?_ ⟨0,0,0⟩ ?_ _ _ vY.out ?_ eD.out (Nat.le_succ _) ?_);rfl;rfl;rfl;rfl;rfl;intro w3 hx3 hz3 hk3 dX ho3)
   refine bodyPost_ret (fJ rfl isAgg26 (bf.cells ⟨0,0,0⟩) sizeOf26 _ _ (w.heap.size+1) _ rfl hk3) rfl ?_;refine⟨⟨0,0,0⟩,8,rfl,(fun h=>by cases h),fun x hx=> ?_,hx3⟩;have h1:=Hnu.out;have h2:=Hn.out;rw[hx]at h1;simp at h1;omega
end Go.Proofs.YtgboomjahhnldaaGreatDoor
