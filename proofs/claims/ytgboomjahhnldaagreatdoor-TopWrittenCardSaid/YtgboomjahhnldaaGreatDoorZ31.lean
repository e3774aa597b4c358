/- A part of the proof of TopWritten, printed small: TTarget4 TTarget5. -/
import Derived.Test.YtgboomjahhnldaaGreatDoorZ30
import Derived.Test.YtgboomjahhnldaaGreatDoorZ09
set_option maxRecDepth 100000
set_option maxHeartbeats 25600000
set_option linter.all false
namespace Go.Proofs.YtgboomjahhnldaaGreatDoor
open Go.Proofs.Tryz Go.RowKit
def ug:Ty:=⟨fun v _=>∃b:Bool,v=.bool b,fun _ _ _ _ h=>h⟩
def KR:Ty:=⟨fun v w=>∃xs:List bf,xs.length<=1000/\Own aM 0 w v xs,fun _ _ _ he ⟨xs,h1,h2⟩=>⟨xs,h1,h2.ext he⟩⟩
theorem MZ{ρ:Operand->Value}{o:Oper}{w:World}{x y:Operand}{ts:Array TypeId}{id:bf}(h0:KR.p (ρ x) w)(h1:ρ y=.agg id.cells.toArray)(ho:o.op=.call {callee:=.value (.func 101),args:= #[x,y],argTypes:=ts}:=by rfl)(hf:ρ (.func 101)=.func (.func 101) #[] #[]:=by rfl):bL prog ρ o w ug.p:=by
 obtain⟨xs,hl,hown⟩:=h0;obtain⟨A,c,hv,-,hs⟩:=hown.form;refine fC 101 call101 [x,y] ts ho hf [_,_] ⟨hv,h1,trivial⟩ ?_;refine(MX A c xs id w hs (by omega)).mono ?_;rintro e w' ⟨rfl,hx⟩;exact⟨_,rfl,hx,_,rfl⟩
theorem Ug{P:Program}{ρ:Operand->Value}{o:Oper}{w:World}(x y:Operand)(ho:o.op=.pick x y (.const (.bool false)))(hf:ρ (.const (.bool false))=.bool false)(G:Bool)(hx:ρ x=.bool G)(hy:(fQ (G=true) ug).p (ρ y) w):bL P ρ o w ug.p:=by
 cases G with
 |false=>exact nT x y _ ho false hx (c:=.bool false) (fun e=>by cases e) (fun _=>hf) ⟨_,rfl⟩
 |true=>
  obtain⟨b,hb⟩:=hy rfl;exact nT x y _ ho true hx (c:=.bool b) (fun _=>hb) (fun e=>by cases e) ⟨_,rfl⟩
def IC(u:av)(id p:bf)(j:Nat):Prop:=∃(q:av) (k:Nat),pF id u q k/\∃z∈bO u,z.id=p/\(if z.id=q.id then j<=z.kids.length-1 else j<=z.kids.length)
def ah5(u:av)(id:bf)(w:World)(e:Ending)(w':World):Prop:=∃(p:bf) (J E:Int),e=.returned (.tuple #[.agg (aW p J).toArray,.int .i64 E])/\(E=0->∃j:Nat,J=(j:Int)/\IC u id p j)/\Ext w w'
theorem EY(x y:bf)(W:World):(binOp .eql 26 (.agg (aM.E x).toArray) (.agg (aM.E y).toArray)).run prog W=.ok (.bool (decide (x=y))) W:=Jd W x.a x.i x.n y.a y.i y.n
theorem agO(x y:bf)(W:World):(binOp .neq 26 (.agg #[.int .i64 x.a,.int .i64 x.i,.int .i64 x.n]) (.agg #[.int .i64 y.a,.int .i64 y.i,.int .i64 y.n])).run prog W=.ok (.bool (!decide (x=y))) W:=afC W x.a x.i x.n y.a y.i y.n
theorem aen(u y:av)(r:aB)(id tg:bf)(k:Nat)(w:World)(hr:Reads w u r)(hok:dI u)(hy:findF tg u=some y)(hk:k<=3)(hnd:(kW (dN u)).Nodup):
 Calls prog 159 #[.agg r.cells.toArray,.agg id.cells.toArray,.agg tg.cells.toArray,.int .i64 (k:Nat)] w (ah5 u id w):=by
 have Ck:=ah (fun wq (he:Ext w wq)=>uR u r id wq (Reads.ext he _ _ hr) hok);have QI:=ah (fun wq (he:Ext w wq)=>FB u r tg wq (Reads.ext he _ _ hr) hok);have MU:=ah (fun(F:Nat) (hk:ig[k]? =some F) wq (he:Ext w wq)=>Ub k F hk u y r tg wq (Reads.ext he _ _ hr) hok hy);have fI:=ah hok;have Hnd:=ah hnd;have Hy:=ah hy;obtain⟨F,hF⟩:∃F,ig[k]? =some F:=⟨_,fP (by show k<4;omega)⟩;have HF:=ah hF
 have HFc:=ah (show∀args w,(callFunc F args).run prog w=.ok (.enter F args) w from fun _ _=>by
  match k,hF with
  |0,hF=>obtain rfl:225=F:=by simpa[ig]using hF
         rfl
  |1,hF=>obtain rfl:228=F:=by simpa[ig]using hF
         rfl
  |2,hF=>obtain rfl:230=F:=by simpa[ig]using hF
         rfl
  |3,hF=>obtain rfl:232=F:=by simpa[ig]using hF
         rfl
  |k+4,hF=>simp[ig]at hF)
 obtain⟨b2,hb2⟩:=aH (((k:Int)==2));obtain⟨b3,hb3⟩:=aH (((k:Int)==3));obtain⟨N,hN⟩:=aH ((!decide (tg=id)));have HN:=ah hN;have HNe:=ah (fun W=>(agO tg id W).trans (by rw[hN]));clear hr hok hy hF hN hk hnd;go_enter func159,ntmps159
 go_upto_region 1 with(first|(refine aG aj (.tmp 0) rfl rfl r rfl fun wA aR bG bB aO=> ?_)|(refine aG aM (.tmp 1) rfl rfl id rfl fun wB eH ji hkB eG=> ?_)|(refine aG aM (.tmp 2) rfl rfl tg rfl fun wT hxT hzT hkT ak7=> ?_))
 have j4:Ext wT (wT.alloc (.cells #[.int .i64 0,.int .i64 0,.int .i64 0,.int .i64 0] 201)):=(Ext.refl wT).alloc _
 have kL:(wT.alloc (.cells #[.int .i64 0,.int .i64 0,.int .i64 0,.int .i64 0] 201)).heap[w.heap.size+3]? =some (.cells #[.int .i64 0,.int .i64 0,.int .i64 0,.int .i64 0] 201 (0,0)):=by
  have h:=heap_alloc_new wT (.cells #[.int .i64 0,.int .i64 0,.int .i64 0,.int .i64 0] 201)
  rwa[hzT,ji,bG]at h
 obtain⟨wS,rD⟩:=aH (wT.alloc (.cells #[.int .i64 0,.int .i64 0,.int .i64 0,.int .i64 0] 201));rw[rD]at j4 kL⊢;have tH:=ah (aR.trans (eH.trans (hxT.trans j4)));have dO:=ah (fun W (he:Ext wS W)=>aO.ext (eH.trans (hxT.trans (j4.trans he))) (ay bB));have iT:=ah (show∀W,Ext wS W->At W (w.heap.size+1) 0 (aM.E id)from fun W he=>by rw[<-bG];exact eG.ext (hxT.trans (j4.trans he)) (ay hkB));have KT:=ah (show∀W,Ext wS W->At W (w.heap.size+2) 0 (aM.E tg)from fun W he=>by rw[show w.heap.size+2=wB.heap.size from by omega];exact ak7.ext (j4.trans he) (ay hkT));have CX:=ah kL;have tJ:=ah (show w.heap.size+3<wS.heap.size from ay kL);clear rD kL j4 aR bG bB aO eH ji hkB eG hxT hzT hkT ak7;go_cut [10] (fun s10 wx=>wx=wS/\∃bs:Bool,s10=.bool bs)
 case first=>
  cases b2<;>cases b3<;>
  ·go_wp2
   go_meet
   case rel=>exact⟨rfl,_,rfl⟩
 case rest=>
  obtain⟨rfl,bs,rfl⟩:=hcut;clear hb2 hb3;have Bc:=ah (Ck.out wc tH.out);clear Ck;go_wp2_with (first|((with_reducible refine au aj (.tmp 4) ?_ ?_ ?_ w.heap.size 0 ?_ r ?_ ?_);rfl;rfl;rfl;rfl;exact dO.out _ (Ext.refl _))|((with_reducible refine au aM (.tmp 5) ?_ ?_ ?_ (w.heap.size+1) 0 ?_ id ?_ ?_);rfl;rfl;rfl;rfl;exact iT.out _ (Ext.refl _)))
  refine Bc.out.mono ?_;rintro e w2 ⟨hx2,hres⟩;have eD:=ah hx2;have hz2:wc.heap.size<=w2.heap.size:=hx2.size;rcases hres with⟨-,rfl⟩|⟨q,a,rfl,hp⟩
  ·clear hx2 Bc
   go_upto_region 3 with(first|(refine aL aM rfl rfl fun wD gW oH kg=> ?_)|((refine aD aM (.tmp 11) (.tmp 27) ?_ ?_ w2 w2.heap.size ?_ ⟨0,0,0⟩ ?_ _ _ kg ?_ gW (aI _) ?_);rfl;rfl;rfl;rfl;rfl;intro wE jT o9 jO pW Al))
   have iF:=ah (eD.out.trans jT);have Uh:=ah (fun W (he:Ext wE W)=>QI.out W (tH.out.trans (iF.out.trans he)));have Ui:=ah (show∀W,Ext wE W->(aK [.int .i64 tg.a,.int .i64 tg.i,.int .i64 tg.n]).p (.pointer (some ⟨w.heap.size+2,0,none⟩)) W from fun W he=>⟨w.heap.size+2,0,rfl,by have:=iF.out.size;have:=he.size;have:=tJ.out;omega,fun j z hz=>KT.out W (iF.out.trans he) j z hz⟩);have Ch:=ah (show∀W,Ext wE W->(aK [.int .i64 id.a,.int .i64 id.i,.int .i64 id.n]).p (.pointer (some ⟨w.heap.size+1,0,none⟩)) W from fun W he=>⟨w.heap.size+1,0,rfl,by have:=iF.out.size;have:=he.size;have:=tJ.out;omega,fun j z hz=>iT.out W (iF.out.trans he) j z hz⟩);have zL:=ah (show∀W,Ext wE W->(aK (aB.cells r)).p (.pointer (some ⟨w.heap.size,0,none⟩)) W from fun W he=>⟨w.heap.size,0,rfl,by have:=iF.out.size;have:=he.size;have:=tJ.out;omega,fun j z hz=>dO.out W (iF.out.trans he) j z hz⟩);have Uj:=ah (fun W (he:Ext wE W)=>pW.ext he (ay jO));have HlO:=ah (ay jO);clear gW oH kg jT o9 jO pW Al QI;refine iw (by kernel_rfl) (fun i=>match i with|0=>Ty.is (.agg #[.int .i64 tg.a,.int .i64 tg.i,.int .i64 tg.n])|1=>Ty.is (.agg #[.int .i64 id.a,.int .i64 id.i,.int .i64 id.n])|2=>Ty.is (.bool N)|3=>Ty.is (.bool N)|4=>fQ (N=true) (Ty.is (.agg (aB.cells r).toArray))|5=>fQ (N=true) (Ty.is (.agg #[.int .i64 tg.a,.int .i64 tg.i,.int .i64 tg.n]))|6=>fQ (N=true) (KR)|7=>fQ (N=true) (Ty.is (.agg #[.int .i64 id.a,.int .i64 id.i,.int .i64 id.n]))|8=>fQ (N=true) (ug)|9=>ug|10=>ug|_=>Ty.any) (by kernel_rfl) rfl ?_;intro v;refine⟨?_,?_,?_,?_,?_,?_,?_,?_,?_,?_,?_,?_⟩
   ·exact fun wq hq _=>ak rfl (bU 26 (.tmp 6) rfl isAgg26 3 sizeOf26 [.int .i64 tg.a,.int .i64 tg.i,.int .i64 tg.n] rfl (Ui.out _ hq) rfl)
   ·exact fun wq hq _=>ak rfl (bU 26 (.tmp 5) rfl isAgg26 3 sizeOf26 [.int .i64 id.a,.int .i64 id.i,.int .i64 id.n] rfl (Ch.out _ hq) rfl)
   ·rintro wq hq ⟨h0,h1,-⟩;exact ak rfl (tT .neq 26 26 (.tmp 30) (.tmp 31) rfl _ _ h0 h1 (by kernel_rfl) (fun w=>HNe.out w) rfl)
   ·rintro wq hq ⟨h0,-⟩;exact ak rfl (aF (.tmp 32) rfl h0 rfl)
   ·rintro wq hq ⟨h0,-⟩
    change v 3=_ at h0;refine bg 3 true (N) rfl (aV rfl h0) (fun hg=> ?_) (fun hg=> ?_)
    ·refine bL.gd (p:=N=true) (T:=Ty.is (.agg (aB.cells r).toArray)) ?_
     exact bU 30 (.tmp 4) rfl isAgg30 8 sizeOf30 (aB.cells r) rfl (zL.out _ hq) rfl
    ·intro hn;rw[hn]at hg;cases hg
   ·rintro wq hq ⟨h0,-⟩
    change v 3=_ at h0;refine bg 3 true (N) rfl (aV rfl h0) (fun hg=> ?_) (fun hg=> ?_)
    ·refine bL.gd (p:=N=true) (T:=Ty.is (.agg #[.int .i64 tg.a,.int .i64 tg.i,.int .i64 tg.n])) ?_
     exact bU 26 (.tmp 6) rfl isAgg26 3 sizeOf26 [.int .i64 tg.a,.int .i64 tg.i,.int .i64 tg.n] rfl (Ui.out _ hq) rfl
    ·intro hn;rw[hn]at hg;cases hg
   ·rintro wq hq ⟨h0,h1,h2,h3,-⟩
    change (N=true)->v 4=_ at h0;change (N=true)->v 5=_ at h1;change v 3=_ at h2;refine bg 3 true (N) rfl (aV rfl h2) (fun hg=> ?_) (fun hg=> ?_)
    ·refine bL.gd (p:=N=true) (T:=KR) ?_
     replace h0:=h0 hg;replace h1:=h1 hg;refine fC 164 call164 _ _ rfl rfl [_,_] ⟨h0,h1,trivial⟩ ?_;refine(Uh.out wq hq).mono ?_;rintro e w' ⟨vv,xs,rfl,⟨hl,-⟩,hown,hx⟩;exact⟨vv,rfl,hx,xs,hl,hown.mono (bI _)⟩
    ·intro hn;rw[hn]at hg;cases hg
   ·rintro wq hq ⟨h0,-⟩
    change v 3=_ at h0;refine bg 3 true (N) rfl (aV rfl h0) (fun hg=> ?_) (fun hg=> ?_)
    ·refine bL.gd (p:=N=true) (T:=Ty.is (.agg #[.int .i64 id.a,.int .i64 id.i,.int .i64 id.n])) ?_
     exact bU 26 (.tmp 5) rfl isAgg26 3 sizeOf26 [.int .i64 id.a,.int .i64 id.i,.int .i64 id.n] rfl (Ch.out _ hq) rfl
    ·intro hn;rw[hn]at hg;cases hg
   ·rintro wq hq ⟨h0,h1,h2,h3,-⟩
    change (N=true)->(KR).p (v 6) wq at h0;change (N=true)->v 7=_ at h1;change v 3=_ at h3;refine bg 3 true (N) rfl (aV rfl h3) (fun hg=> ?_) (fun hg=> ?_)
    ·refine bL.gd (p:=N=true) (T:=ug) ?_
     replace h0:=h0 hg;replace h1:=h1 hg;exact MZ (x:=.tmp 36) (y:=.tmp 37) h0 h1
    ·intro hn;rw[hn]at hg;cases hg
   ·rintro wq hq ⟨h0,h1,-⟩;exact ak rfl (Ug (.tmp 33) (.tmp 38) rfl rfl N h0 h1)
   ·rintro wq hq ⟨h0,h1,h2,h3,h4,h5,h6,h7,h8,h9,h10,h11,-⟩;exact ak rfl (jY (.tmp 39) rfl rfl h0)
   ·intro wq hq hT
    have k10:=hT 10 (by decide);change (ug).p (v 10) wq at k10;clear hT;simp only[List.drop_succ_cons,List.drop_zero,gH,dK,List.set_cons_succ,List.set_cons_zero,Nat.reduceAdd];generalize v 10=x10 at k10⊢;obtain⟨bl,rfl⟩:=k10;have Hxw:=ah hq;have Dq:=ah ((iF.out.trans hq).block tJ.out|>.trans CX.out);have iR:=ah (tH.out.trans (iF.out.trans hq));clear hq Ui Ch zL Uh;cases bl<;>
    ·go_wp2_with (refine aP rfl 201 (.tmp 8) (.tmp 54) rfl (w.heap.size+3) 0 (.agg (aW ⟨0,0,0⟩ 0).toArray) rfl rfl (aW ⟨0,0,0⟩ 0) rfl sizeOf201 (by simp[aW,Value.oneCell']) 201 _ Dq.out (by simp[aW]) ?_;intro w9 D9 uL uM uN sD y7)
     have y8:w9.heap[w.heap.size+3]? =some (.cells (aW ⟨0,0,0⟩ 0).toArray 201 (0,0)):=by rw[y7];simp[aW]
     refine bodyPost_ret (fJ rfl isAgg201 (aW ⟨0,0,0⟩ 0) sizeOf201 _ _ (w.heap.size+3) _ rfl y8) rfl ?_;have iZ:Ext w w9:=(iR.out).put (by omega) D9 uL uM uN sD;exact⟨⟨0,0,0⟩,0,9,rfl,(fun h=>by cases h),iZ⟩
  ·have Hp:=ah hp
   clear hx2 hp Bc;go_upto_region 3 with(first|(refine aL aM rfl rfl fun wD gW oH kg=> ?_)|((refine aD aM (.tmp 11) (.tmp 27) ?_ ?_ w2 w2.heap.size ?_ q.id ?_ _ _ kg ?_ gW (aI _) ?_);rfl;rfl;rfl;rfl;rfl;intro wE jT o9 jO pW Al))
   have iF:=ah (eD.out.trans jT);have Uh:=ah (fun W (he:Ext wE W)=>QI.out W (tH.out.trans (iF.out.trans he)));have Ui:=ah (show∀W,Ext wE W->(aK [.int .i64 tg.a,.int .i64 tg.i,.int .i64 tg.n]).p (.pointer (some ⟨w.heap.size+2,0,none⟩)) W from fun W he=>⟨w.heap.size+2,0,rfl,by have:=iF.out.size;have:=he.size;have:=tJ.out;omega,fun j z hz=>KT.out W (iF.out.trans he) j z hz⟩);have Ch:=ah (show∀W,Ext wE W->(aK [.int .i64 id.a,.int .i64 id.i,.int .i64 id.n]).p (.pointer (some ⟨w.heap.size+1,0,none⟩)) W from fun W he=>⟨w.heap.size+1,0,rfl,by have:=iF.out.size;have:=he.size;have:=tJ.out;omega,fun j z hz=>iT.out W (iF.out.trans he) j z hz⟩);have zL:=ah (show∀W,Ext wE W->(aK (aB.cells r)).p (.pointer (some ⟨w.heap.size,0,none⟩)) W from fun W he=>⟨w.heap.size,0,rfl,by have:=iF.out.size;have:=he.size;have:=tJ.out;omega,fun j z hz=>dO.out W (iF.out.trans he) j z hz⟩);have Uj:=ah (fun W (he:Ext wE W)=>pW.ext he (ay jO));have HlO:=ah (ay jO);clear gW oH kg jT o9 jO pW Al QI;refine iw (by kernel_rfl) (fun i=>match i with|0=>Ty.is (.agg #[.int .i64 tg.a,.int .i64 tg.i,.int .i64 tg.n])|1=>Ty.is (.agg #[.int .i64 id.a,.int .i64 id.i,.int .i64 id.n])|2=>Ty.is (.bool N)|3=>Ty.is (.bool N)|4=>fQ (N=true) (Ty.is (.agg (aB.cells r).toArray))|5=>fQ (N=true) (Ty.is (.agg #[.int .i64 tg.a,.int .i64 tg.i,.int .i64 tg.n]))|6=>fQ (N=true) (KR)|7=>fQ (N=true) (Ty.is (.agg #[.int .i64 id.a,.int .i64 id.i,.int .i64 id.n]))|8=>fQ (N=true) (ug)|9=>ug|10=>ug|_=>Ty.any) (by kernel_rfl) rfl ?_;intro v;refine⟨?_,?_,?_,?_,?_,?_,?_,?_,?_,?_,?_,?_⟩
   ·exact fun wq hq _=>ak rfl (bU 26 (.tmp 6) rfl isAgg26 3 sizeOf26 [.int .i64 tg.a,.int .i64 tg.i,.int .i64 tg.n] rfl (Ui.out _ hq) rfl)
   ·exact fun wq hq _=>ak rfl (bU 26 (.tmp 5) rfl isAgg26 3 sizeOf26 [.int .i64 id.a,.int .i64 id.i,.int .i64 id.n] rfl (Ch.out _ hq) rfl)
   ·rintro wq hq ⟨h0,h1,-⟩;exact ak rfl (tT .neq 26 26 (.tmp 30) (.tmp 31) rfl _ _ h0 h1 (by kernel_rfl) (fun w=>HNe.out w) rfl)
   ·rintro wq hq ⟨h0,-⟩;exact ak rfl (aF (.tmp 32) rfl h0 rfl)
   ·rintro wq hq ⟨h0,-⟩
    change v 3=_ at h0;refine bg 3 true (N) rfl (aV rfl h0) (fun hg=> ?_) (fun hg=> ?_)
    ·refine bL.gd (p:=N=true) (T:=Ty.is (.agg (aB.cells r).toArray)) ?_
     exact bU 30 (.tmp 4) rfl isAgg30 8 sizeOf30 (aB.cells r) rfl (zL.out _ hq) rfl
    ·intro hn;rw[hn]at hg;cases hg
   ·rintro wq hq ⟨h0,-⟩
    change v 3=_ at h0;refine bg 3 true (N) rfl (aV rfl h0) (fun hg=> ?_) (fun hg=> ?_)
    ·refine bL.gd (p:=N=true) (T:=Ty.is (.agg #[.int .i64 tg.a,.int .i64 tg.i,.int .i64 tg.n])) ?_
     exact bU 26 (.tmp 6) rfl isAgg26 3 sizeOf26 [.int .i64 tg.a,.int .i64 tg.i,.int .i64 tg.n] rfl (Ui.out _ hq) rfl
    ·intro hn;rw[hn]at hg;cases hg
   ·rintro wq hq ⟨h0,h1,h2,h3,-⟩
    change (N=true)->v 4=_ at h0;change (N=true)->v 5=_ at h1;change v 3=_ at h2;refine bg 3 true (N) rfl (aV rfl h2) (fun hg=> ?_) (fun hg=> ?_)
    ·refine bL.gd (p:=N=true) (T:=KR) ?_
     replace h0:=h0 hg;replace h1:=h1 hg;refine fC 164 call164 _ _ rfl rfl [_,_] ⟨h0,h1,trivial⟩ ?_;refine(Uh.out wq hq).mono ?_;rintro e w' ⟨vv,xs,rfl,⟨hl,-⟩,hown,hx⟩;exact⟨vv,rfl,hx,xs,hl,hown.mono (bI _)⟩
    ·intro hn;rw[hn]at hg;cases hg
   ·rintro wq hq ⟨h0,-⟩
    change v 3=_ at h0;refine bg 3 true (N) rfl (aV rfl h0) (fun hg=> ?_) (fun hg=> ?_)
    ·refine bL.gd (p:=N=true) (T:=Ty.is (.agg #[.int .i64 id.a,.int .i64 id.i,.int .i64 id.n])) ?_
     exact bU 26 (.tmp 5) rfl isAgg26 3 sizeOf26 [.int .i64 id.a,.int .i64 id.i,.int .i64 id.n] rfl (Ch.out _ hq) rfl
    ·intro hn;rw[hn]at hg;cases hg
   ·rintro wq hq ⟨h0,h1,h2,h3,-⟩
    change (N=true)->(KR).p (v 6) wq at h0;change (N=true)->v 7=_ at h1;change v 3=_ at h3;refine bg 3 true (N) rfl (aV rfl h3) (fun hg=> ?_) (fun hg=> ?_)
    ·refine bL.gd (p:=N=true) (T:=ug) ?_
     replace h0:=h0 hg;replace h1:=h1 hg;exact MZ (x:=.tmp 36) (y:=.tmp 37) h0 h1
    ·intro hn;rw[hn]at hg;cases hg
   ·rintro wq hq ⟨h0,h1,-⟩;exact ak rfl (Ug (.tmp 33) (.tmp 38) rfl rfl N h0 h1)
   ·rintro wq hq ⟨h0,h1,h2,h3,h4,h5,h6,h7,h8,h9,h10,h11,-⟩;exact ak rfl (jY (.tmp 39) rfl rfl h0)
   ·intro wq hq hT
    have k10:=hT 10 (by decide);change (ug).p (v 10) wq at k10;clear hT;simp only[List.drop_succ_cons,List.drop_zero,gH,dK,List.set_cons_succ,List.set_cons_zero,Nat.reduceAdd];generalize v 10=x10 at k10⊢;obtain⟨bl,rfl⟩:=k10;have Dq:=ah ((iF.out.trans hq).block tJ.out|>.trans CX.out);have iR:=ah (tH.out.trans (iF.out.trans hq));have QJ:=ah (KT.out _ (iF.out.trans hq));have vF:=ah (iT.out _ (iF.out.trans hq));have mK:=ah (fun W (he:Ext wq W)=>dO.out _ ((iF.out.trans hq).trans he));have agR:=ah (fun W (he:Ext wq W)=>KT.out _ ((iF.out.trans hq).trans he));have YJ:=ah (fun W (he:Ext wq W)=>Uj.out _ (hq.trans he));have aeo:=ah (show w2.heap.size<wq.heap.size from bQ HlO.out hq.size);clear hq Ui Ch zL Uh dO iT KT Uj HlO;go_upto_region 4 with fail
    go_cut [53] (fun s53 wx=>wx=wq/\∃bb:Bool,s53=.bool bb)
    case first=>
     obtain⟨b1,hb1⟩:=aH (decide (tg=id));have heq:∀W,(binOp .eql 26 (.agg (aM.E tg).toArray) (.agg (aM.E id).toArray)).run prog W=.ok (.bool b1) W:=fun W=>by rw[EY,hb1]
     clear hb1;cases bl<;>cases b1<;>cases bs<;>
     ·go_wp2_with (first|((with_reducible refine au aM (.tmp 6) ?_ ?_ ?_ (w.heap.size+2) 0 ?_ tg ?_ ?_);rfl;rfl;rfl;rfl;exact QJ.out)|((with_reducible refine au aM (.tmp 5) ?_ ?_ ?_ (w.heap.size+1) 0 ?_ id ?_ ?_);rfl;rfl;rfl;rfl;exact vF.out))
      go_meet
      case rel=>exact⟨rfl,_,rfl⟩
    case rest=>
    obtain⟨hw0,bb,rfl⟩:=hcut;rw[hw0];clear hw0;cases bb with
    |true=>
     go_wp2_with (refine aP rfl 201 (.tmp 8) (.tmp 54) rfl (w.heap.size+3) 0 (.agg (aW ⟨0,0,0⟩ 0).toArray) rfl rfl (aW ⟨0,0,0⟩ 0) rfl sizeOf201 (by simp[aW,Value.oneCell']) 201 _ Dq.out (by simp[aW]) ?_;intro w9 D9 uL uM uN sD y7)
     have y8:w9.heap[w.heap.size+3]? =some (.cells (aW ⟨0,0,0⟩ 0).toArray 201 (0,0)):=by rw[y7];simp[aW]
     refine bodyPost_ret (fJ rfl isAgg201 (aW ⟨0,0,0⟩ 0) sizeOf201 _ _ (w.heap.size+3) _ rfl y8) rfl ?_;have iZ:Ext w w9:=(iR.out).put (by omega) D9 uL uM uN sD;exact⟨⟨0,0,0⟩,0,9,rfl,(fun h=>by cases h),iZ⟩
    |false=>
     by_cases hti:tg=id
     ·have heq:∀W,(binOp .eql 26 (.agg (aM.E tg).toArray) (.agg (aM.E id).toArray)).run prog W=.ok (.bool true) W:=fun W=>by rw[EY,bJ hti]
      have Hti:=ah hti;clear hti;go_wp2_with (first|((with_reducible refine au aM (.tmp 6) ?_ ?_ ?_ (w.heap.size+2) 0 ?_ tg ?_ ?_);rfl;rfl;rfl;rfl;exact QJ.out)|((with_reducible refine au aM (.tmp 5) ?_ ?_ ?_ (w.heap.size+1) 0 ?_ id ?_ ?_);rfl;rfl;rfl;rfl;exact vF.out)|((with_reducible refine au aM (.tmp 11) ?_ ?_ ?_ w2.heap.size 0 ?_ q.id ?_ ?_);rfl;rfl;rfl;rfl;exact YJ.out _ (Ext.refl _))|(refine wpList_build 201 [(0,.tmp 58),(1,.tmp 59)] rfl rfl [(0,.agg q.id.cells.toArray),(1,.int .i64 (a:Nat))] ⟨⟨rfl,rfl⟩,⟨rfl,rfl⟩,trivial⟩ (.agg (aW q.id (a:Nat)).toArray) (F5 _ _ _) ?_)|(refine aP rfl 201 (.tmp 8) (.tmp 60) rfl (w.heap.size+3) 0 (.agg (aW q.id (a:Nat)).toArray) rfl rfl (aW q.id (a:Nat)) rfl sizeOf201 (by simp[aW,Value.oneCell']) 201 _ Dq.out (by simp[aW]) ?_;intro w9 D9 uL uM uN sD y7))
      have y8:w9.heap[w.heap.size+3]? =some (.cells (aW q.id (a:Nat)).toArray 201 (0,0)):=by rw[y7];simp[aW]
      refine bodyPost_ret (fJ rfl isAgg201 (aW q.id (a:Nat)) sizeOf201 _ _ (w.heap.size+3) _ rfl y8) rfl ?_;have iZ:Ext w w9:=(iR.out).put (by omega) D9 uL uM uN sD;exact⟨q.id,(a:Nat),0,rfl,fun _=>⟨a,rfl,q,a,Hp.out,q,Hp.out.mem,rfl,by rw[bH rfl];have:=Hp.out.lt;omega⟩,iZ⟩
     ·have heq:∀W,(binOp .eql 26 (.agg (aM.E tg).toArray) (.agg (aM.E id).toArray)).run prog W=.ok (.bool false) W:=fun W=>by rw[EY,aY hti]
      clear hti;go_upto_region 8 with(first|((with_reducible refine au aM (.tmp 6) ?_ ?_ ?_ (w.heap.size+2) 0 ?_ tg ?_ ?_);rfl;rfl;rfl;rfl;exact QJ.out)|((with_reducible refine au aM (.tmp 5) ?_ ?_ ?_ (w.heap.size+1) 0 ?_ id ?_ ?_);rfl;rfl;rfl;rfl;exact vF.out))
      obtain⟨S,hS⟩:=aH (jM k u tg);have HS:=ah hS;obtain⟨wF,hwF⟩:∃wF,wF=wq:=⟨_,rfl⟩;subst hwF;have Hld:=ah (fun W (he:Ext wF W)=>by have h:=MU.out F HF.out W (iR.out.trans he);rw[hS]at h;exact h);have zL:=ah (show∀wz,Ext wF wz->(aK (aB.cells r)).p (.pointer (some ⟨w.heap.size,0,none⟩)) wz from fun wz he=>⟨w.heap.size,0,rfl,by have:=iR.out.size;have:=he.size;have:=ay Dq.out;omega,fun j z hz=>mK.out wz he j z hz⟩);have Ch:=ah (show∀wz,Ext wF wz->(aK (bf.cells tg)).p (.pointer (some ⟨w.heap.size+2,0,none⟩)) wz from fun wz he=>⟨w.heap.size+2,0,rfl,by have:=he.size;have:=ay Dq.out;omega,fun j z hz=>agR.out wz he j z hz⟩);clear hS heq MU;refine p8 (J:=K7 wF) (w0:=K7 wF) (Ext.refl wF) (fun v w=>(Ci wF.heap.size S).p (v 9) w) 11 10 [0,1,2,3,4,5,6,7,9] (fun i=>match i with|0=>Ty.is (.agg (ig.map dZ).toArray)|1=>Ty.is (.int .i64 (k:Nat))|2=>Ty.is (dZ F)|3=>Ty.is (.agg (aB.cells r).toArray)|4=>Ty.is (.agg (bf.cells tg).toArray)|5=>Ty.is (.tuple #[.agg (aW S.1 S.2.1).toArray,.int .i64 S.2.2])|6=>Ty.is (.tuple #[.agg (aW S.1 S.2.1).toArray,.int .i64 S.2.2])|7=>Ty.is (.agg (aW S.1 S.2.1).toArray)|8=>Ty.is (.int .i64 S.2.2)|9=>D8 wF.heap.size|_=>Ty.any) (fun i=>match i with|6=>Ty.is (.tuple #[.agg (aW S.1 S.2.1).toArray,.int .i64 S.2.2])|8=>Ty.is (.int .i64 S.2.2)|9=>Ci wF.heap.size S|_=>Ty.any) (by kernel_rfl) (by kernel_rfl) (by kernel_rfl) (by kernel_rfl) (by decide) (by decide) rfl ?_ ?_
      ·intro j h1 v w1 w1' hE h
       match j,h1,h with
       |6,_,h=>exact h
       |8,_,h=>exact h
       |9,_,_=>exact hE
       |10,h1,_=>exact absurd rfl h1
       |0,_,_|1,_,_|2,_,_|3,_,_|4,_,_|5,_,_|7,_,_|j+11,_,_=>trivial
      intro v;refine⟨dx (by decide) rfl ?_,?_⟩
      ·intro wq hq hd
       refine fC 203 call203 _ _ rfl rfl [] trivial ?_;refine(P6 wq).mono ?_;rintro e w' ⟨rfl,hx⟩;exact⟨_,rfl,hx,rfl⟩
      refine⟨dx (by decide) rfl ?_,?_⟩
      ·intro wq hq hd
       exact aF (.tmp 3) rfl rfl rfl
      refine⟨dx (by decide) rfl ?_,?_⟩
      ·rintro wq hq ⟨h0,h1,-⟩
       change v 0=_ at h0;change v 1=_ at h1;exact Ud (.tmp 62) (.tmp 63) rfl h0 k h1 F HF.out
      refine⟨dx (by decide) rfl ?_,?_⟩
      ·intro wq hq hd
       exact bU 30 (.tmp 4) rfl isAgg30 8 sizeOf30 (aB.cells r) rfl (zL.out _ hq) rfl
      refine⟨dx (by decide) rfl ?_,?_⟩
      ·intro wq hq hd
       exact bU 26 (.tmp 6) rfl isAgg26 3 sizeOf26 (bf.cells tg) rfl (Ch.out _ hq) rfl
      refine⟨dx (by decide) rfl ?_,?_⟩
      ·rintro wq hq ⟨h0,h1,h2,-⟩
       change v 2=_ at h0;change v 3=_ at h1;change v 4=_ at h2;refine Iz F HFc.out (.tmp 64) [.tmp 65,.tmp 66] _ rfl h0 [_,_] ⟨h1,h2,trivial⟩ ?_;refine(Hld.out wq hq).mono ?_;rintro e w' ⟨rfl,hx⟩;exact⟨_,rfl,hx,rfl⟩
      refine⟨dx (by decide) rfl ?_,?_⟩
      ·rintro wq hq ⟨h0,-⟩
       change v 5=_ at h0;exact aF (.tmp 67) rfl h0 rfl
      refine⟨dx (by decide) rfl ?_,?_⟩
      ·rintro wq hq ⟨h0,-⟩
       change v 6=_ at h0;exact jm (.tmp 61) 0 rfl _ h0 rfl rfl
      refine⟨nR (by decide) ?_ ?_,?_⟩
      ·rintro wq hq ⟨h0,-⟩
       change v 6=_ at h0;exact jm (.tmp 61) 1 rfl _ h0 rfl rfl
      ·intro _ wq hq hd
       obtain⟨h0,-⟩:=hd;change v 6=_ at h0;exact jm (.tmp 61) 1 rfl _ h0 rfl rfl
      refine⟨dx (by decide) rfl ?_,?_⟩
      ·intro wq hq hd
       exact MS hq.size rfl
      refine⟨yO rfl ?_,?_⟩
      ·intro wq hq hd
       have h7:=hd 7 (by decide);change v 7=_ at h7;have h9:=hd 9 (by decide);change (D8 wF.heap.size).p (v 9) wq at h9;exact P7 (.tmp 15) (.tmp 68) rfl hq h9 h7 rfl (fun _ _=>trivial)
      intro wz hq hT;have k8:=hT 8 (by decide);change v 8=_ at k8;have k9:=hT 9 (by decide);change (Ci wF.heap.size S).p (v 9) wz at k9;clear hT;simp only[List.drop_succ_cons,List.drop_zero,gH,dK,List.set_cons_succ,List.set_cons_zero,Nat.reduceAdd];rw[k8];generalize v 9=x9 at k9⊢;obtain⟨bS,rfl,hbn,hbS⟩:=k9;have YK:=ah ((hq.block (ay Dq.out)).trans Dq.out);have mg:=ah (iR.out.trans hq);have lH:=ah (show w.heap.size+3<bS/\w2.heap.size<bS from⟨by have:=ay Dq.out;omega,by have:=aeo.out;omega⟩);have YL:=ah (fun W (he:Ext wz W)=>YJ.out W (hq.trans he));have av3:=ah (bQ aeo.out hq.size)
      have J2:=ah (show∀W,Ext wz W->At W bS 0 (aW S.1 S.2.1)from fun W he j z hz=>by
       rw[he.cell (p:=⟨bS,0+j,none⟩) (ay hbS)];simp only[World.cell?,hbS];simpa[aW]using hz)
      have ak8:=ah hbS;clear k8 Hld zL Ch hbn hq hbS mK agR QJ vF YJ aeo Dq;by_cases hE2:S.2.2=0
      ·have hsp:=T9 (k:=k) (u:=u) (id:=tg) (x:=y) Hy.out (by rw[HS.out];exact hE2)
       rw[HS.out]at hsp;obtain⟨p,J,E2⟩:=S;simp only at hE2 hsp J2 ak8⊢;subst hE2;obtain⟨z,hz,hzi,j,rfl,hjl⟩:=hsp;have Hz:=ah (show z∈bO u/\z.id=p/\j<=z.kids.length from⟨hz,hzi,hjl⟩);have hjb:j<=1000:=by have:=(fI.out.pre hz).all.head.2.2.2.1;omega
       have hab:a<=1000:=by have:=(fI.out.pre Hp.out.mem).all.head.2.2.2.1;have:=Hp.out.lt;omega
       clear hz hzi hjl;have d0:((0:Int)==0)=true:=rfl;have Dr:=ah (show At wz bS 0 (aM.E p)from fun i x hx=>J2.out wz (Ext.refl _) i x (KP hx));have c3:wz.cell? ⟨bS,3,none⟩=some (.int .i64 (j:Nat)):=by simpa using(J2.out wz (Ext.refl _)).one 3 (u:=.int .i64 (j:Nat)) rfl
       by_cases hpq:p=q.id/\a<j
       ·have heq2:∀W,(binOp .eql 26 (.agg (aM.E p).toArray) (.agg (aM.E q.id).toArray)).run prog W=.ok (.bool true) W:=fun W=>by rw[EY,bJ hpq.1]
        have d1:decide ((a:Int)<(j:Int))=true:=bJ (by have:=hpq.2;omega);have d2:decide (a<j)=true:=bJ hpq.2;have hj1:1<=j:=by have:=hpq.2;omega
        have Hpq:=ah hpq;clear hpq;go_upto_region 11 with(first|((with_reducible refine au aM (.tmp 73) ?_ ?_ ?_ bS 0 ?_ p ?_ ?_);rfl;rfl;rfl;rfl;exact Dr.out)|((with_reducible refine au aM (.tmp 11) ?_ ?_ ?_ w2.heap.size 0 ?_ q.id ?_ ?_);rfl;rfl;rfl;rfl;exact YL.out _ (Ext.refl _))|(refine aP rfl 3 (.tmp 87) (.tmp 86) rfl bS 3 (.int .i64 ((j:Int)-1)) rfl rfl [.int .i64 ((j:Int)-1)] rfl sizeOf3 (by simp[Value.oneCell']) 201 _ ak8.out (by simp[aW]) ?_;intro wY hwY ala alb alc hsY ald))
        have Oe:At wY bS 0 (aW p ((j:Int)-1)):=fun i x hx=>by
         simp only[World.cell?,ald];simpa[aW]using hx
        have ar4:=ah ((hwY (w.heap.size+3) (by have:=lH.out.1;omega)).trans YK.out);have HX6:=ah (show Ext w wY from mg.out.put (by have:=lH.out;omega) hwY ala alb alc hsY);clear hwY ala alb alc hsY ald c3;go_wp2_with (first|(refine jG rfl (uf 201 (.tmp 15) rfl isAgg201 (aW p ((j:Int)-1)) sizeOf201 bS 0 rfl Oe) ?_)|(refine aP rfl 201 (.tmp 8) (.tmp 88) rfl (w.heap.size+3) 0 (.agg (aW p ((j:Int)-1)).toArray) rfl rfl (aW p ((j:Int)-1)) rfl sizeOf201 (by simp[aW,Value.oneCell']) 201 _ ar4.out (by simp[aW]) ?_;intro w9 D9 uL uM uN sD y7))
        have y8:w9.heap[w.heap.size+3]? =some (.cells (aW p ((j:Int)-1)).toArray 201 (0,0)):=by rw[y7];simp[aW]
        refine bodyPost_ret (fJ rfl isAgg201 (aW p ((j:Int)-1)) sizeOf201 _ _ (w.heap.size+3) _ rfl y8) rfl ?_;have iZ:Ext w w9:=(HX6.out).put (by omega) D9 uL uM uN sD;refine⟨p,(j:Int)-1,0,rfl,fun _=>⟨j-1,by omega,q,a,Hp.out,z,Hz.out.1,Hz.out.2.1,?_⟩,iZ⟩;have h1:=Hz.out.2.2;have h2:z.id=q.id:=Hz.out.2.1.trans Hpq.out.1;rw[bH h2];omega
       ·have hres:IC u id p j:=by
         refine⟨q,a,Hp.out,z,Hz.out.1,Hz.out.2.1,?_⟩
         split
         ·rename_i he
          have Rp:=wZ Hnd.out Hz.out.1 Hp.out.mem he;have h1:p=q.id:=by rw[<-Hz.out.2.1];exact he
          have h2:=Hp.out.lt;have h3:¬a<j:=fun h=>hpq ⟨h1,h⟩;rw[Rp];omega
         ·exact Hz.out.2.2
        have uz:=ah hres;obtain⟨e1,he1⟩:=aH (decide (p=q.id));obtain⟨e2,he2⟩:=aH (decide ((a:Int)<(j:Int)));have heq2:∀W,(binOp .eql 26 (.agg (aM.E p).toArray) (.agg (aM.E q.id).toArray)).run prog W=.ok (.bool e1) W:=fun W=>by rw[EY,he1]
        have Hno:=ah (show ¬(e1=true/\e2=true)from fun h=>hpq ⟨by rw[h.1]at he1;exact of_decide_eq_true he1,by rw[h.2]at he2;have:=of_decide_eq_true he2;omega⟩);have d1:decide ((a:Int)<(j:Int))=e2:=he2;have d2:decide (a<j)=e2:=by rw[<-he2];simp
        have Oe:At wz bS 0 (aW p (j:Int)):=J2.out wz (Ext.refl _);clear hres hpq he1 he2;cases e1 with
        |false=>
         go_wp2_with (first|((with_reducible refine au aM (.tmp 73) ?_ ?_ ?_ bS 0 ?_ p ?_ ?_);rfl;rfl;rfl;rfl;exact Dr.out)|((with_reducible refine au aM (.tmp 11) ?_ ?_ ?_ w2.heap.size 0 ?_ q.id ?_ ?_);rfl;rfl;rfl;rfl;exact YL.out _ (Ext.refl _))|(refine jG rfl (uf 201 (.tmp 15) rfl isAgg201 (aW p (j:Int)) sizeOf201 bS 0 rfl Oe) ?_)|(refine aP rfl 201 (.tmp 8) (.tmp 88) rfl (w.heap.size+3) 0 (.agg (aW p (j:Int)).toArray) rfl rfl (aW p (j:Int)) rfl sizeOf201 (by simp[aW,Value.oneCell']) 201 _ YK.out (by simp[aW]) ?_;intro w9 D9 uL uM uN sD y7))
         have y8:w9.heap[w.heap.size+3]? =some (.cells (aW p (j:Int)).toArray 201 (0,0)):=by rw[y7];simp[aW]
         refine bodyPost_ret (fJ rfl isAgg201 (aW p (j:Int)) sizeOf201 _ _ (w.heap.size+3) _ rfl y8) rfl ?_;have iZ:Ext w w9:=(mg.out).put (by omega) D9 uL uM uN sD;exact⟨p,(j:Int),0,rfl,fun _=>⟨j,rfl,uz.out⟩,iZ⟩
        |true=>
         cases e2 with
         |true=>exact absurd ⟨rfl,rfl⟩ Hno.out
         |false=>
          go_wp2_with (first|((with_reducible refine au aM (.tmp 73) ?_ ?_ ?_ bS 0 ?_ p ?_ ?_);rfl;rfl;rfl;rfl;exact Dr.out)|((with_reducible refine au aM (.tmp 11) ?_ ?_ ?_ w2.heap.size 0 ?_ q.id ?_ ?_);rfl;rfl;rfl;rfl;exact YL.out _ (Ext.refl _))|(refine jG rfl (uf 201 (.tmp 15) rfl isAgg201 (aW p (j:Int)) sizeOf201 bS 0 rfl Oe) ?_)|(refine aP rfl 201 (.tmp 8) (.tmp 88) rfl (w.heap.size+3) 0 (.agg (aW p (j:Int)).toArray) rfl rfl (aW p (j:Int)) rfl sizeOf201 (by simp[aW,Value.oneCell']) 201 _ YK.out (by simp[aW]) ?_;intro w9 D9 uL uM uN sD y7))
          have y8:w9.heap[w.heap.size+3]? =some (.cells (aW p (j:Int)).toArray 201 (0,0)):=by rw[y7];simp[aW]
          refine bodyPost_ret (fJ rfl isAgg201 (aW p (j:Int)) sizeOf201 _ _ (w.heap.size+3) _ rfl y8) rfl ?_;have iZ:Ext w w9:=(mg.out).put (by omega) D9 uL uM uN sD;exact⟨p,(j:Int),0,rfl,fun _=>⟨j,rfl,uz.out⟩,iZ⟩
      ·have d0:(S.2.2==0)=false:=by simpa using hE2
       have HE2:=ah hE2;have Oe:At wz bS 0 (aW S.1 S.2.1):=J2.out wz (Ext.refl _);clear hE2;go_wp2_with (first|(refine jG rfl (uf 201 (.tmp 15) rfl isAgg201 (aW S.1 S.2.1) sizeOf201 bS 0 rfl Oe) ?_)|(refine aP rfl 201 (.tmp 8) (.tmp 88) rfl (w.heap.size+3) 0 (.agg (aW S.1 S.2.1).toArray) rfl rfl (aW S.1 S.2.1) rfl sizeOf201 (by simp[aW,Value.oneCell']) 201 _ YK.out (by simp[aW]) ?_;intro w9 D9 uL uM uN sD y7))
       have y8:w9.heap[w.heap.size+3]? =some (.cells (aW S.1 S.2.1).toArray 201 (0,0)):=by rw[y7];simp[aW]
       refine bodyPost_ret (fJ rfl isAgg201 (aW S.1 S.2.1) sizeOf201 _ _ (w.heap.size+3) _ rfl y8) rfl ?_;have iZ:Ext w w9:=(mg.out).put (by omega) D9 uL uM uN sD;exact⟨S.1,S.2.1,S.2.2,rfl,fun h=>absurd h HE2.out,iZ⟩
def WQ(u:av)(p:bf)(J:Int):Prop:=∃j:Nat,J=(j:Int)/\∃z∈bO u,z.id=p/\j<=z.kids.length
def WR(u:av)(us:List av)(p:bf)(J:Int):Prop:=∃x,us=[x]/\∃j:Nat,J=(j:Int)/\IC u x.id p j
def ah6(u:av)(x:qo)(w:World)(e:Ending)(w':World):Prop:=∃(p:bf) (J E:Int),e=.returned (.tuple #[.agg p.cells.toArray,.int .i64 J,.int .i64 E])/\(E=0->(x.kind=0/\WQ u p J)∨(x.kind=6/\WR u (iO u x.at_) p J))/\(∀y,iO u x.at_=[y]->x.wh=0->x.kind=0->p=y.id/\J=0/\E=0)/\Ext w w'
theorem Uk(u:av)(r:aB)(x:qo)(q:bE)(w:World)(hr:Reads w u r)(hok:dI u)(hq:gF w x q)(hx:sM x)(hnd:(kW (dN u)).Nodup):
 Calls prog 93 #[.agg r.cells.toArray,.agg q.cells.toArray] w (ah6 u x w):=by
 have hA:∀s∈x.at_,s.l.size<=1048576:=fun s hs=>bX (hx.as_ s hs) (by decide);have hB:∀s∈x.oV,s.l.size<=1048576:=fun s hs=>bX (hx.bs_ s hs) (by decide)
 have Hpt:=ah (fun wq (he:Ext w wq)=>by
  have h:=abR u r x.at_ q.aA q.aC x.wh wq (Reads.ext he _ _ hr) hok (hq.aS.ext he) hq.aC (by have:=hx.a;omega) hA;rw[<-hq.aN,<-hq.wh]at h;exact h)
 have HfA:=ah (fun wq (he:Ext w wq)=>by
  have h:=uW u r x.at_ q.aA q.aC wq (Reads.ext he _ _ hr) hok (hq.aS.ext he) hq.aC (by have:=hx.a;omega) hA;rw[<-hq.aN]at h;exact h)
 have HfB:=ah (fun wq (he:Ext w wq)=>by
  have h:=uW u r x.oV q.bA q.bC wq (Reads.ext he _ _ hr) hok (hq.bS.ext he) hq.bC (by have:=hx.b;omega) hB;rw[<-hq.bN]at h;exact h)
 have Hgo:=ah (fun(id tg:bf) (y:av) (k:Nat) (hy:findF tg u=some y) (hk:k<=3) wq (he:Ext w wq)=>aen u y r id tg k wq (Reads.ext he _ _ hr) hok hy hk hnd);have anq:=ah (Ik u x.oV);have DF:=ah hq.kind;have Hwh:=ah hq.wh;have aep:=ah (fun wq=>JZ q.wh wq);clear hr hok hq hx hnd hA hB;go_enter func93,ntmps93
 go_upto_region 1 with(first|(refine aG aj (.tmp 0) rfl rfl r rfl fun wA aR bG bB aO=> ?_)|(refine aG aT (.tmp 1) rfl rfl q rfl fun wB eH ji hkB eG=> ?_)|(refine aL aM rfl rfl fun wC dD jK fE=> ?_))
 have HX:=ah (aR.trans (eH.trans dD));have dO:=ah (fun W (he:Ext wC W)=>aO.ext (eH.trans (dD.trans he)) (ay bB));have nG:=ah (show∀W,Ext wC W->At W (w.heap.size+1) 0 (aT.E q)from fun W he=>by rw[<-bG];exact eG.ext (dD.trans he) (ay hkB));have sG:=ah (show wC.heap[w.heap.size+2]? =some (.cells aM.z.cells aM.e (0,0))from by rw[show w.heap.size+2=wB.heap.size from by omega];exact fE);have Hcq:=ah (fun W (he:Ext wC W)=>(show W.cell? ⟨w.heap.size+1,0,none⟩=some (.int .i64 q.kind)/\W.cell? ⟨w.heap.size+1,1,none⟩=some (.slice q.aA q.aN q.aC)/\W.cell? ⟨w.heap.size+1,2,none⟩=some (.slice q.bA q.bN q.bC)/\W.cell? ⟨w.heap.size+1,3,none⟩=some (.int .i64 q.wh)from⟨by simpa using(nG.out W he).one 0 (u:=.int .i64 q.kind) rfl,by simpa using(nG.out W he).one 1 (u:=.slice q.aA q.aN q.aC) rfl,by simpa using(nG.out W he).one 2 (u:=.slice q.bA q.bN q.bC) rfl,by simpa using(nG.out W he).one 3 (u:=.int .i64 q.wh) rfl⟩));clear aR bG bB aO eH ji hkB eG dD jK fE nG;obtain⟨c0,c1,c2,c3⟩:=Hcq.out wC (Ext.refl _);by_cases hk0:q.kind=0
 ·have d0:(q.kind==0)=true:=by simp[hk0]
  have yK:=ah (DF.out.symm.trans hk0);have alg:=ah (Hpt.out wC HX.out);clear hk0 Hpt;go_wp2_with ((with_reducible refine au aj (.tmp 2) ?_ ?_ ?_ w.heap.size 0 ?_ r ?_ ?_);rfl;rfl;rfl;rfl;exact dO.out _ (Ext.refl _))
  refine alg.out.mono ?_;rintro e w2 ⟨p,j,E,rfl,hE0,hE1,hx2⟩;have vY:=ah ((hx2.block (ay sG.out)).trans sG.out);have iF:=ah (HX.out.trans hx2);have Ap:=ah hE0;have IB:=ah hE1;clear hE0 hE1 hx2 alg c0 c1 c2 c3;go_wp2_with (refine aD aM (.tmp 4) (.tmp 20) ?_ ?_ w (w.heap.size+2) ?_ p ?_ _ _ vY.out ?_ iF.out (by omega) ?_;rfl;rfl;rfl;rfl;rfl;intro w9 ko qp oI sZ qQ)
  refine bodyPost_ret (gN rfl _ _ (w.heap.size+2) _ rfl oI) rfl ?_;refine⟨p,(j:Nat),E,rfl,fun h=>.inl ⟨yK.out,j,rfl,Ap.out h⟩,fun y hy hw hk=> ?_,ko⟩;obtain⟨a1,a2,a3⟩:=IB.out y hy (by rw[Hwh.out];exact hw);exact⟨a1,by rw[a2];rfl,a3⟩
 ·have d0:(q.kind==0)=false:=by simpa using hk0
  have yK:=ah (show ¬x.kind=0 from by rw[<-DF.out];exact hk0);clear hk0 Hpt;by_cases qH:q.kind=6
  ·have d6:(q.kind !=6)=false:=by simp[qH]
   have Ta:=ah (DF.out.symm.trans qH);clear qH;obtain⟨N,hN⟩:=aH ((decide (0<=q.wh)&&decide (q.wh<=3)));rw[hN]at aep;have HN:=ah hN;clear hN;go_wp2_with fail
   refine(aep.out wC).mono ?_;rintro e w1 ⟨rfl,rfl⟩;cases N with
   |false=>
    go_wp2_with (refine aD aM (.tmp 4) (.tmp 32) ?_ ?_ w (w.heap.size+2) ?_ ⟨0,0,0⟩ ?_ _ _ sG.out ?_ HX.out (by omega) ?_;rfl;rfl;rfl;rfl;rfl;intro w9 ko qp oI sZ qQ)
    refine bodyPost_ret (gN rfl _ _ (w.heap.size+2) _ rfl oI) rfl ?_;exact⟨⟨0,0,0⟩,0,1,rfl,(fun h=>by cases h),fun y hy hw hk=>absurd hk yK.out,ko⟩
   |true=>
    obtain⟨k,hk,hk3⟩:∃k:Nat,q.wh=(k:Int)/\k<=3:=by
     have:=HN.out;simp only[Bool.and_eq_true,decide_eq_true_eq]at this;exact⟨q.wh.toNat,by omega,by omega⟩
    have Hk:=ah hk;rw[hk]at c3;have l8:=ah (HfA.out w1 HX.out);clear hk HfA aep HN;go_wp2_with ((with_reducible refine au aj (.tmp 2) ?_ ?_ ?_ w.heap.size 0 ?_ r ?_ ?_);rfl;rfl;rfl;rfl;exact dO.out _ (Ext.refl _))
    refine l8.out.mono ?_;rintro e w2 ⟨id,E,rfl,hE0,-,hx2⟩;have Ap:=ah hE0;have eD:=ah hx2;have vY:=ah ((hx2.block (ay sG.out)).trans sG.out);have iF:=ah (HX.out.trans hx2);have hz2:w.heap.size+2<w2.heap.size:=by have:=hx2.size;have:=ay sG.out;omega
    clear hE0 hx2 l8 c0 c1 c2 c3;go_upto_region 6 with(first|(refine aL aM rfl rfl fun wD gW oH kg=> ?_)|((refine aD aM (.tmp 7) (.tmp 38) ?_ ?_ w2 w2.heap.size ?_ id ?_ _ _ kg ?_ gW (aI _) ?_);rfl;rfl;rfl;rfl;rfl;intro wE jT o9 jO pW Al))
    have iR:=ah (iF.out.trans jT);have eU:=ah (eD.out.trans jT);have z8:=ah ((jT.block (ay vY.out)).trans vY.out);have iT:=ah (fun W (he:Ext wE W)=>pW.ext he (ay jO));have hz3:w2.heap.size<wE.heap.size:=ay jO;clear gW oH kg jT o9 jO pW Al vY sG;by_cases hE:E=0
    ·have dE:(E !=0)=false:=by simp[hE]
     obtain⟨x1,WM,hxi⟩:=Ap.out hE;have Hux:=ah WM;have WO:=ah hxi;have Hf3:=ah (HfB.out wE iR.out);obtain⟨c0,c1,c2,c3⟩:=Hcq.out wE eU.out;rw[Hk.out]at c3;clear hE WM hxi HfB Ap;go_wp2_with ((with_reducible refine au aj (.tmp 2) ?_ ?_ ?_ w.heap.size 0 ?_ r ?_ ?_);rfl;rfl;rfl;rfl;exact dO.out _ eU.out)
     refine Hf3.out.mono ?_;rintro e w4 ⟨tg,E2,rfl,hE2,-,hx4⟩;have HE2:=ah hE2;have mM:=ah hx4;have aer:=ah ((hx4.block (ay z8.out)).trans z8.out);have JM:=ah (iR.out.trans hx4);have HC4:=ah (eU.out.trans hx4);have yI:w2.heap.size<w4.heap.size:=bQ hz3 hx4.size;have agS:=ah (fun W (he:Ext w4 W)=>iT.out W (hx4.trans he));clear hE2 hx4 Hf3 c0 c1 c2 c3 iT;go_upto_region 9 with(first|(refine aL aM rfl rfl fun wG dL fF dM=> ?_)|((refine aD aM (.tmp 9) (.tmp 49) ?_ ?_ w4 w4.heap.size ?_ tg ?_ _ _ dM ?_ dL (aI _) ?_);rfl;rfl;rfl;rfl;rfl;intro wH mO yj om su Cm))
     have mg:=ah (JM.out.trans mO);have mG:=ah (HC4.out.trans mO);have KQ:=ah ((mO.block (ay aer.out)).trans aer.out);have KT:=ah (fun W (he:Ext wH W)=>su.ext he (ay om));have zx:=ah (agS.out wH mO);have FH:w4.heap.size<wH.heap.size:=ay om;clear dL fF dM mO yj om su Cm aer agS;by_cases hE2:E2=0
     ·have dE2:(E2 !=0)=false:=by simp[hE2]
      obtain⟨x2,alh,ali⟩:=HE2.out hE2
      obtain⟨y,hy⟩:∃y,findF tg u=some y:=by
       have:cZ tg u≠[]:=tF tg u ⟨x2,anq.out x2 (by rw[alh];exact List.mem_cons_self ..),ali⟩;exact⟨_,List.getLast?_eq_some_getLast this⟩
      have Hg:=ah (Hgo.out id tg y k hy hk3 wH mg.out);obtain⟨c0,c1,c2,c3⟩:=Hcq.out wH mG.out;rw[Hk.out]at c3;clear hE2 alh ali hy Hgo;go_wp2_with (first|((with_reducible refine au aj (.tmp 2) ?_ ?_ ?_ w.heap.size 0 ?_ r ?_ ?_);rfl;rfl;rfl;rfl;exact dO.out _ mG.out)|((with_reducible refine au aM (.tmp 7) ?_ ?_ ?_ w2.heap.size 0 ?_ id ?_ ?_);rfl;rfl;rfl;rfl;exact zx.out)|((with_reducible refine au aM (.tmp 9) ?_ ?_ ?_ w4.heap.size 0 ?_ tg ?_ ?_);rfl;rfl;rfl;rfl;exact KT.out _ (Ext.refl _)))
      refine Hg.out.mono ?_;rintro e w6 ⟨p,J,E3,rfl,FP,hx6⟩;have HE3:=ah FP;have alj:=ah ((hx6.block (ay KQ.out)).trans KQ.out);have HX6:=ah (mg.out.trans hx6);have DJ:w.heap.size+2<w6.heap.size:=by have:=hx6.size;omega
      clear FP hx6 Hg c0 c1 c2 c3;go_upto_region 12 with(refine aP rfl 201 (.tmp 10) (.tmp 62) rfl w6.heap.size 0 (.agg (aW p J).toArray) rfl rfl (aW p J) rfl sizeOf201 (by simp[aW,Value.oneCell']) 201 _ (heap_alloc_new w6 (.cells #[.int .i64 0,.int .i64 0,.int .i64 0,.int .i64 0] 201)) (by simp[aW]) ?_;intro w7 hw7 BI BJ BK hs7 KU)
      have aes:Ext w6 w7:=((Ext.refl w6).alloc (.cells #[.int .i64 0,.int .i64 0,.int .i64 0,.int .i64 0] 201)).put (aI _) hw7 BI BJ BK hs7;have Ah:=ah (HX6.out.trans aes);have aeu:=ah ((aes.block (ay alj.out)).trans alj.out);obtain⟨bS,hbS⟩:=aH (w6.heap.size);rw[hbS]at KU DJ⊢
      have J2:=ah (show∀wq,Ext w7 wq->At wq bS 0 (aW p J)from fun wq he j z hz=>by
       rw[he.cell (p:=⟨bS,0+j,none⟩) (ay KU)];simp only[World.cell?,KU];simpa[aW]using hz)
      have lH:=ah DJ;clear hw7 BI BJ BK hs7 KU aes hbS;by_cases FP:E3=0
      ·have dE3:(E3 !=0)=false:=by simp[FP]
       obtain⟨j,hj,hd⟩:=HE3.out FP;have uz:=ah (show WR u (iO u x.at_) p J from⟨x1,Hux.out,j,hj,by rw[WO.out];exact hd⟩);obtain⟨S,hS⟩:∃S:bf×Int×Int,S=(p,J,0):=⟨_,rfl⟩;have hS1:p=S.1:=by rw[hS]
       have hS2:J=S.2.1:=by rw[hS]
       rw[hS1,hS2]at J2 uz;clear FP hj hd hS;subst hS1;subst hS2;go_upto_region 14 with fail
       refine oO 5 4 [0,1] (fun i=>match i with|0=>.pointer (some ⟨bS,0,none⟩)|1=>.agg (bf.cells S.1).toArray|2=>.pointer (some ⟨bS,3,none⟩)|3=>.int .i64 S.2.1|_=>undef) (by kernel_rfl) (by kernel_rfl) (by kernel_rfl) (by kernel_rfl) (by decide) (by decide) rfl ?_;intro W hW;obtain⟨W1,EX,hsz1,hne1,hbk1,yw⟩:=EW (P:=prog) 26 (w.heap.size+2) (bf.cells S.1) sizeOf26 (by simp[bf.cells,Value.oneCell']) 26 _ ((hW.block (ay aeu.out)).trans aeu.out) rfl;have Cj:At W bS 0 (aW S.1 S.2.1):=J2.out W hW
       have MV:At W1 bS 0 (aW S.1 S.2.1):=fun j z hz=>by
        rw[World.cell?_of_block (hne1 bS (by have:=lH.out;omega))];exact Cj j z hz
       refine⟨W1,bY (by decide) (fun _=>EU 201 0 (.tmp 10) rfl _ underlying201 _ rfl 3 sizeOf26 (by decide) bS 0 rfl),oD (by decide) (by decide) (uf 26 (.tmp 68) rfl isAgg26 (bf.cells S.1) sizeOf26 bS 0 rfl (fun j z hz=>Cj j z (KP hz))),bY (by decide) (fun _=>EU 201 1 (.tmp 10) rfl _ underlying201 _ rfl 1 sizeOf3 (by decide) bS 0 rfl),Uc (by decide) (Bb 3 (.tmp 70) rfl isAgg3 bS 3 rfl (.int .i64 S.2.1) (by simpa using Cj.one 3 (u:=.int .i64 S.2.1) rfl)) (Bb 3 (.tmp 70) rfl isAgg3 bS 3 rfl (.int .i64 S.2.1) (by simpa using MV.one 3 (u:=.int .i64 S.2.1) rfl)),wu rfl (yw _ _ (.tmp 4) (.tmp 69) (.agg (bf.cells S.1).toArray) rfl rfl rfl rfl),?_⟩;refine lJ.nil ?_;simp only[List.drop_succ_cons,List.drop_zero,gH,dK,List.set_cons_succ,List.set_cons_zero,Nat.reduceAdd];have mO:Ext w W1:=((Ah.out).trans hW).put (by omega) hne1 EX.os EX.tape EX.output hsz1;have om:=hbk1;clear yw EX hsz1 hne1 hbk1 Cj MV;go_wp2;refine bodyPost_ret (gN rfl _ _ (w.heap.size+2) _ rfl om) rfl ?_;exact⟨S.1,S.2.1,0,rfl,fun _=>.inr ⟨Ta.out,uz.out⟩,fun y hy hw hk=>absurd hk yK.out,mO⟩
      ·have dE3:(E3 !=0)=true:=by simpa using FP
       have HE:=ah FP;clear FP;go_wp2_with (refine aD aM (.tmp 4) (.tmp 66) ?_ ?_ w (w.heap.size+2) ?_ ⟨0,0,0⟩ ?_ _ _ aeu.out ?_ Ah.out (by omega) ?_;rfl;rfl;rfl;rfl;rfl;intro w9 ko qp oI sZ qQ)
       refine bodyPost_ret (gN rfl _ _ (w.heap.size+2) _ rfl oI) rfl ?_;exact⟨⟨0,0,0⟩,0,E3,rfl,fun h=>absurd h HE.out,fun y hy hw hk=>absurd hk yK.out,ko⟩
     ·have dE2:(E2 !=0)=true:=by simpa using hE2
      have HE:=ah hE2;clear hE2;go_wp2_with (refine aD aM (.tmp 4) (.tmp 53) ?_ ?_ w (w.heap.size+2) ?_ ⟨0,0,0⟩ ?_ _ _ KQ.out ?_ mg.out (by omega) ?_;rfl;rfl;rfl;rfl;rfl;intro w9 ko qp oI sZ qQ)
      refine bodyPost_ret (gN rfl _ _ (w.heap.size+2) _ rfl oI) rfl ?_;exact⟨⟨0,0,0⟩,0,E2,rfl,fun h=>absurd h HE.out,fun y hy hw hk=>absurd hk yK.out,ko⟩
    ·have dE:(E !=0)=true:=by simpa using hE
     have HE:=ah hE;clear hE;go_wp2_with (refine aD aM (.tmp 4) (.tmp 42) ?_ ?_ w (w.heap.size+2) ?_ ⟨0,0,0⟩ ?_ _ _ z8.out ?_ iR.out (by omega) ?_;rfl;rfl;rfl;rfl;rfl;intro w9 ko qp oI sZ qQ)
     refine bodyPost_ret (gN rfl _ _ (w.heap.size+2) _ rfl oI) rfl ?_;exact⟨⟨0,0,0⟩,0,E,rfl,fun h=>absurd h HE.out,fun y hy hw hk=>absurd hk yK.out,ko⟩
  ·have d6:(q.kind !=6)=true:=by simpa using qH
   clear qH;go_wp2_with (refine aD aM (.tmp 4) (.tmp 32) ?_ ?_ w (w.heap.size+2) ?_ ⟨0,0,0⟩ ?_ _ _ sG.out ?_ HX.out (by omega) ?_;rfl;rfl;rfl;rfl;rfl;intro w9 ko qp oI sZ qQ)
   refine bodyPost_ret (gN rfl _ _ (w.heap.size+2) _ rfl oI) rfl ?_;exact⟨⟨0,0,0⟩,0,1,rfl,(fun h=>by cases h),fun y hy hw hk=>absurd hk yK.out,ko⟩
end Go.Proofs.YtgboomjahhnldaaGreatDoor
