/- A part of the proof of TopWritten, printed small: TTarget2 TRuns TTarget3 THasId. -/
import Derived.Test.YtgboomjahhnldaaGreatDoorZ29
import Derived.Test.YtgboomjahhnldaaGreatDoorZ15
import Derived.Test.YtgboomjahhnldaaGreatDoorZ21
import Derived.Test.YtgboomjahhnldaaGreatDoorZ06
import Derived.Test.YtgboomjahhnldaaGreatDoorZ05
import Derived.Test.YtgboomjahhnldaaGreatDoorZ22
set_option maxRecDepth 100000
set_option maxHeartbeats 25600000
set_option linter.all false
namespace Go.Proofs.YtgboomjahhnldaaGreatDoor
open Go.Proofs.Tryz Go.RowKit
theorem F5(x:bf)(j:Int)(w:World):(Instr.build 201 #[(0,.agg x.cells.toArray),(1,.int .i64 j)]).run prog w=.ok (.agg (aW x j).toArray) w:=by
 have u:=underlying201;simp only[bf.cells,aW]
 go_simp
def jM(k:Nat)(u:av)(id:bf):bf×Int×Int:=
 if k=0 then(id,0,0)else if k=1 then(id,(((findF id u).map fun x=>x.kids.length).getD 0:Nat),0)
 else if(cZ id u).length<2 then(⟨0,0,0⟩,0,9)else match(cZ id u)[(cZ id u).length-2]? with
  |some p=>(p.id,gI (nM id) p.kids 0+(if k=2 then 1 else 0),0)
  |none=>(⟨0,0,0⟩,0,9)
def Ji(s:bf×Int×Int)(w:World)(e:Ending)(w':World):Prop:=e=.returned (.tuple #[.agg (aW s.1 s.2.1).toArray,.int .i64 s.2.2])/\Ext w w'
theorem YH{id:bf}{u:av}(h:2<=(cZ id u).length):∃p j,pF id u p j:=by
 obtain⟨p,hp⟩:∃p,(cZ id u)[(cZ id u).length-2]? =some p:=⟨_,fP (by omega)⟩;obtain⟨j,hj,hl⟩:=OV (Et id u h p hp);exact⟨p,j,yT id u p (List.mem_of_getElem? hp),hl,hp,hj,h⟩
theorem P5{id:bf}{u p:av}{j k:Nat}(h:pF id u p j)(hk:2<=k):jM k u id=(p.id,(j:Int)+(if k=2 then 1 else 0),0):=by
 unfold jM;rw[aU (by omega),aU (by omega),aU (by have:=h.two;omega),h.at_];simp only;rw[h.idx]
theorem MQ{id:bf}{u:av}{k:Nat}(h:(cZ id u).length<2)(hk:2<=k):jM k u id=(⟨0,0,0⟩,0,9):=by
 unfold jM;rw[aU (by omega),aU (by omega),bH h]
theorem T9{k:Nat}{u x:av}{id:bf}(hx:findF id u=some x)(hE:(jM k u id).2.2=0):∃z∈bO u,z.id=(jM k u id).1/\∃j:Nat,(jM k u id).2.1=(j:Int)/\j<=z.kids.length:=by
 have hl:=rC id u x hx;by_cases h0:k=0
 ·subst h0
  exact⟨x,hl.2,hl.1,0,rfl,bI _⟩
 by_cases h1:k=1
 ·subst h1
  refine⟨x,hl.2,hl.1,x.kids.length,?_,aI _⟩;unfold jM;rw[aU (by decide),bH rfl,hx];rfl
 ·by_cases h2:(cZ id u).length<2
  ·rw[MQ h2 (by omega)]at hE
   cases hE
  ·obtain⟨p,j,hp⟩:=YH (id:=id) (u:=u) (by omega)
   have hlt:=hp.lt;rw[P5 hp (by omega)];refine⟨p,hp.mem,rfl,j+(if k=2 then 1 else 0),?_,?_⟩
   ·split<;>simp
   ·split<;>omega
theorem MR(u:av)(r:aB)(id:bf)(b:Nat)(w:World)(hr:Reads w u r)(hok:dI u)(hb:b<=1):
 Calls prog 231 #[.agg r.cells.toArray,.agg id.cells.toArray,.int .i64 (b:Nat)] w (Ji (jM (3-b) u id) w):=by
 have Hf:=ah (fun wq (he:Ext w wq)=>uR u r id wq (Reads.ext he _ _ hr) hok);have fI:=ah hok;clear hr hok;go_enter func231,ntmps231
 go_upto_region 1 with(first|(refine aG aj (.tmp 0) rfl rfl r rfl fun wA aR bG bB aO=> ?_)|(refine aG aM (.tmp 1) rfl rfl id rfl fun wB eH ji hkB eG=> ?_))
 have j4:Ext wB (wB.alloc (.cells #[.int .i64 0,.int .i64 0,.int .i64 0,.int .i64 0] 201)):=(Ext.refl wB).alloc _
 have kL:(wB.alloc (.cells #[.int .i64 0,.int .i64 0,.int .i64 0,.int .i64 0] 201)).heap[w.heap.size+2]? =some (.cells #[.int .i64 0,.int .i64 0,.int .i64 0,.int .i64 0] 201 (0,0)):=by
  have h:=heap_alloc_new wB (.cells #[.int .i64 0,.int .i64 0,.int .i64 0,.int .i64 0] 201)
  rwa[ji,bG]at h
 obtain⟨wS,rD⟩:=aH (wB.alloc (.cells #[.int .i64 0,.int .i64 0,.int .i64 0,.int .i64 0] 201));rw[rD]at j4 kL⊢;have tH:=ah (aR.trans (eH.trans j4));have dO:=ah (fun W (he:Ext wS W)=>aO.ext (eH.trans (j4.trans he)) (ay bB));have iT:=ah (show∀W,Ext wS W->At W (w.heap.size+1) 0 (aM.E id)from fun W he=>by rw[<-bG];exact eG.ext (j4.trans he) (ay hkB));have CX:=ah kL;have tJ:=ah (show w.heap.size+2<wS.heap.size/\w.heap.size+1<wS.heap.size from⟨ay kL,by have:=ay kL;omega⟩);clear rD kL j4 aR bG bB aO eH ji hkB eG;have l8:=ah (Hf.out wS tH.out);clear Hf;go_wp2_with (first|((with_reducible refine au aj (.tmp 3) ?_ ?_ ?_ w.heap.size 0 ?_ r ?_ ?_);rfl;rfl;rfl;rfl;exact dO.out _ (Ext.refl _))|((with_reducible refine au aM (.tmp 4) ?_ ?_ ?_ (w.heap.size+1) 0 ?_ id ?_ ?_);rfl;rfl;rfl;rfl;exact iT.out _ (Ext.refl _)))
 refine l8.out.mono ?_;rintro e w2 ⟨hx2,hres⟩;have hkq:=(hx2.block tJ.out.1).trans CX.out;have eD:=ah (tH.out.trans hx2);have hz2:w.heap.size+2<w2.heap.size:=bQ tJ.out.1 hx2.size;rcases hres with⟨hlt,rfl⟩|⟨p,j,rfl,hp⟩
 ·have Hsp:=ah (MQ hlt (k:=3-b) (by omega))
  clear l8 hx2 hlt;go_upto_region 2 with(first|(refine aL aM rfl rfl fun wD gW oH kg=> ?_)|((refine aD aM (.tmp 8) (.tmp 15) ?_ ?_ w2 w2.heap.size ?_ ⟨0,0,0⟩ ?_ _ _ kg ?_ gW (aI _) ?_);rfl;rfl;rfl;rfl;rfl;intro wE jT o9 jO pW Al))
  have Ua:=(jT.block (k:=w.heap.size+2) hz2).trans hkq;have eU:=ah (eD.out.trans jT);clear hkq jT o9 jO pW Al gW oH kg;have hkq:=Ua;clear Ua;go_wp2_with (refine aP rfl 201 (.tmp 6) (.tmp 20) rfl (w.heap.size+2) 0 (.agg (aW ⟨0,0,0⟩ 0).toArray) rfl rfl (aW ⟨0,0,0⟩ 0) rfl sizeOf201 (by simp[aW,Value.oneCell']) 201 _ hkq (by simp[aW]) ?_;intro w4 hw4 dP dQ dR hs4 eX)
  have hk4:w4.heap[w.heap.size+2]? =some (.cells (aW ⟨0,0,0⟩ 0).toArray 201 (0,0)):=by rw[eX];simp[aW]
  refine bodyPost_ret (fJ rfl isAgg201 (aW ⟨0,0,0⟩ 0) sizeOf201 _ _ (w.heap.size+2) _ rfl hk4) rfl ?_;exact⟨by rw[Hsp.out];rfl,eU.out.put (by omega) hw4 dP dQ dR hs4⟩
 ·have Hsp:=ah (P5 hp (k:=3-b) (by omega))
  have hj:j<=1000:=by have:=(fI.out.pre hp.mem).all.head.2.2.2.1;have:=hp.lt;omega
  clear l8 hx2 hp;go_upto_region 2 with(first|(refine aL aM rfl rfl fun wD gW oH kg=> ?_)|((refine aD aM (.tmp 8) (.tmp 15) ?_ ?_ w2 w2.heap.size ?_ p.id ?_ _ _ kg ?_ gW (aI _) ?_);rfl;rfl;rfl;rfl;rfl;intro wE jT o9 jO pW Al))
  have Ua:=(jT.block (k:=w.heap.size+2) hz2).trans hkq;have eU:=ah (eD.out.trans jT);have ar3:=ah pW;clear hkq jT o9 jO pW Al gW oH kg;have hkq:=Ua;clear Ua;go_wp2_with (first|((with_reducible refine au aM (.tmp 8) ?_ ?_ ?_ w2.heap.size 0 ?_ p.id ?_ ?_);rfl;rfl;rfl;rfl;exact ar3.out)|(refine wpList_build 201 [(0,.tmp 21),(1,.tmp 24)] rfl rfl [(0,.agg p.id.cells.toArray),(1,.int .i64 ((j:Int)+(b:Int)))] ⟨⟨rfl,rfl⟩,⟨rfl,rfl⟩,trivial⟩ (.agg (aW p.id ((j:Int)+(b:Int))).toArray) (F5 _ _ _) ?_)|(refine aP rfl 201 (.tmp 6) (.tmp 25) rfl (w.heap.size+2) 0 (.agg (aW p.id ((j:Int)+(b:Int))).toArray) rfl rfl (aW p.id ((j:Int)+(b:Int))) rfl sizeOf201 (by simp[aW,Value.oneCell']) 201 _ hkq (by simp[aW]) ?_;intro w4 hw4 dP dQ dR hs4 eX))
  have hk4:w4.heap[w.heap.size+2]? =some (.cells (aW p.id ((j:Int)+(b:Int))).toArray 201 (0,0)):=by rw[eX];simp[aW]
  refine bodyPost_ret (fJ rfl isAgg201 (aW p.id ((j:Int)+(b:Int))) sizeOf201 _ _ (w.heap.size+2) _ rfl hk4) rfl ?_;refine⟨?_,eU.out.put (by omega) hw4 dP dQ dR hs4⟩;rw[Hsp.out,show(if 3-b=2 then(1:Int)else 0)=(b:Int)from by split<;>omega];rfl
theorem abN(u x:av)(r:aB)(id:bf)(w:World)(hr:Reads w u r)(hok:dI u)(hx:findF id u=some x):
 Calls prog 225 #[.agg r.cells.toArray,.agg id.cells.toArray] w fun e w'=>e=.returned (.tuple #[.agg (aW id ((0:Nat):Int)).toArray,.int .i64 0])/\Ext w w':=by
 have Hf:=ah (fun wq (he:Ext w wq)=>TY u x r id 227 (fun _=>0) wq (Reads.ext he _ _ hr) hok hx (fun _ _=>rfl) (fun wy=>aek _ wy));clear hr hok hx;go_enter func225,ntmps225
 go_upto_region 1 with(first|(refine aG aj (.tmp 0) rfl rfl r rfl fun wA aR bG bB aO=> ?_)|(refine aG aM (.tmp 1) rfl rfl id rfl fun wB eH ji hkB eG=> ?_))
 have j4:Ext wB (wB.alloc (.cells #[.int .i64 0,.int .i64 0,.int .i64 0,.int .i64 0] 201)):=(Ext.refl wB).alloc _
 have kL:(wB.alloc (.cells #[.int .i64 0,.int .i64 0,.int .i64 0,.int .i64 0] 201)).heap[w.heap.size+2]? =some (.cells #[.int .i64 0,.int .i64 0,.int .i64 0,.int .i64 0] 201 (0,0)):=by
  have h:=heap_alloc_new wB (.cells #[.int .i64 0,.int .i64 0,.int .i64 0,.int .i64 0] 201)
  rwa[ji,bG]at h
 obtain⟨wS,rD⟩:=aH (wB.alloc (.cells #[.int .i64 0,.int .i64 0,.int .i64 0,.int .i64 0] 201));rw[rD]at j4 kL⊢;have tH:=ah (aR.trans (eH.trans j4));have dO:=ah (fun W (he:Ext wS W)=>aO.ext (eH.trans (j4.trans he)) (ay bB));have iT:=ah (show∀W,Ext wS W->At W (w.heap.size+1) 0 (aM.E id)from fun W he=>by rw[<-bG];exact eG.ext (j4.trans he) (ay hkB));have CX:=ah kL;have tJ:=ah (show w.heap.size+2<wS.heap.size/\w.heap.size+1<wS.heap.size from⟨ay kL,by have:=ay kL;omega⟩);clear rD kL j4 aR bG bB aO eH ji hkB eG;have l8:=ah (Hf.out wS tH.out);clear Hf;go_wp2_with (first|((with_reducible refine au aj (.tmp 2) ?_ ?_ ?_ w.heap.size 0 ?_ r ?_ ?_);rfl;rfl;rfl;rfl;exact dO.out _ (Ext.refl _))|((with_reducible refine au aM (.tmp 3) ?_ ?_ ?_ (w.heap.size+1) 0 ?_ id ?_ ?_);rfl;rfl;rfl;rfl;exact iT.out _ (Ext.refl _)))
 refine l8.out.mono ?_;rintro e w2 ⟨rfl,hx2⟩;have hkq:=(hx2.block tJ.out.1).trans CX.out;have eU:=ah (tH.out.trans hx2);clear hx2 l8;go_wp2_with (refine aP rfl 201 (.tmp 4) (.tmp 9) rfl (w.heap.size+2) 0 (.agg (aW id ((0:Nat):Int)).toArray) rfl rfl (aW id ((0:Nat):Int)) rfl sizeOf201 (by simp[aW,Value.oneCell']) 201 _ hkq (by simp[aW]) ?_;intro w4 hw4 dP dQ dR hs4 eX)
 have hk4:w4.heap[w.heap.size+2]? =some (.cells (aW id ((0:Nat):Int)).toArray 201 (0,0)):=by rw[eX];simp[aW]
 refine bodyPost_ret (fJ rfl isAgg201 (aW id ((0:Nat):Int)) sizeOf201 _ _ (w.heap.size+2) _ rfl hk4) rfl ?_;exact⟨rfl,eU.out.put (by omega) hw4 dP dQ dR hs4⟩
theorem abO(u x:av)(r:aB)(id:bf)(w:World)(hr:Reads w u r)(hok:dI u)(hx:findF id u=some x):
 Calls prog 228 #[.agg r.cells.toArray,.agg id.cells.toArray] w fun e w'=>e=.returned (.tuple #[.agg (aW id (x.kids.length:Nat)).toArray,.int .i64 0])/\Ext w w':=by
 have Hf:=ah (fun wq (he:Ext w wq)=>TY u x r id 229 (fun n=>n) wq (Reads.ext he _ _ hr) hok hx (fun _ _=>rfl) (fun wy=>ael _ wy));clear hr hok hx;go_enter func228,ntmps228
 go_upto_region 1 with(first|(refine aG aj (.tmp 0) rfl rfl r rfl fun wA aR bG bB aO=> ?_)|(refine aG aM (.tmp 1) rfl rfl id rfl fun wB eH ji hkB eG=> ?_))
 have j4:Ext wB (wB.alloc (.cells #[.int .i64 0,.int .i64 0,.int .i64 0,.int .i64 0] 201)):=(Ext.refl wB).alloc _
 have kL:(wB.alloc (.cells #[.int .i64 0,.int .i64 0,.int .i64 0,.int .i64 0] 201)).heap[w.heap.size+2]? =some (.cells #[.int .i64 0,.int .i64 0,.int .i64 0,.int .i64 0] 201 (0,0)):=by
  have h:=heap_alloc_new wB (.cells #[.int .i64 0,.int .i64 0,.int .i64 0,.int .i64 0] 201)
  rwa[ji,bG]at h
 obtain⟨wS,rD⟩:=aH (wB.alloc (.cells #[.int .i64 0,.int .i64 0,.int .i64 0,.int .i64 0] 201));rw[rD]at j4 kL⊢;have tH:=ah (aR.trans (eH.trans j4));have dO:=ah (fun W (he:Ext wS W)=>aO.ext (eH.trans (j4.trans he)) (ay bB));have iT:=ah (show∀W,Ext wS W->At W (w.heap.size+1) 0 (aM.E id)from fun W he=>by rw[<-bG];exact eG.ext (j4.trans he) (ay hkB));have CX:=ah kL;have tJ:=ah (show w.heap.size+2<wS.heap.size/\w.heap.size+1<wS.heap.size from⟨ay kL,by have:=ay kL;omega⟩);clear rD kL j4 aR bG bB aO eH ji hkB eG;have l8:=ah (Hf.out wS tH.out);clear Hf;go_wp2_with (first|((with_reducible refine au aj (.tmp 2) ?_ ?_ ?_ w.heap.size 0 ?_ r ?_ ?_);rfl;rfl;rfl;rfl;exact dO.out _ (Ext.refl _))|((with_reducible refine au aM (.tmp 3) ?_ ?_ ?_ (w.heap.size+1) 0 ?_ id ?_ ?_);rfl;rfl;rfl;rfl;exact iT.out _ (Ext.refl _)))
 refine l8.out.mono ?_;rintro e w2 ⟨rfl,hx2⟩;have hkq:=(hx2.block tJ.out.1).trans CX.out;have eU:=ah (tH.out.trans hx2);clear hx2 l8;go_wp2_with (refine aP rfl 201 (.tmp 4) (.tmp 9) rfl (w.heap.size+2) 0 (.agg (aW id (x.kids.length:Nat)).toArray) rfl rfl (aW id (x.kids.length:Nat)) rfl sizeOf201 (by simp[aW,Value.oneCell']) 201 _ hkq (by simp[aW]) ?_;intro w4 hw4 dP dQ dR hs4 eX)
 have hk4:w4.heap[w.heap.size+2]? =some (.cells (aW id (x.kids.length:Nat)).toArray 201 (0,0)):=by rw[eX];simp[aW]
 refine bodyPost_ret (fJ rfl isAgg201 (aW id (x.kids.length:Nat)) sizeOf201 _ _ (w.heap.size+2) _ rfl hk4) rfl ?_;exact⟨rfl,eU.out.put (by omega) hw4 dP dQ dR hs4⟩
theorem abP(u:av)(r:aB)(id:bf)(w:World)(hr:Reads w u r)(hok:dI u):
 Calls prog 230 #[.agg r.cells.toArray,.agg id.cells.toArray] w (Ji (jM 2 u id) w):=by
 have Hf:=ah (fun wq (he:Ext w wq)=>MR u r id 1 wq (Reads.ext he _ _ hr) hok (by decide));clear hr hok;go_enter func230,ntmps230
 go_upto_region 1 with(first|(refine aG aj (.tmp 0) rfl rfl r rfl fun wA aR bG bB aO=> ?_)|(refine aG aM (.tmp 1) rfl rfl id rfl fun wB eH ji hkB eG=> ?_))
 have j4:Ext wB (wB.alloc (.cells #[.int .i64 0,.int .i64 0,.int .i64 0,.int .i64 0] 201)):=(Ext.refl wB).alloc _
 have kL:(wB.alloc (.cells #[.int .i64 0,.int .i64 0,.int .i64 0,.int .i64 0] 201)).heap[w.heap.size+2]? =some (.cells #[.int .i64 0,.int .i64 0,.int .i64 0,.int .i64 0] 201 (0,0)):=by
  have h:=heap_alloc_new wB (.cells #[.int .i64 0,.int .i64 0,.int .i64 0,.int .i64 0] 201)
  rwa[ji,bG]at h
 obtain⟨wS,rD⟩:=aH (wB.alloc (.cells #[.int .i64 0,.int .i64 0,.int .i64 0,.int .i64 0] 201));rw[rD]at j4 kL⊢;have tH:=ah (aR.trans (eH.trans j4));have dO:=ah (fun W (he:Ext wS W)=>aO.ext (eH.trans (j4.trans he)) (ay bB));have iT:=ah (show∀W,Ext wS W->At W (w.heap.size+1) 0 (aM.E id)from fun W he=>by rw[<-bG];exact eG.ext (j4.trans he) (ay hkB));have CX:=ah kL;have tJ:=ah (show w.heap.size+2<wS.heap.size/\w.heap.size+1<wS.heap.size from⟨ay kL,by have:=ay kL;omega⟩);clear rD kL j4 aR bG bB aO eH ji hkB eG;have l8:=ah (Hf.out wS tH.out);clear Hf;go_wp2_with (first|((with_reducible refine au aj (.tmp 2) ?_ ?_ ?_ w.heap.size 0 ?_ r ?_ ?_);rfl;rfl;rfl;rfl;exact dO.out _ (Ext.refl _))|((with_reducible refine au aM (.tmp 3) ?_ ?_ ?_ (w.heap.size+1) 0 ?_ id ?_ ?_);rfl;rfl;rfl;rfl;exact iT.out _ (Ext.refl _)))
 refine l8.out.mono ?_;rintro e w2 ⟨rfl,hx2⟩;have hkq:=(hx2.block tJ.out.1).trans CX.out;have eU:=ah (tH.out.trans hx2);clear hx2 l8;go_wp2_with (refine aP rfl 201 (.tmp 4) (.tmp 9) rfl (w.heap.size+2) 0 (.agg (aW (jM 2 u id).1 (jM 2 u id).2.1).toArray) rfl rfl (aW (jM 2 u id).1 (jM 2 u id).2.1) rfl sizeOf201 (by simp[aW,Value.oneCell']) 201 _ hkq (by simp[aW]) ?_;intro w4 hw4 dP dQ dR hs4 eX)
 have hk4:w4.heap[w.heap.size+2]? =some (.cells (aW (jM 2 u id).1 (jM 2 u id).2.1).toArray 201 (0,0)):=by rw[eX];simp[aW]
 refine bodyPost_ret (fJ rfl isAgg201 (aW (jM 2 u id).1 (jM 2 u id).2.1) sizeOf201 _ _ (w.heap.size+2) _ rfl hk4) rfl ?_;exact⟨rfl,eU.out.put (by omega) hw4 dP dQ dR hs4⟩
theorem abQ(u:av)(r:aB)(id:bf)(w:World)(hr:Reads w u r)(hok:dI u):
 Calls prog 232 #[.agg r.cells.toArray,.agg id.cells.toArray] w (Ji (jM 3 u id) w):=by
 have Hf:=ah (fun wq (he:Ext w wq)=>MR u r id 0 wq (Reads.ext he _ _ hr) hok (by decide));clear hr hok;go_enter func232,ntmps232
 go_upto_region 1 with(first|(refine aG aj (.tmp 0) rfl rfl r rfl fun wA aR bG bB aO=> ?_)|(refine aG aM (.tmp 1) rfl rfl id rfl fun wB eH ji hkB eG=> ?_))
 have j4:Ext wB (wB.alloc (.cells #[.int .i64 0,.int .i64 0,.int .i64 0,.int .i64 0] 201)):=(Ext.refl wB).alloc _
 have kL:(wB.alloc (.cells #[.int .i64 0,.int .i64 0,.int .i64 0,.int .i64 0] 201)).heap[w.heap.size+2]? =some (.cells #[.int .i64 0,.int .i64 0,.int .i64 0,.int .i64 0] 201 (0,0)):=by
  have h:=heap_alloc_new wB (.cells #[.int .i64 0,.int .i64 0,.int .i64 0,.int .i64 0] 201)
  rwa[ji,bG]at h
 obtain⟨wS,rD⟩:=aH (wB.alloc (.cells #[.int .i64 0,.int .i64 0,.int .i64 0,.int .i64 0] 201));rw[rD]at j4 kL⊢;have tH:=ah (aR.trans (eH.trans j4));have dO:=ah (fun W (he:Ext wS W)=>aO.ext (eH.trans (j4.trans he)) (ay bB));have iT:=ah (show∀W,Ext wS W->At W (w.heap.size+1) 0 (aM.E id)from fun W he=>by rw[<-bG];exact eG.ext (j4.trans he) (ay hkB));have CX:=ah kL;have tJ:=ah (show w.heap.size+2<wS.heap.size/\w.heap.size+1<wS.heap.size from⟨ay kL,by have:=ay kL;omega⟩);clear rD kL j4 aR bG bB aO eH ji hkB eG;have l8:=ah (Hf.out wS tH.out);clear Hf;go_wp2_with (first|((with_reducible refine au aj (.tmp 2) ?_ ?_ ?_ w.heap.size 0 ?_ r ?_ ?_);rfl;rfl;rfl;rfl;exact dO.out _ (Ext.refl _))|((with_reducible refine au aM (.tmp 3) ?_ ?_ ?_ (w.heap.size+1) 0 ?_ id ?_ ?_);rfl;rfl;rfl;rfl;exact iT.out _ (Ext.refl _)))
 refine l8.out.mono ?_;rintro e w2 ⟨rfl,hx2⟩;have hkq:=(hx2.block tJ.out.1).trans CX.out;have eU:=ah (tH.out.trans hx2);clear hx2 l8;go_wp2_with (refine aP rfl 201 (.tmp 4) (.tmp 9) rfl (w.heap.size+2) 0 (.agg (aW (jM 3 u id).1 (jM 3 u id).2.1).toArray) rfl rfl (aW (jM 3 u id).1 (jM 3 u id).2.1) rfl sizeOf201 (by simp[aW,Value.oneCell']) 201 _ hkq (by simp[aW]) ?_;intro w4 hw4 dP dQ dR hs4 eX)
 have hk4:w4.heap[w.heap.size+2]? =some (.cells (aW (jM 3 u id).1 (jM 3 u id).2.1).toArray 201 (0,0)):=by rw[eX];simp[aW]
 refine bodyPost_ret (fJ rfl isAgg201 (aW (jM 3 u id).1 (jM 3 u id).2.1) sizeOf201 _ _ (w.heap.size+2) _ rfl hk4) rfl ?_;exact⟨rfl,eU.out.put (by omega) hw4 dP dQ dR hs4⟩
def ig:List Nat:=[225,228,230,232]
theorem P6(w:World):Calls prog 203 #[] w fun e w'=>e=.returned (.agg (ig.map dZ).toArray)/\Ext w w':=by
 go_enter func203,ntmps203
 have hk0:(w.alloc (.cells #[.nilFunc,.nilFunc,.nilFunc,.nilFunc] 245)).heap[w.heap.size]? =some (.cells #[.nilFunc,.nilFunc,.nilFunc,.nilFunc] 245 (0,0)):=heap_alloc_new _ _;have hx0:Ext w (w.alloc (.cells #[.nilFunc,.nilFunc,.nilFunc,.nilFunc] 245)):=(Ext.refl w).alloc _;go_wp2_with (refine aP rfl 245 (.tmp 0) (.tmp 1) rfl w.heap.size 0 (.agg (ig.map dZ).toArray) rfl rfl (ig.map dZ) rfl sizeOf245 (by simp[ig,dZ,Value.oneCell']) 245 _ hk0 (by simp[ig]) ?_;intro w4 hw4 dP dQ dR hs4 eX)
 have hk4:w4.heap[w.heap.size]? =some (.cells (ig.map dZ).toArray 245 (0,0)):=by rw[eX];simp[ig]
 refine bodyPost_ret (kK rfl isAgg245 (ig.map dZ) sizeOf245 _ _ w.heap.size rfl hk4) rfl ?_;exact⟨rfl,hx0.put (aI _) hw4 dP dQ dR hs4⟩
theorem Ub(k:Nat)(F:Nat)(hk:ig[k]? =some F)(u x:av)(r:aB)(id:bf)(w:World)(hr:Reads w u r)(hok:dI u)(hx:findF id u=some x):Calls prog F #[.agg r.cells.toArray,.agg id.cells.toArray] w (Ji (jM k u id) w):=by
 match k,hk with
 |0,hk=>
  obtain rfl:225=F:=by simpa[ig]using hk
  refine(abN u x r id w hr hok hx).mono ?_;rintro e w' ⟨rfl,h⟩;exact⟨rfl,h⟩
 |1,hk=>
  obtain rfl:228=F:=by simpa[ig]using hk
  refine(abO u x r id w hr hok hx).mono ?_;rintro e w' ⟨rfl,h⟩;refine⟨?_,h⟩;unfold jM;rw[aU (by decide),bH rfl,hx];rfl
 |2,hk=>
  obtain rfl:230=F:=by simpa[ig]using hk
  exact abP u r id w hr hok
 |3,hk=>
  obtain rfl:232=F:=by simpa[ig]using hk
  exact abQ u r id w hr hok
 |k+4,hk=>simp[ig]at hk
section
variable {P:Program} {ρ:Operand->Value} {o:Oper} {w:World}
theorem EU(s f:Nat)(x:Operand)(ho:o.op=.fieldAddr s x f)(fs:Array Field)(hs:P.underlying s=some (.struct fs))(kF:Field)(hf:fs[f]? =some kF)(m:Nat)(hm:∀w,(sizeOf kF.type).run P w=.ok m w)(hm0:m≠0)(b off:Nat)(hx:ρ x=.pointer (some ⟨b,off,none⟩)):
 eP P ρ o w (.pointer (some ⟨b,off+kF.offset,none⟩)) w:=by
 have ea:((⟨b,off,none⟩:Addr).add kF.offset)=⟨b,off+kF.offset,none⟩:=by
  unfold Addr.add
  split
  ·rename_i h0;simp[h0]
  ·rfl
 refine .inl ?_;simp[execOp,ho,hx,Instr.fieldAt,run_underlying hs,hf,Instr.sureAddr,fieldPlace,hm,hm0,ea]
theorem uf(ty:TypeId)(x:Operand)(ho:o.op=.load ty x)(hag:∀w,(isAgg ty).run P w=.ok true w)(cs:List Value)(hsz:∀w,(sizeOf ty).run P w=.ok cs.length w)(b off:Nat)(hx:ρ x=.pointer (some ⟨b,off,none⟩))(hc:At w b off cs):eP P ρ o w (.agg cs.toArray) w:=by
 have hl:=run_loadCells_list (P:=P) w ⟨b,off,none⟩ cs (fun j u hu=>by
  have:=hc j u hu;unfold Addr.add
  split
  ·rename_i h0;subst h0;simpa using this
  ·exact this)
 refine .inl ?_;simp[execOp,ho,hx,Instr.loadAt,Instr.sureAddr,loadVar,hag,hsz,hl]
theorem Bb(ty:TypeId)(x:Operand)(ho:o.op=.load ty x)(hag:∀w,(isAgg ty).run P w=.ok false w)(b off:Nat)(hx:ρ x=.pointer (some ⟨b,off,none⟩))(v:Value)(hc:w.cell? ⟨b,off,none⟩=some v):eP P ρ o w v w:=by
 refine .inl ?_;simp[execOp,ho,hx,Instr.loadAt,Instr.sureAddr,loadVar,hag,load,Sem.run,hc]
theorem EW(ty:TypeId)(g:Nat)(vs:List Value)(hsz:∀w,(sizeOf ty).run P w=.ok vs.length w)(h1:∀u∈vs,u.oneCell'=true)(t:TypeId)(cur:Array Value)(hg:w.heap[g]? =some (.cells cur t (0,0)))(hcs:cur.size=vs.length):
 ∃w',Kp g w w'/\w'.heap.size=w.heap.size/\(∀k,k≠g->w'.heap[k]? =w.heap[k]?)/\w'.heap[g]? =some (.cells vs.toArray t (0,0))/\∀(ρ:Operand->Value) (o:Oper) (x y:Operand) (v:Value),o.op=.store ty x y->ρ x=.pointer (some ⟨g,0,none⟩)->ρ y=v->v.cells.toList=vs->eP P ρ o w undef w':=by
 have hrun:=run_storeCells_at (P:=P) g 0 t vs 0 cur w hg (by rw[hcs];omega) h1
 have e:(cur.toList.take (0+0)++vs++cur.toList.drop (0+0+vs.length)).toArray=vs.toArray:=by
  have:cur.toList.drop (0+0+vs.length)=[]:=by
   apply mH;rw[lK,hcs];omega
  rw[this];simp
 rw[e]at hrun;refine⟨w.setRow g vs.toArray,Kp.put (fun j hj=>setRow_other w g j _ hj) rfl rfl rfl (by simp),by simp,fun j hj=>setRow_other w g j _ hj,setRow_heap w g cur vs.toArray t _ hg,?_⟩;intro ρ o x y v ho hx hy hv;have hl:v.cells.size=vs.length:=by rw[<-hv];simp
 have hr:(storeVar ty ⟨g,0,none⟩ v).run P w=.ok () (w.setRow g vs.toArray):=by
  simp[storeVar,hsz,hl,hv,hrun]
 simp[eP,execOp,ho,hx,hy,Instr.storeAt,Instr.sureAddr,hr]
variable {s i:Nat} {early:List Nat} {x:Value} {W W1:World}
theorem Uc(his:i≠s)(h:eP P ρ o W x W)(h1:eP P ρ o W1 x W1):if i=s then eP P ρ o W x W1 else eP P ρ o W x W/\(early.contains i=false->eP P ρ o W1 x W1):=by
 rw[aU his];exact⟨h,fun _=>h1⟩
end
theorem Ud{ρ:Operand->Value}{o:Oper}{w:World}(x i:Operand)(ho:o.op=.index 245 x i)(hx:ρ x=.agg (ig.map dZ).toArray)(k:Nat)(hi:ρ i=.int .i64 (k:Nat))(F:Nat)(hF:ig[k]? =some F):bL prog ρ o w (Ty.is (dZ F)).p:=by
 have u:=underlying245;have hn:∀w,(sizeOf 244).run prog w=.ok 1 w:=sizeOf244;have hg:∀w,(isAgg 244).run prog w=.ok false w:=isAgg244;refine eT (w':=w) (v:=dZ F) ?_ (Ext.refl _) rfl;have hk:k<4:=(List.getElem?_eq_some_iff.1 hF).1;have hF2:(ig.map dZ)[k]? =some (dZ F):=by rw[List.getElem?_map,hF];rfl
 have hk2:(k:Int)<4:=by omega
 have hF3:((ig.map dZ).toArray)[k]? =some (dZ F):=by simpa using hF2
 simp only[execOp,ho,hx,hi];simp only[Instr.index,asIntOf,run_underlying u,Sem.run_bind,Result.andThen_ok,Sem.run_pure,Int.toNat_natCast];rw[bH ⟨by omega,hk2⟩];simp only[part,hg,hn,Sem.run_bind,Result.andThen_ok,Sem.run_pure,Nat.mul_one,hF3,Bool.false_eq_true,if_false]
theorem KP{id:bf}{j:Int}{k:Nat}{z:Value}(h:(bf.cells id)[k]? =some z):(aW id j)[k]? =some z:=by
 have hk:k<3:=(List.getElem?_eq_some_iff.1 h).1
 match k,hk with
 |0,_=>exact h
 |1,_=>exact h
 |2,_=>exact h
def agM:List Value:=[.int .i64 0,.int .i64 0,.int .i64 0,.int .i64 0]
def D8(n:Nat):Ty:=⟨fun v w=>∃b,v=.pointer (some ⟨b,0,none⟩)/\n<=b/\w.heap[b]? =some (.cells agM.toArray 201 (0,0)),
 fun _ _ _ he ⟨b,h1,h2,h4⟩=>⟨b,h1,h2,(he.block (ay h4)).trans h4⟩⟩
theorem MS{ρ:Operand->Value}{o:Oper}{w:World}{n:Nat}(hn:n<=w.heap.size)(ho:o.op=.alloc 201):bL prog ρ o w (D8 n).p:=by
 refine eT (w':=w.alloc (.cells agM.toArray 201)) (v:=.pointer (some ⟨w.heap.size,0,none⟩)) ?_ ((Ext.refl _).alloc _) ⟨_,rfl,hn,heap_alloc_new w _⟩;simp only[execOp,ho]
 go_simp
 rfl
def Ci(n:Nat)(S:bf×Int×Int):Ty:=⟨fun v w=>∃b,v=.pointer (some ⟨b,0,none⟩)/\n<=b/\w.heap[b]? =some (.cells (aW S.1 S.2.1).toArray 201 (0,0)),
 fun _ _ _ he ⟨b,h1,h2,h4⟩=>⟨b,h1,h2,(he.block (ay h4)).trans h4⟩⟩
theorem P7{ρ:Operand->Value}{o:Oper}{w0 w:World}{S:bf×Int×Int}{q:Value}{T:Value->World->Prop}(x y:Operand)(ho:o.op=.store 201 x y)(he:Ext w0 w)(hp:(D8 w0.heap.size).p q w)(hy:ρ y=.agg (aW S.1 S.2.1).toArray)(hx:ρ x=q)(hT:∀v w,T v w):Cw prog ρ o (K7 w0) w (fun x w'=>T x w'/\(Ci w0.heap.size S).p q w'):=by
 obtain⟨b,rfl,hn,hb⟩:=hp;obtain⟨w',h1,h2,h3,h4,h5⟩:=EW (P:=prog) 201 b (aW S.1 S.2.1) sizeOf201 (by simp[aW,Value.oneCell']) 201 _ hb rfl;have hr:=h5 ρ o x y _ ho hx hy rfl;have hE:Ext w0 w':=he.put hn h3 h1.os h1.tape h1.output h2;unfold Cw;rcases hr with hr|⟨hr,-⟩
 ·rw[hr]
  exact⟨hE,hT _ _,b,rfl,hn,h4⟩
 ·rw[hr]
  exact⟨hE,hT _ _,b,rfl,hn,h4⟩
def aem(u:av)(us:List av)(wh:Int)(w:World)(e:Ending)(w':World):Prop:=∃(p:bf) (j:Nat) (E:Int),e=.returned (.tuple #[.agg p.cells.toArray,.int .i64 (j:Nat),.int .i64 E])/\(E=0->∃z∈bO u,z.id=p/\j<=z.kids.length)/\(∀x,us=[x]->wh=0->p=x.id/\j=0/\E=0)/\Ext w w'
theorem abR(u:av)(r:aB)(l:List GStep)(AS:Option Addr)(cS:Nat)(wh:Int)(w:World)(hr:Reads w u r)(hok:dI u)(hs:Sl dG w AS l)(hlc:l.length<=cS)(hn:l.length<=1000000)(hsz:∀s∈l,s.l.size<=1048576):
 Calls prog 157 #[.agg r.cells.toArray,.slice AS l.length cS,.int .i64 wh] w (aem u (iO u l) wh w):=by
 have Hf:=ah (fun wq (he:Ext w wq)=>uW u r l AS cS wq (Reads.ext he _ _ hr) hok (hs.ext he) hlc hn hsz);have MU:=ah (fun(k F:Nat) (hk:ig[k]? =some F) (x:av) (id:bf) (hx:findF id u=some x) wq (he:Ext w wq)=>Ub k F hk u x r id wq (Reads.ext he _ _ hr) hok hx);have qE:=ah (Ik u l);clear hr hok hs hlc hn hsz;obtain⟨us,sO⟩:=aH (iO u l);rw[sO]at Hf qE⊢;clear sO;have Hw:=ah (fun wq=>JZ wh wq);obtain⟨N,hN⟩:=aH ((decide (0<=wh)&&decide (wh<=3)));rw[hN]at Hw;have HN:=ah hN;clear hN;go_enter func157,ntmps157
 go_upto_region 1 with(first|(refine aG aj (.tmp 0) rfl rfl r rfl fun wA aR bG bB aO=> ?_)|(refine aL aM rfl rfl fun wC dD jK fE=> ?_))
 have HX:=ah (aR.trans dD);have dO:=ah (fun W (he:Ext wC W)=>aO.ext (dD.trans he) (ay bB));have sG:=ah (show wC.heap[w.heap.size+1]? =some (.cells aM.z.cells aM.e (0,0))from by rw[<-bG];exact fE);clear aR bB aO dD jK fE bG;go_wp2_with fail
 refine(Hw.out wC).mono ?_;rintro e w1 ⟨rfl,rfl⟩;cases N with
 |false=>
  go_wp2_with (refine aD aM (.tmp 6) (.tmp 15) ?_ ?_ w (w.heap.size+1) ?_ ⟨0,0,0⟩ ?_ _ _ sG.out ?_ HX.out (Nat.le_succ _) ?_;rfl;rfl;rfl;rfl;rfl;intro wF iZ wX zM pq Am)
  refine bodyPost_ret (gN rfl _ _ (w.heap.size+1) _ rfl zM) rfl ?_;refine⟨⟨0,0,0⟩,0,1,rfl,(fun h=>by cases h),fun x _ h0=> ?_,iZ⟩;have:=HN.out;rw[h0]at this;cases this
 |true=>
  obtain⟨k,hk,hk3⟩:∃k:Nat,wh=(k:Int)/\k<=3:=by
   have:=HN.out;simp only[Bool.and_eq_true,decide_eq_true_eq]at this;exact⟨wh.toNat,by omega,by omega⟩
  subst hk;obtain⟨F,hF⟩:∃F,ig[k]? =some F:=⟨_,fP (by show k<4;omega)⟩;have HF:=ah hF
  have HFc:=ah (show∀args w,(callFunc F args).run prog w=.ok (.enter F args) w from fun _ _=>by
   match k,hF with
   |0,hF=>obtain rfl:225=F:=by simpa[ig]using hF
          rfl
   |1,hF=>obtain rfl:228=F:=by simpa[ig]using hF
          rfl
   |2,hF=>obtain rfl:230=F:=by simpa[ig]using hF
          rfl
   |3,hF=>obtain rfl:232=F:=by simpa[ig]using hF
          rfl
   |k+4,hF=>simp[ig]at hF)
  have l8:=ah (Hf.out w1 HX.out);clear hF Hf Hw;go_wp2_with ((with_reducible refine au aj (.tmp 3) ?_ ?_ ?_ w.heap.size 0 ?_ r ?_ ?_);rfl;rfl;rfl;rfl;exact dO.out _ (Ext.refl _))
  refine l8.out.mono ?_;rintro e w2 ⟨id,E,rfl,hE0,hE1,hx2⟩;have Ap:=ah hE0;have IB:=ah hE1;have eD:=ah hx2;have vY:=ah ((hx2.block (ay sG.out)).trans sG.out);have iF:=ah (HX.out.trans hx2);have hz2:w1.heap.size<=w2.heap.size:=hx2.size;clear hE0 hE1 hx2 l8;go_upto_region 4 with(first|(refine aL aM rfl rfl fun wD gW oH kg=> ?_)|((refine aD aM (.tmp 9) (.tmp 20) ?_ ?_ w2 w2.heap.size ?_ id ?_ _ _ kg ?_ gW (aI _) ?_);rfl;rfl;rfl;rfl;rfl;intro wE jT o9 jO pW Al))
  have iR:=ah (iF.out.trans jT);have eU:=ah (eD.out.trans jT);have z8:=ah ((jT.block (ay vY.out)).trans vY.out);have iT:=ah (fun W (he:Ext wE W)=>pW.ext he (ay jO));have FY:=ah (ay jO);clear gW oH kg jT o9 jO pW Al vY sG;by_cases hE:E=0
  ·subst hE
   obtain⟨x,WM,hxi⟩:=Ap.out rfl;have Hux:=ah WM;have WO:=ah hxi
   obtain⟨y,hy⟩:∃y,findF id u=some y:=by
    have:cZ id u≠[]:=tF id u ⟨x,qE.out x (by rw[WM];exact List.mem_cons_self ..),hxi⟩;exact⟨_,List.getLast?_eq_some_getLast this⟩
   have Hy:=ah hy;obtain⟨S,hS⟩:=aH (jM k u id);have HS:=ah hS;have Hld:=ah (fun wq (he:Ext wE wq)=>by have h:=MU.out k F HF.out y id hy wq (iR.out.trans he);rw[hS]at h;exact h);have zL:=ah (show∀wq,Ext wE wq->(aK (aB.cells r)).p (.pointer (some ⟨w.heap.size,0,none⟩)) wq from fun wq he=>⟨w.heap.size,0,rfl,by have:=iR.out.size;have:=HX.out.size;have:=he.size;have:=ay z8.out;omega,fun j z hz=>dO.out wq (eU.out.trans he) j z hz⟩);have Ch:=ah (show∀wq,Ext wE wq->(aK (bf.cells id)).p (.pointer (some ⟨w2.heap.size,0,none⟩)) wq from fun wq he=>⟨w2.heap.size,0,rfl,bQ FY.out he.size,fun j z hz=>iT.out wq he j z hz⟩);clear WM hxi hy hS Ap MU dO iT;go_upto_region 6 with fail
   refine p8 (J:=K7 wE) (w0:=K7 wE) (Ext.refl wE) (fun v w=>(Ci wE.heap.size S).p (v 9) w) 11 10 [0,1,2,3,4,5,6,7,9] (fun i=>match i with|0=>Ty.is (.agg (ig.map dZ).toArray)|1=>Ty.is (.int .i64 (k:Nat))|2=>Ty.is (dZ F)|3=>Ty.is (.agg (aB.cells r).toArray)|4=>Ty.is (.agg (bf.cells id).toArray)|5=>Ty.is (.tuple #[.agg (aW S.1 S.2.1).toArray,.int .i64 S.2.2])|6=>Ty.is (.tuple #[.agg (aW S.1 S.2.1).toArray,.int .i64 S.2.2])|7=>Ty.is (.agg (aW S.1 S.2.1).toArray)|8=>Ty.is (.int .i64 S.2.2)|9=>D8 wE.heap.size|_=>Ty.any) (fun i=>match i with|6=>Ty.is (.tuple #[.agg (aW S.1 S.2.1).toArray,.int .i64 S.2.2])|8=>Ty.is (.int .i64 S.2.2)|9=>Ci wE.heap.size S|_=>Ty.any) (by kernel_rfl) (by kernel_rfl) (by kernel_rfl) (by kernel_rfl) (by decide) (by decide) rfl ?_ ?_
   ·intro j h1 v w1 w1' hE h
    match j,h1,h with
    |6,_,h=>exact h
    |8,_,h=>exact h
    |9,_,_=>exact hE
    |10,h1,_=>exact absurd rfl h1
    |0,_,_|1,_,_|2,_,_|3,_,_|4,_,_|5,_,_|7,_,_|j+11,_,_=>trivial
   intro v;refine⟨dx (by decide) rfl ?_,?_⟩
   ·intro wq hq hd
    refine fC 203 call203 _ _ rfl rfl [] trivial ?_;refine(P6 wq).mono ?_;rintro e w' ⟨rfl,hx⟩;exact⟨_,rfl,hx,rfl⟩
   refine⟨dx (by decide) rfl ?_,?_⟩
   ·intro wq hq hd
    exact aF (.tmp 2) rfl rfl rfl
   refine⟨dx (by decide) rfl ?_,?_⟩
   ·rintro wq hq ⟨h0,h1,-⟩
    change v 0=_ at h0;change v 1=_ at h1;exact Ud (.tmp 27) (.tmp 28) rfl h0 k h1 F HF.out
   refine⟨dx (by decide) rfl ?_,?_⟩
   ·intro wq hq hd
    exact bU 30 (.tmp 3) rfl isAgg30 8 sizeOf30 (aB.cells r) rfl (zL.out _ hq) rfl
   refine⟨dx (by decide) rfl ?_,?_⟩
   ·intro wq hq hd
    exact bU 26 (.tmp 9) rfl isAgg26 3 sizeOf26 (bf.cells id) rfl (Ch.out _ hq) rfl
   refine⟨dx (by decide) rfl ?_,?_⟩
   ·rintro wq hq ⟨h0,h1,h2,-⟩
    change v 2=_ at h0;change v 3=_ at h1;change v 4=_ at h2;refine Iz F HFc.out (.tmp 29) [.tmp 30,.tmp 31] _ rfl h0 [_,_] ⟨h1,h2,trivial⟩ ?_;refine(Hld.out wq hq).mono ?_;rintro e w' ⟨rfl,hx⟩;exact⟨_,rfl,hx,rfl⟩
   refine⟨dx (by decide) rfl ?_,?_⟩
   ·rintro wq hq ⟨h0,-⟩
    change v 5=_ at h0;exact aF (.tmp 32) rfl h0 rfl
   refine⟨dx (by decide) rfl ?_,?_⟩
   ·rintro wq hq ⟨h0,-⟩
    change v 6=_ at h0;exact jm (.tmp 26) 0 rfl _ h0 rfl rfl
   refine⟨nR (by decide) ?_ ?_,?_⟩
   ·rintro wq hq ⟨h0,-⟩
    change v 6=_ at h0;exact jm (.tmp 26) 1 rfl _ h0 rfl rfl
   ·intro _ wq hq hd
    obtain⟨h0,-⟩:=hd;change v 6=_ at h0;exact jm (.tmp 26) 1 rfl _ h0 rfl rfl
   refine⟨dx (by decide) rfl ?_,?_⟩
   ·intro wq hq hd
    exact MS hq.size rfl
   refine⟨yO rfl ?_,?_⟩
   ·intro wq hq hd
    have h7:=hd 7 (by decide);change v 7=_ at h7;have h9:=hd 9 (by decide);change (D8 wE.heap.size).p (v 9) wq at h9;exact P7 (.tmp 11) (.tmp 33) rfl hq h9 h7 rfl (fun _ _=>trivial)
   intro wq hq hT;have k8:=hT 8 (by decide);change v 8=_ at k8;have k9:=hT 9 (by decide);change (Ci wE.heap.size S).p (v 9) wq at k9;clear hT;simp only[List.drop_succ_cons,List.drop_zero,gH,dK,List.set_cons_succ,List.set_cons_zero,Nat.reduceAdd];rw[k8];generalize v 9=x9 at k9⊢;obtain⟨bS,rfl,hbn,hbS⟩:=k9;have tJ:=ah (show w2.heap.size<bS from bQ FY.out hbn);have KQ:=ah ((hq.block (ay z8.out)).trans z8.out);have mg:=ah (iR.out.trans hq);have lH:=ah (show w.heap.size+1<bS from by have:=ay z8.out;have:=FY.out;have:=hbn;omega)
   have J2:=ah (show∀wz,Ext wq wz->At wz bS 0 (aW S.1 S.2.1)from fun wz he j z hz=>by
    rw[he.cell (p:=⟨bS,0+j,none⟩) (ay hbS)];simp only[World.cell?,hbS];simpa[aW]using hz)
   clear k8 Hld zL Ch hbn hq hbS;by_cases hE2:S.2.2=0
   ·have d0:(S.2.2 !=0)=false:=by simp[hE2]
    have HE2:=ah hE2;clear hE2;go_upto_region 9 with fail
    refine oO 5 4 [0,1] (fun i=>match i with|0=>.pointer (some ⟨bS,0,none⟩)|1=>.agg (bf.cells S.1).toArray|2=>.pointer (some ⟨bS,3,none⟩)|3=>.int .i64 S.2.1|_=>undef) (by kernel_rfl) (by kernel_rfl) (by kernel_rfl) (by kernel_rfl) (by decide) (by decide) rfl ?_;intro W hW;obtain⟨W1,EX,hsz1,hne1,hbk1,yw⟩:=EW (P:=prog) 26 (w.heap.size+1) (bf.cells S.1) sizeOf26 (by simp[bf.cells,Value.oneCell']) 26 _ ((hW.block (ay KQ.out)).trans KQ.out) rfl;have Cj:At W bS 0 (aW S.1 S.2.1):=J2.out W hW
    have MV:At W1 bS 0 (aW S.1 S.2.1):=fun j z hz=>by
     rw[World.cell?_of_block (hne1 bS (by have:=lH.out;omega))];exact Cj j z hz
    refine⟨W1,bY (by decide) (fun _=>EU 201 0 (.tmp 11) rfl _ underlying201 _ rfl 3 sizeOf26 (by decide) bS 0 rfl),oD (by decide) (by decide) (uf 26 (.tmp 39) rfl isAgg26 (bf.cells S.1) sizeOf26 bS 0 rfl (fun j z hz=>Cj j z (KP hz))),bY (by decide) (fun _=>EU 201 1 (.tmp 11) rfl _ underlying201 _ rfl 1 sizeOf3 (by decide) bS 0 rfl),Uc (by decide) (Bb 3 (.tmp 41) rfl isAgg3 bS 3 rfl (.int .i64 S.2.1) (by simpa using Cj.one 3 (u:=.int .i64 S.2.1) rfl)) (Bb 3 (.tmp 41) rfl isAgg3 bS 3 rfl (.int .i64 S.2.1) (by simpa using MV.one 3 (u:=.int .i64 S.2.1) rfl)),wu rfl (yw _ _ (.tmp 6) (.tmp 40) (.agg (bf.cells S.1).toArray) rfl rfl rfl rfl),?_⟩;refine lJ.nil ?_;simp only[List.drop_succ_cons,List.drop_zero,gH,dK,List.set_cons_succ,List.set_cons_zero,Nat.reduceAdd];have mO:Ext w W1:=((mg.out).trans hW).put (Nat.le_succ _) hne1 EX.os EX.tape EX.output hsz1;have om:=hbk1;clear yw EX hsz1 hne1 hbk1 Cj MV;go_wp2;refine bodyPost_ret (gN rfl _ _ (w.heap.size+1) _ rfl om) rfl ?_;have hsp:=T9 (k:=k) (u:=u) (id:=id) (x:=y) Hy.out (by rw[HS.out];exact HE2.out);rw[HS.out]at hsp;obtain⟨z,hz,hzi,j,hj,hjl⟩:=hsp;refine⟨S.1,j,0,?_,fun _=>⟨z,hz,hzi,hjl⟩,fun x2 hx2 h0=> ?_,mO⟩
    ·rw[<-hj];rfl
    ·have hk0:k=0:=by omega
     subst hk0;have e:S=(id,0,0):=by rw[<-HS.out];rfl
     rw[e]at hj⊢;refine⟨(IB.out x2 hx2).2,?_,rfl⟩;have:(0:Int)=(j:Int):=hj;omega
   ·have d0:(S.2.2 !=0)=true:=by simpa using hE2
    have HE2:=ah hE2;clear hE2;go_wp2_with (refine aD aM (.tmp 6) (.tmp 37) ?_ ?_ w (w.heap.size+1) ?_ ⟨0,0,0⟩ ?_ _ _ KQ.out ?_ mg.out (Nat.le_succ _) ?_;rfl;rfl;rfl;rfl;rfl;intro wK Ue hzK Uf av2 hoK)
    refine bodyPost_ret (gN rfl _ _ (w.heap.size+1) _ rfl Uf) rfl ?_;refine⟨⟨0,0,0⟩,0,S.2.2,rfl,(fun h=>absurd h HE2.out),fun x2 hx2 h0=> ?_,Ue⟩;have hk0:k=0:=by omega
    subst hk0;exact absurd (by rw[<-HS.out];rfl) HE2.out
  ·have d0:(E !=0)=true:=by simpa using hE
   have HE:=ah hE;clear hE;go_wp2_with (refine aD aM (.tmp 6) (.tmp 24) ?_ ?_ w (w.heap.size+1) ?_ ⟨0,0,0⟩ ?_ _ _ z8.out ?_ iR.out (Nat.le_succ _) ?_;rfl;rfl;rfl;rfl;rfl;intro wG dL fF dM lZ jS)
   refine bodyPost_ret (gN rfl _ _ (w.heap.size+1) _ rfl dM) rfl ?_;refine⟨⟨0,0,0⟩,0,E,rfl,(fun h=>absurd h HE.out),fun x hx _=>absurd (IB.out x hx).1 HE.out,dL⟩
theorem YI(A:Option Addr)(c:Nat)(xs:List bf)(id:bf)(w:World)(hs:Sl aM w A xs)(hn:xs.length<=1000000):
 Calls prog 170 #[.slice A xs.length c,.agg id.cells.toArray] w fun e w'=>e=.returned (.int .i64 (gI (fun y=>decide (id=y)) xs 0))/\Ext w w':=by
 obtain⟨R,hR⟩:=aH (gI (fun y=>decide (id=y)) xs 0);have HR:Hid (gI (fun y=>decide (id=y)) (xs.drop 0) 0=R):=ah hR;rw[hR];clear hR;go_enter func170,ntmps170
 go_upto_region 2 with((refine aG aM (.tmp 1) rfl rfl id rfl fun wA aR bG bB aO=> ?_))
 have lA:=ay bB;have Hb3:=ah (show∀wq,Ext wA wq->(aK (aM.E id)).p (.pointer (some ⟨w.heap.size,0,none⟩)) wq from fun wq he=>⟨w.heap.size,0,rfl,bQ lA he.size,fun j u hu=>aO.ext he lA j u hu⟩);have Hs:=ah (fun wq (he:Ext wA wq)=>hs.ext (aR.trans he));have FX:=ah aR;clear aR bG bB aO hs
 go_loopw [5,8] (fun _ vk wr=>∃k:Nat,k<=xs.length/\vk=.int .i64 (k:Nat)/\Hid (gI (fun y=>decide (id=y)) (xs.drop k) k=R)/\Ext wA wr) (fun _ vk _=>xs.length-(intOf vk).toNat)
 case atStart=>exact⟨0,bI _,rfl,HR,Ext.refl _⟩
 case round=>
  obtain⟨k,hk,rfl,Hk,hext⟩:=hrel;by_cases hlt:k<xs.length
  ·have hk2:=Hk.out
   rw[zC hlt]at hk2;obtain⟨b,off,hA,-,-⟩:=(Hs.out wr hext).at_ hlt;have Hy:=ah (fP hlt);obtain⟨y,hy⟩:=aH (xs[k]);rw[hy]at hk2 Hy;have d1:=eY k xs.length;obtain⟨N,hN⟩:=aH (decide (id=y));rw[hN]at hk2;have HN:=ah hN;subst hA;have wQ:=ah (fun wq (he:Ext wr wq)=>Hs.out wq (hext.trans he));clear hy hN;go_upto_region 4 with fail
   refine iw (by kernel_rfl) (fun i=>match i with|0=>Ty.is (.agg (aM.E id).toArray)|1=>Ty.is (.slice (some ⟨b,off,none⟩) xs.length c)|2=>Ty.is (.int .i64 (k:Nat))|3=>aK (aM.E y)|4=>Ty.is (.agg (aM.E y).toArray)|5=>Ty.is (.bool N)|_=>Ty.any) (by kernel_rfl) rfl ?_;intro v;refine⟨?_,?_,?_,?_,?_,?_,?_⟩
   ·exact fun wq hq _=>ak rfl (bU 26 (.tmp 3) rfl isAgg26 3 sizeOf26 (aM.E id) rfl (Hb3.out _ (hext.trans hq)) rfl)
   ·exact fun wq hq _=>ak rfl (aF (.tmp 0) rfl rfl rfl)
   ·exact fun wq hq _=>ak rfl (aF (.tmp 5) rfl rfl rfl)
   ·rintro wq hq ⟨h0,h1,-⟩
    change v 1=_ at h0;change v 2=_ at h1;refine ak rfl ?_;exact iq aM (.tmp 12) (.tmp 13) rfl _ xs c h0 k h1 (wQ.out _ hq) y Hy.out
   ·rintro wq hq ⟨h0,-⟩;exact ak rfl (bU 26 (.tmp 14) rfl isAgg26 3 sizeOf26 (aM.E y) rfl h0 rfl)
   ·rintro wq hq ⟨h0,h1,-⟩;exact ak rfl (tT .eql 26 26 (.tmp 11) (.tmp 15) rfl _ _ h0 h1 (by kernel_rfl) (fun w=>(Jd w id.a id.i id.n y.a y.i y.n).trans (by rw[show decide ((⟨id.a,id.i,id.n⟩:bf)=⟨y.a,y.i,y.n⟩)=N from HN.out])) rfl)
   ·intro wq hq hT
    have k5:=hT 5 (by decide);change v 5=_ at k5;clear hT;simp only[List.drop_succ_cons,List.drop_zero,gH,dK,List.set_cons_succ,List.set_cons_zero,Nat.reduceAdd];rw[k5];cases N with
    |true=>
     have og:=ah (show(k:Int)=R from hk2);clear hk2;go_wp2;go_ret;exact⟨qD og.out,FX.out.trans (hext.trans hq)⟩
    |false=>
     have og:=ah (show gI (fun y=>decide (id=y)) (xs.drop (k+1)) (k+1)=R from hk2);clear hk2;go_wp2;go_roundw
     case rel=>exact⟨k+1,by omega,by go_num,og,hext.trans hq⟩
     case measure=>simp[intOf];omega
  ·have hk2:=Hk.out
   rw[mH (by omega),gI]at hk2;have og:=ah hk2;clear hk2;have d1:=fT k xs.length;go_wp2;go_ret;exact⟨qD og.out,FX.out.trans hext⟩
theorem MX(A:Option Addr)(c:Nat)(xs:List bf)(id:bf)(w:World)(hs:Sl aM w A xs)(hn:xs.length<=1000000):
 Calls prog 101 #[.slice A xs.length c,.agg id.cells.toArray] w fun e w'=>e=.returned (.bool (xs.any fun y=>decide (id=y)))/\Ext w w':=by
 have Hi:=ah (fun wq (he:Ext w wq)=>YI A c xs id wq (hs.ext he) hn);have Ha:=ah (Kw (fun y=>decide (id=y)) xs);obtain⟨z,hz⟩:=aH (gI (fun y=>decide (id=y)) xs 0);rw[hz]at Hi Ha;rw[<-Ha.out];clear hz Ha hs;go_enter func101,ntmps101
 go_upto_region 1 with((refine aG aM (.tmp 1) rfl rfl id rfl fun wA aR bG bB aO=> ?_))
 have Hi2:=ah (Hi.out wA aR);have i0:=aO.zero (u:=.int .i64 id.a) rfl;have i1:=aO.one 1 (u:=.int .i64 id.i) rfl;have i2:=aO.one 2 (u:=.int .i64 id.n) rfl;simp only[bV]at i1 i2;simp only[bf.cells]at Hi2;clear bG bB aO Hi;go_wp2_with fail
 refine Hi2.out.mono ?_;rintro e w2 ⟨rfl,hx2⟩;by_cases h0:0<=z
 ·have d1:decide (0<=z)=true:=bJ h0
  have d2:decide (z≥0)=true:=bJ h0;have H0:=ah h0;clear h0;go_wp2;go_ret;exact⟨by have h:=H0.out;simp[h],aR.trans hx2⟩
 ·have d1:decide (0<=z)=false:=aY h0
  have d2:decide (z≥0)=false:=aY h0;have H0:=ah h0;clear h0;go_wp2;go_ret;exact⟨by have h:=H0.out;simp[h],aR.trans hx2⟩
theorem VK(A:Option Addr)(c:Nat)(xs:List bf)(id:bf)(B:Nat)(w:World)(hs:Sl aM w A xs)(hn:xs.length<=1000000)(hB:B<w.heap.size)(hc:w.cell? ⟨B,0,none⟩=some (.slice A xs.length c)):
 Calls prog 100 #[.agg (aM.E id).toArray,.pointer (some ⟨B,0,none⟩)] w fun e w'=>e=.returned (.bool (xs.any fun y=>decide (id=y)))/\Ext w w':=by
 have Hi:=ah (fun wq (he:Ext w wq)=>MX A c xs id wq (hs.ext he) hn);obtain⟨N,hN⟩:=aH ((xs.any fun y=>decide (id=y)));rw[hN]at Hi⊢;clear hN hs;go_enter func100,ntmps100
 go_upto_region 1 with((refine aG aM (.tmp 0) rfl rfl id rfl fun wA aR bG bB aO=> ?_))
 have Hi2:=ah (Hi.out wA aR);have i0:=aO.zero (u:=.int .i64 id.a) rfl;have i1:=aO.one 1 (u:=.int .i64 id.i) rfl;have i2:=aO.one 2 (u:=.int .i64 id.n) rfl;have r0:=(aR.cell (p:=⟨B,0,none⟩) hB).trans hc;simp only[bV]at i1 i2;simp only[bf.cells]at Hi2;clear bG bB aO Hi hc;go_wp2_with fail
 refine Hi2.out.mono ?_;rintro e w2 ⟨rfl,hx2⟩;go_wp2;go_ret;exact⟨rfl,aR.trans hx2⟩
end Go.Proofs.YtgboomjahhnldaaGreatDoor
