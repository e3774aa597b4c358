/- A part of the proof of TopWritten, printed small: TLaw TFew TFew2. -/
import Derived.Test.YtgboomjahhnldaaGreatDoorZ05
import Derived.OwnWalk
import Derived.Deep.CutBlock
import Derived.Deep.DeepCutAuto
set_option maxRecDepth 100000
set_option maxHeartbeats 25600000
set_option linter.all false
namespace Go.Proofs.YtgboomjahhnldaaGreatDoor
open Go.Proofs.Tryz Go.RowKit
def At(w:World)(b off:Nat)(cs:List Value):Prop:=∀(j:Nat) (u:Value),cs[j]? =some u->w.cell? ⟨b,off+j,none⟩=some u
theorem At.ext{w w':World}{b off:Nat}{cs:List Value}(h:At w b off cs)(he:Ext w w')(hb:b<w.heap.size):At w' b off cs:=fun j u hu=>(he.cell (p:=⟨b,off+j,none⟩) hb).trans (h j u hu)
theorem At.one{w:World}{b off:Nat}{cs:List Value}(h:At w b off cs)(j:Nat){u:Value}(hu:cs[j]? =some u):w.cell? ⟨b,off+j,none⟩=some u:=h j u hu
theorem At.zero{w:World}{b off:Nat}{cs:List Value}(h:At w b off cs){u:Value}(hu:cs[0]? =some u):w.cell? ⟨b,off,none⟩=some u:=h 0 u hu
theorem At.lt{w:World}{b off:Nat}{cs:List Value}(h:At w b off cs)(hn:cs≠[]):b<w.heap.size:=by
 cases cs with
 |nil=>exact absurd rfl hn
 |cons c cs=>exact World.block_lt_of_cell? w _ (h 0 c rfl)
section
variable {P:Program} {α:Type} {w:World} {ops:Array Oper} {rest:List Oper} {o:Oper} {a:Act} {Q:Exit->Act->World->Prop}
theorem wpList_want(hw:Region.wanted o (yielded ops a.tmps)=true)(h:∀K:Act->World->Prop,(∀a w,wpList P ops Q rest a w->K a w)->o.wp P a w K Q):wpList P ops Q (o::rest) a w:=
 wpList_step fun K hK=>by rw[bH hw];exact h K hK
theorem au(D:El P α)(x:Operand)(ho:o.op=.load D.e x)(hag:D.agg=true)(hw:Region.wanted o (yielded ops a.tmps)=true)(b off:Nat)(hx:a.eval x=.pointer (some ⟨b,off,none⟩))(y:α)
 (hc:At w b off (D.E y)) (h:wpList P ops Q rest (a.put o.dst (.agg (D.E y).toArray)) w):wpList P ops Q (o::rest) a w:=by
 refine wpList_want hw fun K hK=> ?_
 have hl:=run_loadCells_list (P:=P) w ⟨b,off,none⟩ (D.E y) (fun j u hu=>by
  have:=hc j u hu;unfold Addr.add
  split
  ·rename_i h0;subst h0;simpa using this
  ·exact this)
 obtain⟨i',hi',_,hsz',_⟩:=info_parts D.hi;have hsz:∀w,(sizeOf D.e).run P w=.ok (D.E y).length w:=fun w=>by simp[sizeOf,typeInfo,hi',hsz',D.hE]
 have hag':∀w,(isAgg D.e).run P w=.ok true w:=fun w=>by rw[D.hagg w,hag]
 unfold Oper.wp;simp only[execOp,ho,hx];simp[Instr.loadAt,Instr.sureAddr,loadVar,hag',hsz,hl];exact hK _ _ h
theorem Kk{D:El P α}(w:World):(zeroValue D.e).run P w=.ok D.z w:=by
 obtain⟨i',hi',hz,-,-⟩:=info_parts D.hi;simp[zeroValue,typeInfo,hi',hz]
theorem At.new(t:TypeId)(cs:List Value)(w:World){w':World}(he:Ext (w.alloc (.cells cs.toArray t)) w'):At w' w.heap.size 0 cs:=fun j u hu=>by
 have h0:(w.alloc (.cells cs.toArray t)).heap[w.heap.size]? =some (.cells cs.toArray t (0,0)):=heap_alloc_new w _;rw[he.cell (p:=⟨w.heap.size,0+j,none⟩) (ay h0)];simp only[World.cell?,h0,bV];simpa using hu
theorem aL(D:El P α)(ho:o.op=.alloc D.e)(hw:Region.wanted o (yielded ops a.tmps)=true)
 (h:∀w',Ext w w'->w'.heap.size=w.heap.size+1->w'.heap[w.heap.size]? =some (.cells D.z.cells D.e (0,0))->wpList P ops Q rest (a.put o.dst (.pointer (some ⟨w.heap.size,0,none⟩))) w'):wpList P ops Q (o::rest) a w:=by
 refine wpList_want hw fun K hK=> ?_;have hz:=Kk (D:=D) w;unfold Oper.wp;simp only[execOp,ho];simp only[Instr.alloc,Sem.run_bind,hz,Result.andThen_ok,newVar]
 go_simp
 exact hK _ _ (h _ ((Ext.refl w).alloc _) (by simp) (heap_alloc_new w _))
theorem aG(D:El P α)(x:Operand)(ho:o.op=.box D.e x)(hw:Region.wanted o (yielded ops a.tmps)=true)(r:α)(hx:a.eval x=.agg (D.E r).toArray)
 (h:∀w',Ext w w'->w'.heap.size=w.heap.size+1->w'.heap[w.heap.size]? =some (.cells (D.E r).toArray D.e (0,0))->At w' w.heap.size 0 (D.E r)->wpList P ops Q rest (a.put o.dst (.pointer (some ⟨w.heap.size,0,none⟩))) w'):wpList P ops Q (o::rest) a w:=by
 refine wpList_want hw fun K hK=> ?_;unfold Oper.wp;simp only[execOp,ho,hx];simp only[Instr.box,Sem.run_bind,Result.andThen_ok,newVar]
 go_simp
 exact hK _ _ (h _ ((Ext.refl w).alloc _) (by simp) (heap_alloc_new w _) (At.new D.e (D.E r) w (Ext.refl _)))
theorem aD(D:El P α)(x y:Operand)(ho:o.op=.store D.e x y)(hgd:o.guard=none)(w0:World)(g:Nat)(hx:a.eval x=.pointer (some ⟨g,0,none⟩))(r:α)(hy:a.eval y=.agg (D.E r).toArray)
 (cur:Array Value) (t:TypeId) (hg:w.heap[g]? =some (.cells cur t (0,0))) (hcs:cur.size=D.m) (he:Ext w0 w) (hb:w0.heap.size<=g)
 (h:∀w',Ext w0 w'->w'.heap.size=w.heap.size->w'.heap[g]? =some (.cells (D.E r).toArray t (0,0))->At w' g 0 (D.E r)->(∀k,k≠g->w'.heap[k]? =w.heap[k]?)->wpList P ops Q rest (a.put o.dst undef) w'):wpList P ops Q (o::rest) a w:=by
 obtain⟨i',hi',_,hsz',_⟩:=info_parts D.hi;have hsz:∀w,(sizeOf D.e).run P w=.ok (D.E r).length w:=fun w=>by simp[sizeOf,typeInfo,hi',hsz',D.hE]
 refine aP hgd D.e x y ho g 0 _ hx hy (D.E r) rfl hsz (D.h1 r) t cur hg (by rw[D.hE];omega) ?_;intro w' h1 h2 h3 h4 h5 h6
 have e6:w'.heap[g]? =some (.cells (D.E r).toArray t (0,0)):=by
  rw[h6];have:cur.toList.drop (0+(D.E r).length)=[]:=mH (by rw[D.hE,lK,hcs];omega);rw[this,List.take_zero,jW,kY]
 refine h w' (Ext.put he hb h1 h2 h3 h4 h5) h5 e6 (fun j u hu=> ?_) h1;simp only[World.cell?,e6,bV];simpa using hu
theorem Rf:∀(vs:List Value) (k:Nat) (cs:Array Value),k+vs.length<=cs.size->
 (vs.zipIdx k).foldl (fun cs (p:Value×Nat)=>cs.setIfInBounds (0+p.2) p.1) cs=(cs.toList.take k++vs++cs.toList.drop (k+vs.length)).toArray
 |[],k,cs,_=>by simp
 |v::vs,k,cs,h=>by
  simp only[iX]at h;rw[List.zipIdx_cons,List.foldl_cons,Rf vs (k+1) _ (by rw[Array.size_setIfInBounds];omega)]
  congr 1
  have hk:k<cs.toList.length:=by rw[lK];omega
  rw[bV,Array.toList_setIfInBounds];apply List.ext_getElem?;intro n;simp only[dV,List.getElem?_append,List.getElem?_take,List.getElem?_drop,List.getElem?_set,fu,List.length_set,iX,List.getElem?_cons];rcases Nat.lt_trichotomy n k with hn|rfl|hn
  ·simp[hn,show n<k+1 by omega,show k≠n by omega,show n<cs.size by omega,show min (k+1) cs.size=k+1 by omega,show min k cs.size=k by omega]
  ·simp[show min (n+1) cs.size=n+1 by omega,show min n cs.size=n by omega,show n<cs.size by omega]
  ·have e1:min (k+1) cs.toList.length=k+1:=by rw[lK];omega
   have e2:min k cs.toList.length=k:=by rw[lK];omega
   rw[e1,e2,aU (show ¬n<k+1 by omega),aU (show ¬n<k by omega)];obtain⟨m,rfl⟩:∃m,n=k+1+m:=⟨n-(k+1),by omega⟩;rw[show k+1+m-(k+1)=m by omega,show k+1+m-k=m+1 by omega];by_cases hm:m<vs.length
   ·rw[bH hm,bH (show m+1<vs.length+1 by omega)]
    simp
   ·rw[aU hm,aU (show ¬m+1<vs.length+1 by omega),aU (by omega)]
    congr 1
    omega
theorem Bw(D:El P α)(v:Value)(r:α)(hv:v.cells.toList=D.E r)(ZI:D.m<=16777216)(w:World):(Instr.buildSlice D.t 1 #[(0,v)]).run P w=.ok (.slice (some ⟨w.heap.size,0,none⟩) 1 1) (w.alloc (.cells (D.E r).toArray D.e)):=by
 obtain⟨i',hi',hz,hsz',_⟩:=info_parts D.hi;have hsz:∀w,(sizeOf D.e).run P w=.ok D.m w:=fun w=>by simp[sizeOf,typeInfo,hi',hsz']
 have hzz:=fun w=>Kk (D:=D) w;have hvs:v.cells.size=D.m:=by rw[<-lK,hv,D.hE]
 have hm:=D.hm;have hf:=Rf (D.E r) 0 ((Array.range (1*D.m)).map (D.z.cells[· %D.z.cells.size]!)) (by simp[D.hE])
 have he:(v.cells.zipIdx.foldl (fun cs (c,j)=>cs.setIfInBounds (0*D.m+j) c) ((Array.range (1*D.m)).map (D.z.cells[· %D.z.cells.size]!)))=(D.E r).toArray:=by
  have e1:(v.cells.zipIdx.foldl (fun cs (c,j)=>cs.setIfInBounds (0*D.m+j) c) ((Array.range (1*D.m)).map (D.z.cells[· %D.z.cells.size]!)))=((D.E r).zipIdx 0).foldl (fun cs (p:Value×Nat)=>cs.setIfInBounds (0+p.2) p.1) ((Array.range (1*D.m)).map (D.z.cells[· %D.z.cells.size]!)):=by
   rw[<-Array.foldl_toList,Array.toList_zipIdx,hv,Nat.zero_mul]
  rw[e1,hf];simp[D.hE]
 have am5:Instr.fill (fun i=>some (i*D.m,D.m)) ((Array.range (1*D.m)).map (D.z.cells[· %D.z.cells.size]!)) [(0,v)]=some (D.E r).toArray:=by
  rw[Instr.fill];simp only;rw[aU (by simp[hvs]),Instr.fill,he]
 simp only[Instr.buildSlice,Sem.run_bind,run_underlying D.ht,Result.andThen_ok,hsz];rw[aU (by omega),aU (by omega)];simp only[Sem.run_bind,hzz,Result.andThen_ok,Sem.run_pure,am5]
 go_simp
theorem gP(D:El P α)(x:Operand)(ho:o.op=.buildSlice D.t 1 #[(0,x)])(hw:Region.wanted o (yielded ops a.tmps)=true)(r:α)(v:Value)(hx:a.eval x=v)(hv:v.cells.toList=D.E r)(ZI:D.m<=16777216)
 (h:∀w',Ext w w'->w'.heap.size=w.heap.size+1->Sl D w' (some ⟨w.heap.size,0,none⟩) [r]->wpList P ops Q rest (a.put o.dst (.slice (some ⟨w.heap.size,0,none⟩) 1 1)) w'):wpList P ops Q (o::rest) a w:=by
 refine wpList_want hw fun K hK=> ?_;have hr:=Bw D v r hv ZI w;unfold Oper.wp;simp only[execOp,ho,List.map_toArray,gX,List.map_nil,hx];simp only[Sem.run_bind,hr,Result.andThen_ok,Sem.run_pure];exact hK _ _ (h _ ((Ext.refl w).alloc _) (by simp) (Sl.new D (by simp[El.flat])))
end
theorem ZJ{w:World}{A:Option Addr}{xs:List ByteArray}(h:Sl bP w A xs){k:Nat}(hk:k<xs.length):∃b off,A=some ⟨b,off,none⟩/\b<w.heap.size/\
 w.cell? ⟨b,off+k,none⟩=some (.string xs[k]):=by
 obtain⟨b,off,hA,hb,hc⟩:=h.at_ hk;exact⟨b,off,hA,hb,by simpa[bP]using hc 0 _ rfl⟩
theorem ZK{w:World}{A:Option Addr}{xs:List GStep}(h:Sl dG w A xs){k:Nat}(hk:k<xs.length):∃b off,A=some ⟨b,off,none⟩/\b<w.heap.size/\
 w.cell? ⟨b,off+k*2,none⟩=some (.int .i64 xs[k].k)/\
 w.cell? ⟨b,off+k*2+1,none⟩=some (.string xs[k].l):=by
 obtain⟨b,off,hA,hb,hc⟩:=h.at_ hk;exact⟨b,off,hA,hb,by simpa[dG]using hc 0 _ rfl,hc 1 _ rfl⟩
theorem ahO{P:Program}{α:Type}(D:El P α)(x:α){w w':World}(he:Ext (w.alloc (.cells (D.E x).toArray D.e)) w'){j:Nat}{u:Value}(hj:(D.E x)[j]? =some u):w'.cell? ⟨w.heap.size,j,none⟩=some u:=by
 have h0:(w.alloc (.cells (D.E x).toArray D.e)).heap[w.heap.size]? =some (.cells (D.E x).toArray D.e):=heap_alloc_new w _;have hlt:=ay h0;rw[he.cell (p:=⟨w.heap.size,j,none⟩) hlt];simp only[World.cell?,h0];simpa using hj
structure am6 (x:qo):Prop where
 a:x.at_.length<=9223372036854775807
 b:x.oV.length<=9223372036854775807
 o:x.old.length<=9223372036854775807
 n:x.iE.length<=9223372036854775807
 u:iD (qm 9223372036854775807 9223372036854775807) x.unit
mutual
def yR:fM->Prop
 |.mk x ys=>am6 x/\ys.length<=9223372036854775807/\tV ys
def tV:List fM->Prop
 |[]=>True
 |y::ys=>yR y/\tV ys
end
theorem tV.get:∀{ys:List fM},tV ys->∀(k:Nat) (h:k<ys.length),yR ys[k]
 |y::ys,h,0,_=>by rw[tV]at h;exact h.1
 |y::ys,h,k+1,hk=>by rw[tV]at h;exact tV.get h.2 k (by simpa using hk)
structure sM (x:qo):Prop where
 a:x.at_.length<=12
 b:x.oV.length<=12
 o:x.old.length<=300
 n:x.iE.length<=300
 l:x.label.size<=100
 f:x.for_.size<=100
 s:x.se.size<=100
 e:x.ev.size<=100
 u:zQ x.unit 30=true
 os:∀s∈x.old,s.size<=100
 ns:∀s∈x.iE,s.size<=100
 as_:∀s∈x.at_,s.l.size<=100
 bs_:∀s∈x.oV,s.l.size<=100
mutual
def lu:fM->Prop
 |.mk x ys=>sM x/\ys.length<=2/\xJ ys
def xJ:List fM->Prop
 |[]=>True
 |y::ys=>lu y/\xJ ys
end
theorem xJ.of:∀{ys:List fM},(∀y∈ys,lu y)->xJ ys
 |[],_=>by rw[xJ];trivial
 |y::ys,h=>by rw[xJ];exact⟨h y (by simp),xJ.of fun z hz=>h z (by simp[hz])⟩
theorem xJ.mem:∀{ys:List fM},xJ ys->∀y∈ys,lu y
 |[],_,y,hy=>by simp at hy
 |z::ys,h,y,hy=>by
  rw[xJ]at h;rcases List.mem_cons.1 hy with rfl|hy
  ·exact h.1
  ·exact xJ.mem h.2 y hy
theorem lu.ys{y:fM}(h:lu y):y.sK.length<=2/\∀z∈y.sK,lu z:=by obtain⟨x,ys⟩:=y;rw[lu]at h;exact⟨h.2.1,h.2.2.mem⟩
def Nz(N:Nat):Prop:=∀(y:fM) (r:bE) (w:World),SizeOf.sizeOf y<=N->eZ w y r->yR y->Calls prog 27 #[.agg r.cells.toArray] w (uY (lu y) w)
theorem Xj(r:bE)(w:World)(P:Prop)(hn:¬r.aN<=12):Calls prog 27 #[.agg r.cells.toArray] w (uY P w):=by
 obtain⟨kd,aA,aN,aC,bA,bN,bC,wh,nth,⟨ua,ui,un,uk,ul,hA,hm,hc,wA,wn,wc,kA,kn,kc⟩,oA,oN,oC,nA,nN,nC,lb,fr,sk,sd,se,act,im,dy,ev,yA,yN,yC⟩:=r;dsimp only at*;have e0:decide ((aN:Int)>12)=true:=bJ (by omega);have he1:=(Ext.refl w).alloc (.cells (bE.cells ⟨kd,aA,aN,aC,bA,bN,bC,wh,nth,⟨ua,ui,un,uk,ul,hA,hm,hc,wA,wn,wc,kA,kn,kc⟩,oA,oN,oC,nA,nN,nC,lb,fr,sk,sd,se,act,im,dy,ev,yA,yN,yC⟩).toArray 42);simp only[bE.cells]at he1⊢;clear hn;go_enter func27,ntmps27
 go_wp2;go_ret;exact⟨_,rfl,(fun h=>by cases h),he1⟩
theorem Xk(r:bE)(w:World)(P:Prop)(h0:r.aN<=12)(hn:¬r.bN<=12):Calls prog 27 #[.agg r.cells.toArray] w (uY P w):=by
 obtain⟨kd,aA,aN,aC,bA,bN,bC,wh,nth,⟨ua,ui,un,uk,ul,hA,hm,hc,wA,wn,wc,kA,kn,kc⟩,oA,oN,oC,nA,nN,nC,lb,fr,sk,sd,se,act,im,dy,ev,yA,yN,yC⟩:=r;dsimp only at*;have e0:decide ((aN:Int)>12)=false:=aY (by omega);have e1:decide ((bN:Int)>12)=true:=bJ (by omega);have he1:=(Ext.refl w).alloc (.cells (bE.cells ⟨kd,aA,aN,aC,bA,bN,bC,wh,nth,⟨ua,ui,un,uk,ul,hA,hm,hc,wA,wn,wc,kA,kn,kc⟩,oA,oN,oC,nA,nN,nC,lb,fr,sk,sd,se,act,im,dy,ev,yA,yN,yC⟩).toArray 42);simp only[bE.cells]at he1⊢;clear hn h0;go_enter func27,ntmps27
 go_wp2;go_ret;exact⟨_,rfl,(fun h=>by cases h),he1⟩
theorem Xl(r:bE)(w:World)(P:Prop)(h0:r.aN<=12)(h1:r.bN<=12)(hn:¬r.oN<=300):Calls prog 27 #[.agg r.cells.toArray] w (uY P w):=by
 obtain⟨kd,aA,aN,aC,bA,bN,bC,wh,nth,⟨ua,ui,un,uk,ul,hA,hm,hc,wA,wn,wc,kA,kn,kc⟩,oA,oN,oC,nA,nN,nC,lb,fr,sk,sd,se,act,im,dy,ev,yA,yN,yC⟩:=r;dsimp only at*;have e0:decide ((aN:Int)>12)=false:=aY (by omega);have e1:decide ((bN:Int)>12)=false:=aY (by omega);have e2:decide ((oN:Int)>300)=true:=bJ (by omega);have he1:=(Ext.refl w).alloc (.cells (bE.cells ⟨kd,aA,aN,aC,bA,bN,bC,wh,nth,⟨ua,ui,un,uk,ul,hA,hm,hc,wA,wn,wc,kA,kn,kc⟩,oA,oN,oC,nA,nN,nC,lb,fr,sk,sd,se,act,im,dy,ev,yA,yN,yC⟩).toArray 42);simp only[bE.cells]at he1⊢;clear hn h0 h1;go_enter func27,ntmps27
 go_wp2;go_ret;exact⟨_,rfl,(fun h=>by cases h),he1⟩
theorem Xm(r:bE)(w:World)(P:Prop)(h0:r.aN<=12)(h1:r.bN<=12)(h2:r.oN<=300)(hn:¬r.nN<=300):Calls prog 27 #[.agg r.cells.toArray] w (uY P w):=by
 obtain⟨kd,aA,aN,aC,bA,bN,bC,wh,nth,⟨ua,ui,un,uk,ul,hA,hm,hc,wA,wn,wc,kA,kn,kc⟩,oA,oN,oC,nA,nN,nC,lb,fr,sk,sd,se,act,im,dy,ev,yA,yN,yC⟩:=r;dsimp only at*;have e0:decide ((aN:Int)>12)=false:=aY (by omega);have e1:decide ((bN:Int)>12)=false:=aY (by omega);have e2:decide ((oN:Int)>300)=false:=aY (by omega);have e3:decide ((nN:Int)>300)=true:=bJ (by omega);have he1:=(Ext.refl w).alloc (.cells (bE.cells ⟨kd,aA,aN,aC,bA,bN,bC,wh,nth,⟨ua,ui,un,uk,ul,hA,hm,hc,wA,wn,wc,kA,kn,kc⟩,oA,oN,oC,nA,nN,nC,lb,fr,sk,sd,se,act,im,dy,ev,yA,yN,yC⟩).toArray 42);simp only[bE.cells]at he1⊢;clear hn h0 h1 h2;go_enter func27,ntmps27
 go_wp2;go_ret;exact⟨_,rfl,(fun h=>by cases h),he1⟩
theorem Xn(r:bE)(w:World)(P:Prop)(h0:r.aN<=12)(h1:r.bN<=12)(h2:r.oN<=300)(h3:r.nN<=300)(hn:¬r.label.size<=100):Calls prog 27 #[.agg r.cells.toArray] w (uY P w):=by
 obtain⟨kd,aA,aN,aC,bA,bN,bC,wh,nth,⟨ua,ui,un,uk,ul,hA,hm,hc,wA,wn,wc,kA,kn,kc⟩,oA,oN,oC,nA,nN,nC,lb,fr,sk,sd,se,act,im,dy,ev,yA,yN,yC⟩:=r;dsimp only at*;have e0:decide ((aN:Int)>12)=false:=aY (by omega);have e1:decide ((bN:Int)>12)=false:=aY (by omega);have e2:decide ((oN:Int)>300)=false:=aY (by omega);have e3:decide ((nN:Int)>300)=false:=aY (by omega);have e4:decide ((lb.size:Int)>100)=true:=bJ (by omega);have he1:=(Ext.refl w).alloc (.cells (bE.cells ⟨kd,aA,aN,aC,bA,bN,bC,wh,nth,⟨ua,ui,un,uk,ul,hA,hm,hc,wA,wn,wc,kA,kn,kc⟩,oA,oN,oC,nA,nN,nC,lb,fr,sk,sd,se,act,im,dy,ev,yA,yN,yC⟩).toArray 42);simp only[bE.cells]at he1⊢;clear hn h0 h1 h2 h3;go_enter func27,ntmps27
 go_wp2;go_ret;exact⟨_,rfl,(fun h=>by cases h),he1⟩
theorem Xo(r:bE)(w:World)(P:Prop)(h0:r.aN<=12)(h1:r.bN<=12)(h2:r.oN<=300)(h3:r.nN<=300)(h4:r.label.size<=100)(hn:¬r.fr.size<=100):Calls prog 27 #[.agg r.cells.toArray] w (uY P w):=by
 obtain⟨kd,aA,aN,aC,bA,bN,bC,wh,nth,⟨ua,ui,un,uk,ul,hA,hm,hc,wA,wn,wc,kA,kn,kc⟩,oA,oN,oC,nA,nN,nC,lb,fr,sk,sd,se,act,im,dy,ev,yA,yN,yC⟩:=r;dsimp only at*;have e0:decide ((aN:Int)>12)=false:=aY (by omega);have e1:decide ((bN:Int)>12)=false:=aY (by omega);have e2:decide ((oN:Int)>300)=false:=aY (by omega);have e3:decide ((nN:Int)>300)=false:=aY (by omega);have e4:decide ((lb.size:Int)>100)=false:=aY (by omega);have e5:decide ((fr.size:Int)>100)=true:=bJ (by omega);have he1:=(Ext.refl w).alloc (.cells (bE.cells ⟨kd,aA,aN,aC,bA,bN,bC,wh,nth,⟨ua,ui,un,uk,ul,hA,hm,hc,wA,wn,wc,kA,kn,kc⟩,oA,oN,oC,nA,nN,nC,lb,fr,sk,sd,se,act,im,dy,ev,yA,yN,yC⟩).toArray 42);simp only[bE.cells]at he1⊢;clear hn h0 h1 h2 h3 h4;go_enter func27,ntmps27
 go_wp2;go_ret;exact⟨_,rfl,(fun h=>by cases h),he1⟩
theorem Xp(r:bE)(w:World)(P:Prop)(h0:r.aN<=12)(h1:r.bN<=12)(h2:r.oN<=300)(h3:r.nN<=300)(h4:r.label.size<=100)(h5:r.fr.size<=100)(hn:¬r.se.size<=100):Calls prog 27 #[.agg r.cells.toArray] w (uY P w):=by
 obtain⟨kd,aA,aN,aC,bA,bN,bC,wh,nth,⟨ua,ui,un,uk,ul,hA,hm,hc,wA,wn,wc,kA,kn,kc⟩,oA,oN,oC,nA,nN,nC,lb,fr,sk,sd,se,act,im,dy,ev,yA,yN,yC⟩:=r;dsimp only at*;have e0:decide ((aN:Int)>12)=false:=aY (by omega);have e1:decide ((bN:Int)>12)=false:=aY (by omega);have e2:decide ((oN:Int)>300)=false:=aY (by omega);have e3:decide ((nN:Int)>300)=false:=aY (by omega);have e4:decide ((lb.size:Int)>100)=false:=aY (by omega);have e5:decide ((fr.size:Int)>100)=false:=aY (by omega);have e6:decide ((se.size:Int)>100)=true:=bJ (by omega);have he1:=(Ext.refl w).alloc (.cells (bE.cells ⟨kd,aA,aN,aC,bA,bN,bC,wh,nth,⟨ua,ui,un,uk,ul,hA,hm,hc,wA,wn,wc,kA,kn,kc⟩,oA,oN,oC,nA,nN,nC,lb,fr,sk,sd,se,act,im,dy,ev,yA,yN,yC⟩).toArray 42);simp only[bE.cells]at he1⊢;clear hn h0 h1 h2 h3 h4 h5;go_enter func27,ntmps27
 go_wp2;go_ret;exact⟨_,rfl,(fun h=>by cases h),he1⟩
theorem Xq(r:bE)(w:World)(P:Prop)(h0:r.aN<=12)(h1:r.bN<=12)(h2:r.oN<=300)(h3:r.nN<=300)(h4:r.label.size<=100)(h5:r.fr.size<=100)(h6:r.se.size<=100)(hn:¬r.ev.size<=100):Calls prog 27 #[.agg r.cells.toArray] w (uY P w):=by
 obtain⟨kd,aA,aN,aC,bA,bN,bC,wh,nth,⟨ua,ui,un,uk,ul,hA,hm,hc,wA,wn,wc,kA,kn,kc⟩,oA,oN,oC,nA,nN,nC,lb,fr,sk,sd,se,act,im,dy,ev,yA,yN,yC⟩:=r;dsimp only at*;have e0:decide ((aN:Int)>12)=false:=aY (by omega);have e1:decide ((bN:Int)>12)=false:=aY (by omega);have e2:decide ((oN:Int)>300)=false:=aY (by omega);have e3:decide ((nN:Int)>300)=false:=aY (by omega);have e4:decide ((lb.size:Int)>100)=false:=aY (by omega);have e5:decide ((fr.size:Int)>100)=false:=aY (by omega);have e6:decide ((se.size:Int)>100)=false:=aY (by omega);have e7:decide ((ev.size:Int)>100)=true:=bJ (by omega);have he1:=(Ext.refl w).alloc (.cells (bE.cells ⟨kd,aA,aN,aC,bA,bN,bC,wh,nth,⟨ua,ui,un,uk,ul,hA,hm,hc,wA,wn,wc,kA,kn,kc⟩,oA,oN,oC,nA,nN,nC,lb,fr,sk,sd,se,act,im,dy,ev,yA,yN,yC⟩).toArray 42);simp only[bE.cells]at he1⊢;clear hn h0 h1 h2 h3 h4 h5 h6;go_enter func27,ntmps27
 go_wp2;go_ret;exact⟨_,rfl,(fun h=>by cases h),he1⟩
theorem Xr(r:bE)(w:World)(P:Prop)(h0:r.aN<=12)(h1:r.bN<=12)(h2:r.oN<=300)(h3:r.nN<=300)(h4:r.label.size<=100)(h5:r.fr.size<=100)(h6:r.se.size<=100)(h7:r.ev.size<=100)(hn:¬r.yN<=2):Calls prog 27 #[.agg r.cells.toArray] w (uY P w):=by
 obtain⟨kd,aA,aN,aC,bA,bN,bC,wh,nth,⟨ua,ui,un,uk,ul,hA,hm,hc,wA,wn,wc,kA,kn,kc⟩,oA,oN,oC,nA,nN,nC,lb,fr,sk,sd,se,act,im,dy,ev,yA,yN,yC⟩:=r;dsimp only at*;have e0:decide ((aN:Int)>12)=false:=aY (by omega);have e1:decide ((bN:Int)>12)=false:=aY (by omega);have e2:decide ((oN:Int)>300)=false:=aY (by omega);have e3:decide ((nN:Int)>300)=false:=aY (by omega);have e4:decide ((lb.size:Int)>100)=false:=aY (by omega);have e5:decide ((fr.size:Int)>100)=false:=aY (by omega);have e6:decide ((se.size:Int)>100)=false:=aY (by omega);have e7:decide ((ev.size:Int)>100)=false:=aY (by omega);have e8:decide ((yN:Int)>2)=true:=bJ (by omega);have he1:=(Ext.refl w).alloc (.cells (bE.cells ⟨kd,aA,aN,aC,bA,bN,bC,wh,nth,⟨ua,ui,un,uk,ul,hA,hm,hc,wA,wn,wc,kA,kn,kc⟩,oA,oN,oC,nA,nN,nC,lb,fr,sk,sd,se,act,im,dy,ev,yA,yN,yC⟩).toArray 42);simp only[bE.cells]at he1⊢;clear hn h0 h1 h2 h3 h4 h5 h6 h7;go_enter func27,ntmps27
 go_wp2;go_ret;exact⟨_,rfl,(fun h=>by cases h),he1⟩
theorem Xt(N:Nat)(ih:Nz N):Nz (N+1):=by
 intro y r w hN hr hB;by_cases n0:r.aN<=12
 case neg=>exact Xj r w _ n0
 by_cases n1:r.bN<=12
 case neg=>exact Xk r w _ n0 n1
 by_cases n2:r.oN<=300
 case neg=>exact Xl r w _ n0 n1 n2
 by_cases n3:r.nN<=300
 case neg=>exact Xm r w _ n0 n1 n2 n3
 by_cases n4:r.label.size<=100
 case neg=>exact Xn r w _ n0 n1 n2 n3 n4
 by_cases n5:r.fr.size<=100
 case neg=>exact Xo r w _ n0 n1 n2 n3 n4 n5
 by_cases n6:r.se.size<=100
 case neg=>exact Xp r w _ n0 n1 n2 n3 n4 n5 n6
 by_cases n7:r.ev.size<=100
 case neg=>exact Xq r w _ n0 n1 n2 n3 n4 n5 n6 n7
 by_cases n8:r.yN<=2
 case neg=>exact Xr r w _ n0 n1 n2 n3 n4 n5 n6 n7 n8
 obtain⟨x,ys⟩:=y;have hit:=hr.it;obtain⟨hyn,ZL,rs,hrs,hall⟩:=hr.ys;dsimp only[fM.x,fM.sK]at hit hyn ZL hall;rw[yR]at hB;obtain⟨⟨b1,b2,b3,b4,b6⟩,b5,hBs⟩:=hB;obtain⟨P,hP⟩:=aH (lu (.mk x ys));have HP:=ah (show sM x->ys.length<=2->xJ ys->P from fun a b c=>by rw[<-hP,lu];exact⟨a,b,c⟩);rw[hP];obtain⟨aiA,aqv,avG,aqw,aqx,avH,aqy,aqz,am7,ZM,aqA,avI,aqB,aqC,avJ,aqD,ahP,aqE,aqF,aqG,aqH,am8,aiB,am9,aqI⟩:=hit;obtain⟨xk,at_,oV,xw,xn,un_,old,nw,xl,xf,xsk,xsd,xse,xac,xim,xdy,xev⟩:=x;obtain⟨kd,aA,aN,aC,bA,bN,bC,wh,nth,ru,oA,oN,oC,nA,nN,nC,lb,fo,sk,sd,se,ac,im,dy,ev,yA,yN,yC⟩:=r;dsimp only at*;subst aqv aqx aqA aqC hyn ahP aqE aqH aqI;have he1:Ext w (w.alloc (.cells (bE.cells ⟨kd,aA,at_.length,aC,bA,oV.length,bC,wh,nth,ru,oA,old.length,oC,nA,nw.length,nC,lb,fo,sk,sd,se,ac,im,dy,ev,yA,ys.length,yC⟩).toArray 42)):=(Ext.refl w).alloc _;have HF:=ah (Q8 un_ ru 30 _ (Reads.ext he1 _ _ ZM) b6 (by omega) (by omega));have Da:=ah (fun w' he j u hj=>ahO (w:=w) (w':=w') (j:=j) (u:=u) aT ⟨kd,aA,at_.length,aC,bA,oV.length,bC,wh,nth,ru,oA,old.length,oC,nA,nw.length,nC,lb,fo,sk,sd,se,ac,im,dy,ev,yA,ys.length,yC⟩ he hj);have jo:=ah hall;have HBs:=ah hBs;have HN:=ah hN;obtain⟨ua,ui,un,uk,ul,hA,hn,hc,wA,wn,wc,kA,kn,kc⟩:=ru;simp only[bE.cells,aB.cells,aT]at HF he1 Da⊢;clear hall hBs hr hN hP b6 ZM aiA aqz am7 aqF aqG am8 aiB am9;have ca:at_.length<=12:=n0;have ca':decide ((at_.length:Int)>12)=false:=aY (by omega);have cb:oV.length<=12:=n1;have cb':decide ((oV.length:Int)>12)=false:=aY (by omega);have co:old.length<=300:=n2;have co':decide ((old.length:Int)>300)=false:=aY (by omega);have cn:nw.length<=300:=n3;have cn':decide ((nw.length:Int)>300)=false:=aY (by omega);have cl:lb.size<=100:=n4;have cl':decide ((lb.size:Int)>100)=false:=aY (by omega);have cf:fo.size<=100:=n5;have cf':decide ((fo.size:Int)>100)=false:=aY (by omega);have cs:se.size<=100:=n6;have cs':decide ((se.size:Int)>100)=false:=aY (by omega);have ce:ev.size<=100:=n7;have ce':decide ((ev.size:Int)>100)=false:=aY (by omega);have cy:ys.length<=2:=n8;have cy':decide ((ys.length:Int)>2)=false:=aY (by omega);clear n0 n1 n2 n3 n4 n5 n6 n7 n8;obtain⟨G,hG⟩:=aH (zQ un_ 30);rw[hG]at HF;have ZN:=ah (fun(hg:G=true) a b c d=>HP.out ⟨ca,cb,co,cn,cl,cf,cs,ce,hG.trans hg,a,b,c,d⟩ cy);clear HP hG;clear ca cb co cn cl cf cs ce;go_enter func27,ntmps27
 go_wp2_with fail
 refine(HF.out).mono ?_;rintro e w2 ⟨rfl,hx2⟩;clear HF;cases G with
 |false=>
  go_wp2;go_ret;exact⟨_,rfl,(fun h=>by cases h),he1.trans hx2⟩
 |true=>
 have hw2:Ext w w2:=he1.trans hx2;have d1:=Da.out w2 hx2 1 _ rfl;have d2:=Da.out w2 hx2 2 _ rfl;have Gi:=Da.out w2 hx2 13 _ rfl;have Dx:=Da.out w2 hx2 14 _ rfl;have ha2:=aqw.ext hw2;have hb2:=aqy.ext hw2;have ho2:=aqB.ext hw2;have hn2:=aqD.ext hw2;obtain⟨wb,hwb⟩:∃wb,wb=w.heap.size:=⟨_,rfl⟩;rw[<-hwb]at d1 d2 Gi Dx⊢;have lH:=ah hwb;have eD:=ah hx2;clear hx2 he1 hwb;clear ca' cb' co' cn' cl' cf' cs' ce' cy'
 go_upto_block 0 with fail
 go_cut [] (fun wx=>wx=w2/\Hid (∀s∈old,s.size<=100))
 case first=>
  go_wp2_with fail
  go_loop [3] (fun i=>∃k:Nat,k<=old.length/\i=.int .i64 k/\Hid (∀s∈old.take k,s.size<=100)) (fun i=>old.length-(intOf i).toNat)
  case atStart=>exact⟨0,bI _,rfl,ah (by simp)⟩
  case round=>
   obtain⟨k,hk,rfl,HH⟩:=hrel;by_cases hlt:k<old.length
   ·obtain⟨b,off,rfl,hb,c1⟩:=ZJ ho2 hlt
    obtain⟨s,hsk⟩:=aH (old[k]);rw[hsk]at c1;have Hs:=ah hsk;clear hsk;have f1:=eY k old.length;by_cases h1:s.size<=100
    ·have f2:decide ((s.size:Int)>100)=false:=aY (by omega)
     go_wp2
     go_round
     case rel=>exact⟨k+1,by omega,by go_num,ah (by
      intro z hz;rw[jk hlt,oo,kX]at hz;rcases hz with hz|rfl
      ·exact HH.out z hz
      ·rw[Hs.out];exact h1)⟩
     case measure=>simp[intOf];omega
    ·have f2:decide ((s.size:Int)>100)=true:=bJ (by omega)
     go_wp2;go_ret;exact⟨_,rfl,(fun h=>by cases h),hw2⟩
   ·have f1:=fT k old.length
    have Lr:=ah (show∀s∈old,s.size<=100 from fun s hs=>HH.out s (by rw[gY (by omega)];exact hs));go_wp2_with fail
    go_meet
    case rel=>exact⟨rfl,Lr⟩
 case rest=>
 obtain⟨hwc,HO'⟩:=hcut;have hwc':=hwc.symm;clear hwc;subst hwc'
 go_upto_block 2 with fail
 go_cut [] (fun wx=>wx=w2/\Hid (∀s∈nw,s.size<=100))
 case first=>
  go_wp2_with fail
  go_loop [4] (fun i=>∃k:Nat,k<=nw.length/\i=.int .i64 k/\Hid (∀s∈nw.take k,s.size<=100)) (fun i=>nw.length-(intOf i).toNat)
  case atStart=>exact⟨0,bI _,rfl,ah (by simp)⟩
  case round=>
   obtain⟨k,hk,rfl,HH⟩:=hrel;by_cases hlt:k<nw.length
   ·obtain⟨b,off,rfl,hb,c1⟩:=ZJ hn2 hlt
    obtain⟨s,hsk⟩:=aH (nw[k]);rw[hsk]at c1;have Hs:=ah hsk;clear hsk;have f1:=eY k nw.length;by_cases h1:s.size<=100
    ·have f2:decide ((s.size:Int)>100)=false:=aY (by omega)
     go_wp2
     go_round
     case rel=>exact⟨k+1,by omega,by go_num,ah (by
      intro z hz;rw[jk hlt,oo,kX]at hz;rcases hz with hz|rfl
      ·exact HH.out z hz
      ·rw[Hs.out];exact h1)⟩
     case measure=>simp[intOf];omega
    ·have f2:decide ((s.size:Int)>100)=true:=bJ (by omega)
     go_wp2;go_ret;exact⟨_,rfl,(fun h=>by cases h),hw2⟩
   ·have f1:=fT k nw.length
    have Lr:=ah (show∀s∈nw,s.size<=100 from fun s hs=>HH.out s (by rw[gY (by omega)];exact hs));go_wp2_with fail
    go_meet
    case rel=>exact⟨rfl,Lr⟩
 case rest=>
 obtain⟨hwc,HN'⟩:=hcut;have hwc':=hwc.symm;clear hwc;subst hwc'
 go_upto_block 4 with fail
 go_cut [] (fun wx=>wx=w2/\Hid (∀s∈at_,s.l.size<=100))
 case first=>
  go_wp2_with fail
  go_loop [5] (fun i=>∃k:Nat,k<=at_.length/\i=.int .i64 k/\Hid (∀s∈at_.take k,s.l.size<=100)) (fun i=>at_.length-(intOf i).toNat)
  case atStart=>exact⟨0,bI _,rfl,ah (by simp)⟩
  case round=>
   obtain⟨k,hk,rfl,HH⟩:=hrel;by_cases hlt:k<at_.length
   ·obtain⟨b,off,rfl,hb,c0,c1⟩:=ZK ha2 hlt
    obtain⟨s,hsk⟩:=aH (at_[k].l);rw[hsk]at c1;have Hs:=ah hsk;clear hsk;have f1:=eY k at_.length;by_cases h1:s.size<=100
    ·have f2:decide ((s.size:Int)>100)=false:=aY (by omega)
     go_wp2
     go_round
     case rel=>exact⟨k+1,by omega,by go_num,ah (by
      intro z hz;rw[jk hlt,oo,kX]at hz;rcases hz with hz|rfl
      ·exact HH.out z hz
      ·rw[Hs.out];exact h1)⟩
     case measure=>simp[intOf];omega
    ·have f2:decide ((s.size:Int)>100)=true:=bJ (by omega)
     go_wp2;go_ret;exact⟨_,rfl,(fun h=>by cases h),hw2⟩
   ·have f1:=fT k at_.length
    have Lr:=ah (show∀s∈at_,s.l.size<=100 from fun s hs=>HH.out s (by rw[gY (by omega)];exact hs));go_wp2_with fail
    go_meet
    case rel=>exact⟨rfl,Lr⟩
 case rest=>
 obtain⟨hwc,HA'⟩:=hcut;have hwc':=hwc.symm;clear hwc;subst hwc'
 go_upto_block 6 with fail
 go_cut [] (fun wx=>wx=w2/\Hid (∀s∈oV,s.l.size<=100))
 case first=>
  go_wp2_with fail
  go_loop [6] (fun i=>∃k:Nat,k<=oV.length/\i=.int .i64 k/\Hid (∀s∈oV.take k,s.l.size<=100)) (fun i=>oV.length-(intOf i).toNat)
  case atStart=>exact⟨0,bI _,rfl,ah (by simp)⟩
  case round=>
   obtain⟨k,hk,rfl,HH⟩:=hrel;by_cases hlt:k<oV.length
   ·obtain⟨b,off,rfl,hb,c0,c1⟩:=ZK hb2 hlt
    obtain⟨s,hsk⟩:=aH (oV[k].l);rw[hsk]at c1;have Hs:=ah hsk;clear hsk;have f1:=eY k oV.length;by_cases h1:s.size<=100
    ·have f2:decide ((s.size:Int)>100)=false:=aY (by omega)
     go_wp2
     go_round
     case rel=>exact⟨k+1,by omega,by go_num,ah (by
      intro z hz;rw[jk hlt,oo,kX]at hz;rcases hz with hz|rfl
      ·exact HH.out z hz
      ·rw[Hs.out];exact h1)⟩
     case measure=>simp[intOf];omega
    ·have f2:decide ((s.size:Int)>100)=true:=bJ (by omega)
     go_wp2;go_ret;exact⟨_,rfl,(fun h=>by cases h),hw2⟩
   ·have f1:=fT k oV.length
    have Lr:=ah (show∀s∈oV,s.l.size<=100 from fun s hs=>HH.out s (by rw[gY (by omega)];exact hs));go_wp2_with fail
    go_meet
    case rel=>exact⟨rfl,Lr⟩
 case rest=>
 obtain⟨hwc,HB'⟩:=hcut;have hwc':=hwc.symm;clear hwc;subst hwc';go_wp2_with fail
 clear d1 d2 Gi Dx ha2 hb2 ho2 hn2;have HP3:=ah (fun c=>ZN.out (by first|rfl|trivial) HO'.out HN'.out HA'.out HB'.out c)
 go_loopw [7] (fun i wr=>∃(k:Nat),k<=ys.length/\i=.int .i64 k/\Hid (∀z∈ys.take k,lu z)/\Ext w2 wr) (fun i _=>ys.length-(intOf i).toNat)
 case atStart=>exact⟨0,bI _,rfl,ah (by simp),Ext.refl _⟩
 case round=>
  obtain⟨k,hk,rfl,HY,hext⟩:=hrel;have hcell:=Da.out _ (eD.out.trans hext) 24 _ rfl;rw[<-lH.out]at hcell;by_cases hlt:k<ys.length
  ·have hlen:=(jo.out).length
   have f1:=eY k ys.length;have mP:k<rs.length:=by omega
   obtain⟨b,off,rfl,hb,hcs⟩:=((hrs.ext hw2).ext hext).at_ mP;have jD:=ah (show At wr b (off+k*25) rs[k].cells from hcs);clear hcs
   have hsub:SizeOf.sizeOf ys[k]<=N:=by
    have a1:=List.sizeOf_lt_of_mem (dW hlt);have a2:=HN.out;simp at a2;omega
   have hrd:=eZ.ext (hw2.trans hext) _ _ ((jo.out).get k hlt mP);have iY:=ah (ih ys[k] rs[k] wr hsub hrd (HBs.out.get k hlt));obtain⟨hyn,ZL,j3,Xu,nL⟩:=hrd.ys;obtain⟨q,hq⟩:=aH (rs[k]);rw[hq]at jD iY hyn Xu;have u24:=jD.out.one 24 (u:=.slice q.yA q.yN q.yC) rfl;have hl2:=nL.length;obtain⟨Z,hZ⟩:=aH (ys[k].sK);rw[hZ]at hyn hl2 nL;have zi:=ah nL
   have V7:=ah (show lu ys[k]->∀z∈ys.take (k+1),lu z from fun h z hz=>by
    rw[jk hlt,oo,kX]at hz;rcases hz with hz|rfl
    ·exact HY.out z hz
    ·exact h)
   obtain⟨O,hO⟩:=aH (lu ys[k]);rw[hO]at iY V7;clear hsub hrd nL hq hZ ZL hO HY;by_cases hz:q.yN=0
   ·have f2:decide ((q.yN:Int)>0)=false:=aY (by omega)
    rw[hz]at u24;clear f2;clear hz hyn hl2;go_wp2_with ((with_reducible refine au aT (.tmp 157) ?_ ?_ ?_ b (off+k*25) ?_ q ?_ ?_);rfl;rfl;rfl;rfl;exact jD.out)
    refine(iY.out).mono ?_;rintro e w3 ⟨bb,rfl,hbb,hx3⟩;cases bb with
    |true=>
     go_wp2;go_roundw
     case rel=>exact⟨k+1,by omega,by go_num,ah (V7.out (hbb (by first|rfl|trivial))),hext.trans hx3⟩
     case measure=>simp[intOf];omega
    |false=>
     go_wp2;go_ret;exact⟨_,rfl,(fun h=>by cases h),hw2.trans (hext.trans hx3)⟩
   ·have f2:decide ((q.yN:Int)>0)=true:=bJ (by omega)
    have f2':decide (0<q.yN)=true:=bJ (by omega);have h0:0<j3.length:=by omega
    have f4:0<q.yN:=by omega
    have f5:(0:Int)<(q.yN:Int):=by omega
    obtain⟨b2,off2,hA2,hb2,hds⟩:=Xu.at_ h0;rw[hA2]at u24;obtain⟨p,hp⟩:=aH (j3[0]);rw[hp]at hds;have v24:wr.cell? ⟨b2,off2+24,none⟩=some (.slice p.yA p.yN p.yC):=by simpa using hds 24 (.slice p.yA p.yN p.yC) rfl
    clear hds;by_cases hz2:p.yN=0
    ·have f3:decide ((p.yN:Int)>0)=false:=aY (by omega)
     have f3':decide (0<p.yN)=false:=aY (by omega);clear hz hyn hl2 hz2 hp hA2;go_wp2_with ((with_reducible refine au aT (.tmp 157) ?_ ?_ ?_ b (off+k*25) ?_ q ?_ ?_);rfl;rfl;rfl;rfl;exact jD.out)
     refine(iY.out).mono ?_;rintro e w3 ⟨bb,rfl,hbb,hx3⟩;cases bb with
     |true=>
      go_wp2;go_roundw
      case rel=>exact⟨k+1,by omega,by go_num,ah (V7.out (hbb (by first|rfl|trivial))),hext.trans hx3⟩
      case measure=>simp[intOf];omega
     |false=>
      go_wp2;go_ret;exact⟨_,rfl,(fun h=>by cases h),hw2.trans (hext.trans hx3)⟩
    ·have f3:decide ((p.yN:Int)>0)=true:=bJ (by omega)
     have f3':decide (0<p.yN)=true:=bJ (by omega);clear hyn hl2 hp hA2;go_wp2;go_ret;exact⟨_,rfl,(fun h=>by cases h),hw2.trans hext⟩
  ·have f1:=fT k ys.length
   go_wp2;go_ret;exact⟨_,rfl,fun _=>HP3.out (xJ.of fun z hz=>HY.out z (by rw[gY (by omega)];exact hz)),hw2.trans hext⟩
theorem OM:∀N,Nz N
 |0=>by
  intro y r w h;obtain⟨x,ys⟩:=y;simp at h
 |N+1=>Xt N (OM N)
def j6(l:List bn):Nat:=(l.map fun a=>a.items.length).sum
def uy(l:List jJ):Nat:=(l.map fun g=>j6 g.acts).sum
theorem ZO{l:List bn}{k:Nat}(h:k<l.length):j6 (l.take (k+1))=j6 (l.take k)+l[k].items.length:=by
 unfold j6;rw[jk h];simp only[List.map_append,List.sum_append,gX,List.map_nil,List.sum_cons,List.sum_nil,Nat.add_zero]
theorem ZP{l:List jJ}{k:Nat}(h:k<l.length):uy (l.take (k+1))=uy (l.take k)+j6 l[k].acts:=by
 unfold uy;rw[jk h];simp only[List.map_append,List.sum_append,gX,List.map_nil,List.sum_cons,List.sum_nil,Nat.add_zero]
theorem zR{α:Type}{l:List α}{k:Nat}{p:α->Prop}(h:k<l.length)(hl:∀x∈l.take k,p x)(hk:p l[k]):∀x∈l.take (k+1),p x:=by
 intro x hx;rw[jk h,oo,kX]at hx;rcases hx with hx|rfl
 ·exact hl x hx
 ·exact hk
theorem Bz{α:Type}{l:List α}{k:Nat}{p:α->Prop}(h:l.length<=k)(hl:∀x∈l.take k,p x):∀x∈l,p x:=fun x hx=>hl x (by rw[gY h];exact hx)
structure aqJ (a:bn):Prop where
 n:a.items.length<=140737488355328
 i:∀y∈a.items,yR y
structure Rh (g:jJ):Prop where
 n:g.acts.length<=9223372036854775807
 a:∀a∈g.acts,aqJ a
structure OkA (a:bn):Prop where
 t:a.title.size<=100
 s:a.se.size<=60
 i:∀y∈a.items,lu y
structure OkG (g:jJ):Prop where
 n:g.acts.length<=8
 a:∀a∈g.acts,OkA a
structure rF (gs:List jJ) (most:Nat):Prop where
 n:gs.length<=8
 g:∀g∈gs,OkG g
 c:uy gs<=most
theorem ZQ(gs:List jJ)(rs:List nX)(A:Option Addr)(c most:Nat)(w:World)(hs:Sl lW w A rs)(hall:fq (jZ w) gs rs)(hn:gs.length<=9223372036854775807)(hbig:∀g∈gs,Rh g)(hm:most<=1000):
 Calls prog 14 #[.slice A rs.length c,.int .i64 (most:Nat)] w (uY (rF gs most) w):=by
 have hlen:=hall.length;rw[hlen];have jo:=ah hall;have HB:=ah hbig;obtain⟨P,hP⟩:=aH (rF gs most);have HP:=ah (show gs.length<=8->(∀g∈gs,OkG g)->uy gs<=most->P from fun a b c=>by rw[<-hP];exact⟨a,b,c⟩);rw[hP];clear hall hbig hP;by_cases h8:gs.length<=8
 case neg=>
  have e1:decide ((gs.length:Int)>8)=true:=bJ (by omega);go_enter func14,ntmps14
  go_wp2;go_ret;exact⟨_,rfl,(fun h=>by cases h),Ext.refl _⟩
 have e1:decide ((gs.length:Int)>8)=false:=aY (by omega);have ZN:=ah (HP.out h8);clear HP;go_enter func14,ntmps14
 go_wp2;clear e1
 go_loopw [5,6] (fun vn vi wr=>∃k n:Nat,k<=gs.length/\vn=.int .i64 (n:Nat)/\vi=.int .i64 (k:Nat)/\n<=most/\Hid (n=uy (gs.take k))/\Hid (∀g∈gs.take k,OkG g)/\Ext w wr) (fun _ vi _=>gs.length-(intOf vi).toNat)
 case atStart=>exact⟨0,0,bI _,rfl,rfl,bI _,ah (by simp[uy]),ah (by simp),Ext.refl _⟩
 case round=>
  obtain⟨k,n,hk,rfl,rfl,hnm,Hn,HO,hext⟩:=hrel;by_cases hlt:k<gs.length
  ·have f1:=eY k gs.length
   have mP:k<rs.length:=by omega
   obtain⟨b,off,rfl,hb,hcs⟩:=(hs.ext hext).at_ mP;have hgz:=((jo.out).get k hlt mP).ext hext;have hbg:=HB.out _ (dW hlt);have fI:=ah (fun h=>zR hlt HO.out h);have Hcn:=ah (ZP hlt);obtain⟨g,hg⟩:=aH (gs[k]);rw[hg]at hgz hbg fI Hcn;obtain⟨q,hq⟩:=aH (rs[k]);rw[hq]at hcs hgz;have jr:=ah (show At wr b (off+k*4) q.cells from hcs);have u2:=jr.out.one 2 (u:=.string q.prior) rfl;have u3:=jr.out.one 3 (u:=.slice q.aA q.aN q.aC) rfl;obtain⟨-,-,-,ZR,haC,ras,adk,nL⟩:=hgz;have CG:=nL.length;have Ls:=ah ZR;have adl:g.acts.length<=8->q.aN<=8:=fun h=>by omega
   have adn:¬g.acts.length<=8->¬q.aN<=8:=fun h=>by omega
   have zi:=ah nL;have HBA:=ah hbg.a;have hbn:=hbg.n;clear hg hq hcs nL hbg ZR;by_cases g1:g.acts.length<=8
   case neg=>
    have e2:decide ((q.aN:Int)>8)=true:=bJ (by have:=adn g1;omega);clear adl adn;go_wp2;go_ret;exact⟨_,rfl,(fun h=>by cases h),hext⟩
   have e2:decide ((q.aN:Int)>8)=false:=aY (by have:=adl g1;omega);clear adl adn;by_cases g2:q.prior.size<=60
   case neg=>
    have e3:decide ((q.prior.size:Int)>60)=true:=bJ (by omega);go_wp2;go_ret;exact⟨_,rfl,(fun h=>by cases h),hext⟩
   have e3:decide ((q.prior.size:Int)>60)=false:=aY (by omega);go_wp2;clear e2 e3;obtain⟨wk,hwk⟩:∃wk,wk=wr:=⟨_,rfl⟩;subst hwk
   go_loopw [5,7] (fun vn vi ws=>∃j m:Nat,j<=g.acts.length/\vn=.int .i64 (m:Nat)/\vi=.int .i64 (j:Nat)/\m<=most/\Hid (m=n+j6 (g.acts.take j))/\Hid (∀a∈g.acts.take j,OkA a)/\Ext wk ws) (fun _ vi _=>g.acts.length-(intOf vi).toNat)
   case atStart=>exact⟨0,n,bI _,rfl,rfl,hnm,ah (by simp[j6]),ah (by simp),Ext.refl _⟩
   case round=>
    obtain⟨j,m,hj,rfl,rfl,hmm,Hm,HA,iK⟩:=hrel;have u2':=(jr.out.ext iK hb).one 2 (u:=.string q.prior) rfl;have u3':=(jr.out.ext iK hb).one 3 (u:=.slice q.aA q.aN q.aC) rfl;by_cases hlt2:j<g.acts.length
    ·have hjq:j<q.aN:=by have:=Ls.out;omega
     have f2:=eY j q.aN;have CJ:j<ras.length:=by omega
     obtain⟨b2,off2,hA2,hb2,hds⟩:=(adk.ext iK).at_ CJ;rw[hA2]at u3';clear hA2;have hac:=((zi.out).get j hlt2 CJ).ext iK;have hba:=HBA.out _ (dW hlt2);have Xv:=ah (fun h=>zR hlt2 HA.out h);have aiC:=ah (ZO hlt2);obtain⟨a,ha⟩:=aH (g.acts[j]);rw[ha]at hac hba Xv aiC;obtain⟨p,hp⟩:=aH (ras[j]);rw[hp]at hds hac;have Ri:=ah (show At wr b2 (off2+j*7) p.cells from hds);have uo:=ah hac;have Hba:=ah hba;have xK:=ah hac.iN;have hib:p.iN<=140737488355328:=by rw[hac.iN];exact hba.n
     have a1: -9223372036854775808<=((m:Int)+(p.iN:Int)):=by omega
     have a2:((m:Int)+(p.iN:Int))<=9223372036854775807:=by omega
     clear ha hp hds hac hba;go_upto_region 14 with(first|((with_reducible refine au eB (.tmp 51) ?_ ?_ ?_ b2 (off2+j*7) ?_ p ?_ ?_);rfl;rfl;rfl;rfl;exact Ri.out)|(refine aL eB rfl rfl fun w1 hx1 hz1 hk1=> ?_)|((with_reducible refine aD eB (.tmp 8) (.tmp 52) ?_ ?_ wr wr.heap.size ?_ p ?_ _ _ hk1 ?_ hx1 (aI _) ?_);rfl;rfl;rfl;rfl;rfl;intro w2 hx2 hz2 hk2 Rj ho2;have pU:=ah Rj;have p1:=Rj.one 1 (u:=.string p.title) rfl;have p5:=Rj.one 5 (u:=.string p.se) rfl;have p6:=Rj.one 6 (u:=.slice p.iA p.iN p.iC) rfl;simp only[bV]at p1 p5 p6;have aqK:=ay hk2;clear hz2 hk2 Rj ho2 hz1 hk1 hx1))
     go_cut [73] (fun s73 wx=>wx=w2/\∃bb:Bool,s73=.bool bb/\Hid (bb=false->m+p.iN<=most/\p.title.size<=100/\p.se.size<=60))
     case first=>
      by_cases q1:m+p.iN<=most
      case neg=>
       have e2:decide (((m:Int)+(p.iN:Int))>(most:Int))=true:=bJ (by omega);have e2':decide ((m+p.iN)>most)=true:=bJ (by omega);go_wp2_with fail
       go_meet
       case rel=>exact⟨rfl,true,rfl,ah (fun h=>by cases h)⟩
      have e2:decide (((m:Int)+(p.iN:Int))>(most:Int))=false:=aY (by omega);have e2':decide ((m+p.iN)>most)=false:=aY (by omega);by_cases q2:p.title.size<=100
      case neg=>
       have e3:decide ((p.title.size:Int)>100)=true:=bJ (by omega);go_wp2_with fail
       go_meet
       case rel=>exact⟨rfl,true,rfl,ah (fun h=>by cases h)⟩
      have e3:decide ((p.title.size:Int)>100)=false:=aY (by omega);by_cases q3:p.se.size<=60
      case neg=>
       have e4:decide ((p.se.size:Int)>60)=true:=bJ (by omega);go_wp2_with fail
       go_meet
       case rel=>exact⟨rfl,true,rfl,ah (fun h=>by cases h)⟩
      have e4:decide ((p.se.size:Int)>60)=false:=aY (by omega);go_wp2_with fail
      go_meet
      case rel=>exact⟨rfl,false,rfl,ah (fun _=>⟨q1,q2,q3⟩)⟩
     case rest=>
     obtain⟨hwc,bb,hbb,HQ0⟩:=hcut;subst hbb;have hwc':=hwc.symm;clear hwc;subst hwc';clear p1 p5 aqK;cases bb with
     |true=>
      go_wp2;go_ret;exact⟨_,rfl,(fun h=>by cases h),hext.trans (iK.trans hx2)⟩
     |false=>
     have HQ:=ah (HQ0.out rfl);clear HQ0;have hxx:=hext.trans (iK.trans hx2);have Xw:=pU.out.one 6 (u:=.slice p.iA p.iN p.iC) rfl;have hbl:=pU.out.lt (by simp[eB,bM.cells]);obtain⟨g8,V8⟩:∃g8,g8=wr.heap.size:=⟨_,rfl⟩;rw[<-V8]at pU hbl p6⊢;have eD:=ah hx2;obtain⟨OO,Rk,xL⟩:=(uo.out.ext hx2).it;have Lu:=ah xL;have avB:=xL.length;clear V8 hx2 xL;go_wp2
     go_loopw [9] (fun vi wz=>∃i:Nat,i<=a.items.length/\vi=.int .i64 (i:Nat)/\Hid (∀y∈a.items.take i,lu y)/\Ext w2 wz) (fun vi _=>a.items.length-(intOf vi).toNat)
     case atStart=>exact⟨0,bI _,rfl,ah (by simp),Ext.refl _⟩
     case round=>
      obtain⟨i,hi,rfl,HI,zh⟩:=hrel;have p6':=(pU.out.ext zh hbl).one 6 (u:=.slice p.iA p.iN p.iC) rfl;simp only[bV]at p6';by_cases hlt3:i<a.items.length
      ·have avK:i<p.iN:=by rw[xK.out];exact hlt3
       have f3:=eY i p.iN;have afx:i<OO.length:=by omega
       obtain⟨b3,Rl,hA3,hb3,hes⟩:=(Rk.ext zh).at_ afx;rw[hA3]at p6';clear hA3;have hrd:=eZ.ext zh _ _ ((Lu.out).get i hlt3 afx);have iY:=ah (OM _ _ _ wr (aI _) hrd (Hba.out.i _ (dW hlt3)));have V7:=ah (show lu a.items[i]->∀y∈a.items.take (i+1),lu y from fun h=>zR hlt3 HI.out h);obtain⟨O,hO⟩:=aH (lu a.items[i]);rw[hO]at iY V7;obtain⟨z,hz⟩:=aH (OO[i]);rw[hz]at hes iY;have Hes:=ah (show At wr b3 (Rl+i*25) z.cells from hes);clear hes hz hO hrd;go_wp2_with ((with_reducible refine au aT (.tmp 84) ?_ ?_ ?_ b3 (Rl+i*25) ?_ z ?_ ?_);rfl;rfl;rfl;rfl;exact Hes.out)
       refine(iY.out).mono ?_;rintro e w5 ⟨bb,rfl,hbb,hx5⟩;cases bb with
       |true=>
        go_wp2;go_roundw
        case rel=>exact⟨i+1,by omega,by go_num,ah (V7.out (hbb (by first|rfl|trivial))),zh.trans hx5⟩
        case measure=>simp[intOf];omega
       |false=>
        go_wp2;go_ret;exact⟨_,rfl,(fun h=>by cases h),hxx.trans (zh.trans hx5)⟩
      ·have f3:decide ((i:Int)<(p.iN:Int))=false:=aY (by have:=xK.out;omega)
       have f3':decide (i<p.iN)=false:=aY (by have:=xK.out;omega);have HI2:=ah (Bz (by omega) HI.out);have Fx:=ah (Xv.out ⟨by rw[<-uo.out.title];exact HQ.out.2.1,by rw[<-uo.out.se];exact HQ.out.2.2,HI2.out⟩);have ZT:=ah (show m+p.iN=n+j6 (g.acts.take (j+1)) by rw[Hm.out,aiC.out,xK.out,Nat.add_assoc]);have hxe:=iK.trans (eD.out.trans zh);go_wp2;go_roundw
       case rel=>exact⟨j+1,m+p.iN,by omega,by go_num,by go_num,HQ.out.1,ZT,Fx,hxe⟩
       case measure=>simp[intOf];omega
    ·have f2:decide ((j:Int)<(q.aN:Int))=false:=aY (by have:=Ls.out;omega)
     have f2':decide (j<q.aN)=false:=aY (by have:=Ls.out;omega);have HA2:=ah (Bz (by omega) HA.out);have yG:=ah (fI.out ⟨g1,HA2.out⟩);have sN:=ah (show m=uy (gs.take (k+1)) by rw[Hm.out,Hcn.out,<-Hn.out,gY (by omega)]);go_wp2;go_roundw
     case rel=>exact⟨k+1,m,by omega,rfl,by go_num,hmm,sN,yG,hext.trans iK⟩
     case measure=>simp[intOf];omega
  ·have f1:=fT k gs.length
   have yG:=ah (Bz (by omega) HO.out);have sN:=ah (show uy gs<=most by have:=Hn.out;rw[gY (by omega)]at this;omega);go_wp2;go_ret;exact⟨_,rfl,fun _=>ZN.out yG.out sN.out,hext⟩
end Go.Proofs.YtgboomjahhnldaaGreatDoor
