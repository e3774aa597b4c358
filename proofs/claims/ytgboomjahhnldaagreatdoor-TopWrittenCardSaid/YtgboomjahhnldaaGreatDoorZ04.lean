/- A part of the proof of TopWritten, printed small: Mask Tree TopU Size FewP TreeLaws. -/
import Derived.Test.YtgboomjahhnldaaGreatDoorZ03
import Derived.Maps.AppendAt
import Derived.Test.YtgboomjahhnldaaGreatDoorZ02
set_option maxRecDepth 100000
set_option maxHeartbeats 25600000
set_option linter.all false
namespace Go.Proofs.YtgboomjahhnldaaGreatDoor
open Go.Proofs.Tryz Go.RowKit
def mask(p:Nat->Bool)(w:World):World:={w with heap:=w.heap.mapIdx fun k o=>if p k then .pending #[] 0 else o}
theorem mF(p:Nat->Bool)(w:World):(mask p w).heap.size=w.heap.size:=by simp[mask]
theorem Ld(p:Nat->Bool)(w:World)(k:Nat):(mask p w).heap[k]? =(w.heap[k]?).map fun o=>if p k then .pending #[] 0 else o:=by simp[mask]
theorem wI{p:Nat->Bool}{w:World}{q:Addr}{c:Value}(h:(mask p w).cell? q=some c):p q.block=false/\w.cell? q=some c:=by
 unfold World.cell? at h⊢;rw[Ld]at h;cases hw:w.heap[q.block]? with
 |none=>rw[hw]at h;cases h
 |some o=>
  rw[hw]at h;cases hp:p q.block with
  |true=>simp[hp]at h
  |false=>simp only[hp,Option.map_some,Bool.false_eq_true,if_false]at h;exact⟨rfl,h⟩
theorem ng{p:Nat->Bool}{w:World}{q:Addr}{c:Value}(hp:p q.block=false)(h:w.cell? q=some c):(mask p w).cell? q=some c:=by
 unfold World.cell? at h⊢;rw[Ld];cases hw:w.heap[q.block]? with
 |none=>rw[hw]at h;cases h
 |some o=>rw[hw]at h;simpa[hp]using h
structure aZ (w w':World):Prop where
 size:w.heap.size<=w'.heap.size
 cell:∀q c,w.cell? q=some c->w'.cell? q=some c
theorem aZ.trans{a b c:World}(h:aZ a b)(k:aZ b c):aZ a c:=⟨bX h.size k.size,fun q v hv=>k.cell q v (h.cell q v hv)⟩
theorem aZ.dH{w w':World}(h:Ext w w'):aZ w w':=⟨h.size,fun q c hc=>(h.cell (World.block_lt_of_cell? w q hc)).trans hc⟩
theorem aZ.iV(p:Nat->Bool)(w:World):aZ (mask p w) w:=⟨by rw[mF];exact aI _,fun _ _ h=>(wI h).2⟩
theorem aZ.weaken{p q:Nat->Bool}(w:World)(h:∀k,q k=true->p k=true):aZ (mask p w) (mask q w):=by
 refine⟨by rw[mF,mF];exact aI _,fun a c hc=> ?_⟩;obtain⟨h1,h2⟩:=wI hc;refine ng ?_ h2;cases hq:q a.block with
 |false=>rfl
 |true=>rw[h _ hq]at h1;cases h1
theorem aZ.keep{p q:Nat->Bool}{w w':World}(hs:w.heap.size<=w'.heap.size)(hb:∀k,k<w.heap.size->p k=false->w'.heap[k]? =w.heap[k]?/\q k=false):aZ (mask p w) (mask q w'):=by
 refine⟨by rw[mF,mF];exact hs,fun a c hc=> ?_⟩;obtain⟨h1,h2⟩:=wI hc;obtain⟨h3,h4⟩:=hb a.block (World.block_lt_of_cell? w a h2) h1;refine ng h4 ?_;rw[<-h2];exact World.cell?_of_block h3
theorem aZ.qM{p q:Nat->Bool}{w w':World}(he:Ext w w')(hb:∀k,k<w.heap.size->p k=false->q k=false):aZ (mask p w) (mask q w'):=
 aZ.keep he.size fun k hk hp=>⟨he.block hk,hb k hk hp⟩
theorem aZ.ext{p:Nat->Bool}{w w':World}(he:Ext w w'):aZ (mask p w) (mask p w'):=aZ.qM he fun _ _ h=>h
theorem Ext.put{a w w':World}{b:Nat}(h:Ext a w)(hb:a.heap.size<=b)(hw:∀k,k≠b->w'.heap[k]? =w.heap[k]?)(hos:w'.os=w.os)(htp:w'.tape=w.tape)(hou:w'.output=w.output)(hs:w'.heap.size=w.heap.size):Ext a w':=
 ⟨hos.trans h.os,htp.trans h.tape,hou.trans h.output,by rw[hs];exact h.size,fun k hk=>(hw k (by omega)).trans (h.block hk)⟩
def fresh(n:Nat):Nat->Bool:=fun k=>decide (k<n)
section
variable {P:Program} {α:Type} {D:El P α} {w w':World} {A:Option Addr} {v:Value} {base:Nat} {xs ys:List α}
theorem Sl.cin(h:Sl D w A xs)(hc:aZ w w'):Sl D w' A xs:=fun hn=>by
 obtain⟨b,off,hA,hb,hq⟩:=h hn;exact⟨b,off,hA,bQ hb hc.size,fun j u hu=>hc.cell _ _ (hq j u hu)⟩
theorem Own.kG{p:Nat->Bool}(h:Own D base w v xs)(hp:∀k,base<=k->v.ownBlock=some k->p k=false):∃A c,v=.slice A xs.length c/\xs.length<=c/\c<=281474976710656*32768/\Sl D (mask p w) A xs:=by
 rcases h.2 with⟨hv,h0⟩|⟨g,cap,cur,hv,hg,hh,hn,hc,hs,ht⟩
 ·have:xs=[]:=kM h0
  subst this;exact⟨none,0,hv,aI _,bI _,Sl.nil⟩
 ·refine⟨some ⟨g,0,none⟩,cap,hv,hn,by unfold maxLen at hc;omega,fun _=>⟨g,0,rfl,?_,fun j u hu=> ?_⟩⟩
  ·rw[mF]
   rcases gM g w.heap.size with hlt|hge
   ·exact hlt
   ·rw[ze hge]at hh;cases hh
  ·refine ng (hp g hg (by rw[hv];rfl)) ?_
   rw[bV];simp only[World.cell?,hh];have:(cur.toList.take (xs.length*D.m))[j]? =some u:=by rw[ht];exact hu
   rw[List.getElem?_take]at this
   split at this
   ·simpa using this
   ·cases this
theorem Own.keep(h:Own D base w v xs)(hs:∀k,v.ownBlock=some k->w'.heap[k]? =w.heap[k]?):Own D base w' v xs:=by
 refine⟨h.1,?_⟩;rcases h.2 with h2|⟨g,cap,cur,hv,hg,hh,r⟩
 ·exact .inl h2
 ·exact .inr ⟨g,cap,cur,hv,hg,(hs g (by rw[hv];rfl)).trans hh,r⟩
end
theorem Own.step{P:Program}{α:Type}{D:El P α}{base bo B:Nat}{wr wq w2 w3:World}{v v':Value}{xs ys:List α}{p:Nat->Bool}(he:Ext wr wq)(hown:Own D base wr v xs)(hp2:p bo=true)(hp3:∀j,p j=true->j<wr.heap.size)
 (hpo:∀g,v.ownBlock=some g->p g=true/\g≠bo) (hg2:wq.grownBy w2 v.ownBlock) (hloc:v'.ownBlock=v.ownBlock∨v'.ownBlock=some wq.heap.size) (hown2:Own D base w2 v' ys)
 (hw3:∀k,k≠bo->w3.heap[k]? =w2.heap[k]?) (hos:w3.os=w2.os) (htp:w3.tape=w2.tape) (hou:w3.output=w2.output) (hs:w3.heap.size=w2.heap.size) (hB1:B<=bo) (hB2:B<=base) (hB3:B<=wr.heap.size):
 ∃p':Nat->Bool,(∀j,p j=true->p' j=true)/\(∀j,p' j=true->j<w3.heap.size)/\(∀g,v'.ownBlock=some g->p' g=true/\g≠bo)/\aZ (mask p wr) (mask p' w3)/\aZ (mask (fresh wr.heap.size) wq) (mask p' w3)/\Own D base w3 v' ys/\Below B wr w3:=by
 have hbo:bo<wr.heap.size:=hp3 bo hp2;have hsz:=he.size;have hsz2:=hg2.size
 have hne:∀g,v'.ownBlock=some g->g≠bo:=by
  intro g hg;rcases hloc with h|h
  ·rw[h]at hg;exact(hpo g hg).2
  ·rw[h]at hg
   cases hg
   omega
 have hnot:∀k,k≠wq.heap.size->v.ownBlock≠some k->v'.ownBlock≠some k:=by
  intro k h1 h2 h3;rcases hloc with h|h
  ·rw[h]at h3;exact h2 h3
  ·rw[h]at h3
   cases h3
   exact h1 rfl
 refine⟨fun j=>p j||decide (v'.ownBlock=some j),fun j hj=>by simp[hj],fun j hj=> ?_,fun g hg=>⟨by simp[hg],hne g hg⟩,?_,?_,hown2.keep fun g hg=>hw3 g (hne g hg),?_⟩
 ·simp only[Bool.or_eq_true,decide_eq_true_eq]at hj
  rcases hj with h|h
  ·have:=hp3 j h;omega
  ·have:=(hown2.lt j h).2;omega
 ·refine aZ.keep (by omega) fun k hk hpk=> ?_
  have h1:k≠bo:=by rintro rfl;rw[hp2]at hpk;cases hpk
  have h2:v.ownBlock≠some k:=fun h=>by rw[(hpo k h).1]at hpk;cases hpk
  refine⟨(hw3 k h1).trans ((hg2.block k (by omega) (fun h=>h2 h.symm)).trans (he.block hk)),?_⟩;simp[hpk,hnot k (by omega) h2]
 ·refine aZ.keep (by omega) fun k hk hpk=> ?_
  simp only[fresh,decide_eq_false_iff_not,Nat.not_lt]at hpk;have h2:v.ownBlock≠some k:=fun h=>by have:=(hown.lt k h).2;omega
  refine⟨(hw3 k (by omega)).trans (hg2.block k hk (fun h=>h2 h.symm)),?_⟩
  have h3:p k=false:=by
   cases h:p k with
   |false=>rfl
   |true=>have:=hp3 k h;omega
  simp[h3,hnot k (by omega) h2]
 ·refine⟨hos.trans (hg2.os.trans he.os),htp.trans (hg2.tape.trans he.tape),hou.trans (hg2.output.trans he.output),by omega,fun k hk=> ?_⟩
  have h2:v.ownBlock≠some k:=fun h=>by have:=(hown.lt k h).1;omega
  exact(hw3 k (by omega)).trans ((hg2.block k (by omega) (fun h=>h2 h.symm)).trans (he.block (by omega)))
section
variable {P:Program} {w:World} {ops:Array Oper} {rest:List Oper} {o:Oper} {a:Act} {Q:Exit->Act->World->Prop}
theorem aP(hgd:o.guard=none)(ty:TypeId)(x y:Operand)(ho:o.op=.store ty x y)(g off:Nat)(v:Value)(hx:a.eval x=.pointer (some ⟨g,off,none⟩))(hy:a.eval y=v)(vs:List Value)(hv:v.cells.toList=vs)
 (hsz:∀w,(sizeOf ty).run P w=.ok vs.length w) (h1:∀u∈vs,u.oneCell'=true) (t:TypeId) (cur:Array Value) (hg:w.heap[g]? =some (.cells cur t (0,0))) (hoff:off+vs.length<=cur.size)
 (h:∀w',(∀k,k≠g->w'.heap[k]? =w.heap[k]?)->w'.os=w.os->w'.tape=w.tape->w'.output=w.output->w'.heap.size=w.heap.size->w'.heap[g]? =some (.cells (cur.toList.take off++vs++cur.toList.drop (off+vs.length)).toArray t (0,0))->
   wpList P ops Q rest (a.put o.dst undef) w'):wpList P ops Q (o::rest) a w:=by
 refine wpList_plain hgd fun K hK=> ?_;have hrun:=run_storeCells_at (P:=P) g off t vs 0 cur w hg (by simpa using hoff) h1
 have hr:(storeVar ty ⟨g,off,none⟩ v).run P w=.ok () (w.setRow g (cur.toList.take (off+0)++vs++cur.toList.drop (off+0+vs.length)).toArray):=by
  have hl:v.cells.size=vs.length:=by rw[<-hv];simp
  simp[storeVar,hsz,hl,hv,hrun]
 unfold Oper.wp execOp;simp only[ho,hx,hy,Instr.storeAt,Instr.sureAddr,Sem.run_bind,Sem.run_pure,Result.andThen_ok,hr];refine hK _ _ (h _ (fun k hk=>setRow_other w g k _ hk) rfl rfl rfl (by simp) ?_);simp only[Nat.add_zero];exact setRow_heap w g cur _ t _ hg
variable {α:Type} (D:El P α) {A:Option Addr} {v:Value} {base:Nat} {xs ys:List α}
theorem Oz(ty:TypeId)(hown:Own D base w v xs)(c:Nat)(hsl:Sl D w A ys)(hn:xs.length+ys.length<=68719476736)(hbase:base<=w.heap.size):
 ∃v' w',(Builtin.append_ #[D.t,D.t] ty #[v,.slice A ys.length c]).run P w=.ok v' w'/\Own D base w' v' (xs++ys)/\w.grownBy w' v.ownBlock/\(v'.ownBlock=v.ownBlock∨v'.ownBlock=some w.heap.size):=by
 obtain⟨i,hi,hz0,hz1,hz2⟩:=info_parts D.hi
 have Nv:ys=[]->(A=none)->∃v' w',(Builtin.append_ #[D.t,D.t] ty #[v,.slice A ys.length c]).run P w=.ok v' w'/\Own D base w' v' (xs++ys)/\w.grownBy w' v.ownBlock/\(v'.ownBlock=v.ownBlock∨v'.ownBlock=some w.heap.size):=by
  rintro rfl rfl;exact⟨v,w,Jm D ty hown c,by simpa using hown,⟨rfl,rfl,rfl,aI _,fun _ _ _=>rfl⟩,.inl rfl⟩
 have main:∀ad:Addr,A=some ad->(∀j u,(D.flat ys)[j]? =some u->w.cell? (ad.add j)=some u)->∃v' w',(Builtin.append_ #[D.t,D.t] ty #[v,.slice A ys.length c]).run P w=.ok v' w'/\Own D base w' v' (xs++ys)/\w.grownBy w' v.ownBlock/\(v'.ownBlock=v.ownBlock∨v'.ownBlock=some w.heap.size):=by
  rintro ad rfl hc;have hb:=D.hb
  obtain⟨v',w',hr,h2,h3,_,h5⟩:=run_append_own_at (P:=P) w base D.t ty D.e i D.z D.m D.bytes D.ht hi hz0 hz1 hz2 D.hz D.hm v xs.length (D.flat xs) hown ad ys.length c (D.flat ys) (D.aX ys) hc D.vJ
   (by unfold maxLen;omega) (bX (Nat.mul_le_mul hn hb) (by decide)) hbase
  refine⟨v',w',hr,?_,h3,h5⟩;unfold Own;rw[eu,D.dF];exact h2
 rcases A with _|ad
 ·cases ys with
  |nil=>exact Nv rfl rfl
  |cons y ys=>obtain⟨_,_,h,_⟩:=hsl (by simp);cases h
 ·refine main ad rfl fun j u hu=> ?_
  cases ys with
  |nil=>simp[El.flat]at hu
  |cons y ys=>
   obtain⟨b,off,h,_,hc⟩:=hsl (by simp);cases h
   have:=hc j u hu;unfold Addr.add
   split
   ·rename_i h0;subst h0;simpa using this
   ·exact this
theorem lq(hgd:o.guard=none)(s x:Operand)(ho:o.op=.call {callee:=.builtin .append,args:= #[s,x],argTypes:= #[D.t,D.t]})
 (c:Nat) (hs:a.eval s=v) (hown:Own D base w v xs) (hx:a.eval x=.slice A ys.length c) (hsl:Sl D w A ys) (hn:xs.length+ys.length<=68719476736) (hbase:base<=w.heap.size)
 (h:∀v' w',Own D base w' v' (xs++ys)->w.grownBy w' v.ownBlock->(v'.ownBlock=v.ownBlock∨v'.ownBlock=some w.heap.size)->wpList P ops Q rest (a.put o.dst v') w'):wpList P ops Q (o::rest) a w:=
 wpList_plain hgd fun _ hK=>by
  obtain⟨v',w',hr,h2,h3,h4⟩:=Oz D o.type hown c hsl hn hbase;unfold Oper.wp execOp;simp only[ho,resolve,invoke,builtin,Sem.run_bind,Sem.run_pure,Result.andThen_ok,List.map_toArray,gX,List.map_nil,hs,hx,hr];exact hK _ _ (h v' w' h2 h3 h4)
theorem nU(hgd:o.guard=none)(x y:Operand)(ho:o.op=.store D.e x y)(g c k off:Nat)(r:α)(u:Value)(hx:a.eval x=.pointer (some ⟨g,off,none⟩))(hoff:off=k*D.m)(hy:a.eval y=u)(hu:u.cells.toList=D.E r)
 (hown:Own D base w (.slice (some ⟨g,0,none⟩) xs.length c) xs) (hk:k<xs.length)
 (h:∀w',(∀k,k≠g->w'.heap[k]? =w.heap[k]?)->w'.os=w.os->w'.tape=w.tape->w'.output=w.output->w'.heap.size=w.heap.size->Own D base w' (.slice (some ⟨g,0,none⟩) xs.length c) (xs.set k r)->wpList P ops Q rest (a.put o.dst undef) w'):
 wpList P ops Q (o::rest) a w:=by
 obtain⟨i,hi,_,hsz,_⟩:=info_parts D.hi;have hs:∀w,(sizeOf D.e).run P w=.ok D.m w:=fun w=>by simp[sizeOf,typeInfo,hi,hsz]
 rcases hown.2 with⟨hv,h0⟩|⟨g',cap,cur,hv,hg,hh,hn,hc,hcs,ht⟩
 ·cases hv
 ·cases hv
  have hkm:k*D.m+D.m<=xs.length*D.m:=by rw[<-Nat.succ_mul];exact Nat.mul_le_mul_right _ hk
  have hcm:xs.length*D.m<=cur.size:=by rw[hcs];exact Nat.mul_le_mul_right _ hn
  refine aP hgd D.e x y ho g off u hx hy (D.E r) hu (fun w=>by rw[D.hE];exact hs w) (fun v hv=>D.h1 r v hv) D.e cur hh (by rw[D.hE,hoff];omega) fun w' h1 h2 h3 h4 h5 h6=>h w' h1 h2 h3 h4 h5 ?_;subst hoff;have hl:(D.flat (xs.set k r)).length=xs.length*D.m:=by rw[D.aX,List.length_set]
  have hdec:xs.set k r=xs.take k++r::xs.drop (k+1):=by rw[List.set_eq_take_append_cons_drop,bH hk]
  have Le:xs=xs.take k++xs[k]::xs.drop (k+1):=by rw[<-iW hk,jl]
  have hlk:(D.flat (xs.take k)).length=k*D.m:=by rw[D.aX,fu,jF (by omega)]
  have hlr:(D.flat (xs.drop (k+1))).length=xs.length*D.m-(k*D.m+D.m):=by
   rw[D.aX,jV,Nat.sub_mul,Nat.succ_mul]
  have hcurr:cur.toList=D.flat (xs.take k)++(D.E xs[k]++(D.flat (xs.drop (k+1))++cur.toList.drop (xs.length*D.m))):=by
   have e0:cur.toList=D.flat xs++cur.toList.drop (xs.length*D.m):=by
    conv=>lhs;rw[<-jl (xs.length*D.m) cur.toList,ht]
   have e1:D.flat xs=D.flat (xs.take k)++(D.E xs[k]++D.flat (xs.drop (k+1))):=by
    conv=>lhs;rw[Le,D.dF]
    simp only[El.flat,List.flatMap_cons]
   rw[e1]at e0
   conv=>lhs;rw[e0]
   simp only[dV]
  have e2:cur.toList.take (k*D.m)=D.flat (xs.take k):=by
   rw[hcurr,<-hlk];exact List.take_left
  have e3:cur.toList.drop (k*D.m+(D.E r).length)=D.flat (xs.drop (k+1))++cur.toList.drop (xs.length*D.m):=by
   rw[D.hE]
   conv=>lhs;rw[hcurr]
   rw[<-dV,List.drop_left' (by rw[eu,hlk,D.hE])]
  unfold Own World.ownsRow;rw[List.length_set];refine⟨hl,.inr ⟨g,c,_,rfl,hg,h6,hn,hc,?_,?_⟩⟩
  ·simp only[List.size_toArray,eu,fu,jV,lK,D.hE]
   omega
  ·rw[List.toList_toArray,e2,e3]
   have e4:D.flat (xs.set k r)=D.flat (xs.take k)++D.E r++D.flat (xs.drop (k+1)):=by
    rw[hdec,D.dF];simp[El.flat]
   rw[<-dV,<-e4,<-hl];exact List.take_left
end
structure aB where
 a:Int
 i:Int
 n:Int
 kind:Int
 label:ByteArray
 hA:Option Addr
 hn:Nat
 hc:Nat
 wA:Option Addr
 wn:Nat
 wc:Nat
 kA:Option Addr
 kn:Nat
 kc:Nat
def aB.cells(r:aB):List Value:=[.int .i64 r.a,.int .i64 r.i,.int .i64 r.n,.int .i64 r.kind,.string r.label,.slice r.hA r.hn r.hc,.slice r.wA r.wn r.wc,.slice r.kA r.kn r.kc]
def aj:El prog aB:={t:=28,e:=30,m:=8,bytes:=120,z:=.agg #[.int .i64 0,.int .i64 0,.int .i64 0,.int .i64 0,.string ByteArray.empty,.slice none 0 0,.slice none 0 0,.slice none 0 0],E:=aB.cells,hE:=fun _=>rfl,h1:=by simp[aB.cells,Value.oneCell'],ht:=by kernel_rfl,hi:=by kernel_rfl,hz:=rfl,hm:=by decide,hb:=by decide,agg:=true,hagg:=isAgg30}
inductive av where
 |mk (a i n kind:Int) (label:ByteArray) (head words:List aJ) (kids:List av)
mutual
def Reads(w:World):av->aB->Prop
 |.mk a i n k l hd wd kids,r=>(r.a=a/\r.i=i/\r.n=n/\r.kind=k/\r.label=l)/\(r.hn=hd.length/\hd.length<=r.hc/\Sl aQ w r.hA hd)/\(r.wn=wd.length/\wd.length<=r.wc/\Sl aQ w r.wA wd)/\
  (r.kn=kids.length/\kids.length<=r.kc/\∃rs,Sl aj w r.kA rs/\ReadsAll w kids rs)
def ReadsAll(w:World):List av->List aB->Prop
 |[],[]=>True
 |u::us,r::rs=>Reads w u r/\ReadsAll w us rs
 |[],_::_=>False
 |_::_,[]=>False
end
mutual
theorem Reads.cin{w w':World}(he:aZ w w'):∀(u:av) (r:aB),Reads w u r->Reads w' u r
 |.mk a i n k l hd wd kids,r,h=>by
  rw[Reads]at h⊢;obtain⟨h1,⟨h2,h3,h4⟩,⟨h5,h6,h7⟩,h8,h9,rs,h10,h11⟩:=h;exact⟨h1,⟨h2,h3,h4.cin he⟩,⟨h5,h6,h7.cin he⟩,h8,h9,rs,h10.cin he,ReadsAll.cin he kids rs h11⟩
theorem ReadsAll.cin{w w':World}(he:aZ w w'):∀(us:List av) (rs:List aB),ReadsAll w us rs->ReadsAll w' us rs
 |[],[],_=>by rw[ReadsAll];trivial
 |u::us,r::rs,h=>by
  rw[ReadsAll]at h⊢;exact⟨Reads.cin he u r h.1,ReadsAll.cin he us rs h.2⟩
 |[],_::_,h=>by rw[ReadsAll]at h;exact h.elim
 |_::_,[],h=>by rw[ReadsAll]at h;exact h.elim
end
theorem Reads.ext{w w':World}(he:Ext w w')(u:av)(r:aB)(h:Reads w u r):Reads w' u r:=Reads.cin (aZ.dH he) u r h
theorem ReadsAll.ext{w w':World}(he:Ext w w')(us:List av)(rs:List aB)(h:ReadsAll w us rs):ReadsAll w' us rs:=ReadsAll.cin (aZ.dH he) us rs h
theorem ReadsAll.length{w:World}:∀{us:List av} {rs:List aB},ReadsAll w us rs->rs.length=us.length
 |[],[],_=>rfl
 |u::us,r::rs,h=>by
  rw[ReadsAll]at h;simp[ReadsAll.length h.2]
 |[],_::_,h=>by rw[ReadsAll]at h;exact h.elim
 |_::_,[],h=>by rw[ReadsAll]at h;exact h.elim
theorem ReadsAll.get{w:World}:∀{us:List av} {rs:List aB},ReadsAll w us rs->∀(k:Nat) (h1:k<us.length) (h2:k<rs.length),Reads w us[k] rs[k]
 |u::us,r::rs,h,0,_,_=>by rw[ReadsAll]at h;exact h.1
 |u::us,r::rs,h,k+1,h1,h2=>by
  rw[ReadsAll]at h;exact ReadsAll.get h.2 k (by simpa using h1) (by simpa using h2)
theorem ReadsAll.snoc{w:World}:∀{us:List av} {rs:List aB} {u:av} {r:aB},ReadsAll w us rs->Reads w u r->ReadsAll w (us++[u]) (rs++[r])
 |[],[],u,r,_,h2=>by rw[jW,jW,ReadsAll,ReadsAll];exact⟨h2,trivial⟩
 |v::us,q::rs,u,r,h,h2=>by
  rw[ReadsAll]at h;rw[jE,jE,ReadsAll];exact⟨h.1,ReadsAll.snoc h.2 h2⟩
 |[],_::_,_,_,h,_=>by rw[ReadsAll]at h;exact h.elim
 |_::_,[],_,_,h,_=>by rw[ReadsAll]at h;exact h.elim
mutual
def iD(p:av->Prop):av->Prop
 |.mk a i n k l hd wd kids=>p (.mk a i n k l hd wd kids)/\gJ p kids
def gJ(p:av->Prop):List av->Prop
 |[]=>True
 |u::us=>iD p u/\gJ p us
end
theorem gJ.get{p:av->Prop}:∀{us:List av},gJ p us->∀(k:Nat) (h:k<us.length),iD p us[k]
 |u::us,h,0,_=>by rw[gJ]at h;exact h.1
 |u::us,h,k+1,hk=>by
  rw[gJ]at h;exact gJ.get h.2 k (by simpa using hk)
mutual
theorem iD.mono{p q:av->Prop}(hpq:∀u,p u->q u):∀u,iD p u->iD q u
 |.mk a i n k l hd wd kids,h=>by
  rw[iD]at h⊢;exact⟨hpq _ h.1,gJ.mono hpq kids h.2⟩
theorem gJ.mono{p q:av->Prop}(hpq:∀u,p u->q u):∀us,gJ p us->gJ q us
 |[],_=>by rw[gJ];trivial
 |u::us,h=>by
  rw[gJ]at h⊢;exact⟨iD.mono hpq u h.1,gJ.mono hpq us h.2⟩
end
def qm(m q:Nat):av->Prop
 |.mk _ _ _ _ _ hd wd kids=>hd.length<=m/\wd.length<=m/\kids.length<=q
mutual
def cntF:av->Nat
 |.mk _ _ _ _ _ _ _ kids=>1+bZ kids
def bZ:List av->Nat
 |[]=>0
 |u::us=>cntF u+bZ us
end
theorem ZE{kids:List av}{k:Nat}(hk:k<kids.length):bZ (kids.drop k)=cntF kids[k]+bZ (kids.drop (k+1)):=by
 rw[iW hk,bZ]
theorem V5:∀(u:av),1<=cntF u
 |.mk _ _ _ _ _ _ _ kids=>by rw[cntF];omega
theorem nV:∀(us:List av),us.length<=bZ us
 |[]=>by simp
 |u::us=>by
  have h1:=V5 u;have h2:=nV us;rw[bZ,iX];omega
theorem OA{kids:List av}{k:Nat}(hk:k<kids.length):bZ (kids.take (k+1))=bZ (kids.take k)+cntF kids[k]:=by
 induction kids generalizing k with
 |nil=>simp at hk
 |cons u us ih=>
  cases k with
  |zero=>simp[bZ]
  |succ k=>
   have:=ih (k:=k) (by simpa using hk);simp only[List.take_succ_cons,bZ,this,List.getElem_cons_succ];omega
theorem Gh{w:World}{A:Option Addr}{xs:List aB}(h:Sl aj w A xs){k:Nat}(hk:k<xs.length):∃b off,A=some ⟨b,off,none⟩/\b<w.heap.size/\
 w.cell? ⟨b,off+k*8,none⟩=some (.int .i64 xs[k].a)/\w.cell? ⟨b,off+k*8+1,none⟩=some (.int .i64 xs[k].i)/\w.cell? ⟨b,off+k*8+2,none⟩=some (.int .i64 xs[k].n)/\w.cell? ⟨b,off+k*8+3,none⟩=some (.int .i64 xs[k].kind)/\
 w.cell? ⟨b,off+k*8+4,none⟩=some (.string xs[k].label)/\w.cell? ⟨b,off+k*8+5,none⟩=some (.slice xs[k].hA xs[k].hn xs[k].hc)/\w.cell? ⟨b,off+k*8+6,none⟩=some (.slice xs[k].wA xs[k].wn xs[k].wc)/\w.cell? ⟨b,off+k*8+7,none⟩=some (.slice xs[k].kA xs[k].kn xs[k].kc):=by
 obtain⟨b,off,hA,hb,hc⟩:=h.at_ hk;exact⟨b,off,hA,hb,by simpa[aj]using hc 0 _ rfl,hc 1 _ rfl,hc 2 _ rfl,hc 3 _ rfl,hc 4 _ rfl,hc 5 _ rfl,hc 6 _ rfl,hc 7 _ rfl⟩
theorem wO{w:World}{b:Nat}{r:aB}(h:w.heap[b]? =some (.cells r.cells.toArray 30 (0,0))):
 w.cell? ⟨b,0,none⟩=some (.int .i64 r.a)/\w.cell? ⟨b,1,none⟩=some (.int .i64 r.i)/\w.cell? ⟨b,2,none⟩=some (.int .i64 r.n)/\w.cell? ⟨b,3,none⟩=some (.int .i64 r.kind)/\
 w.cell? ⟨b,4,none⟩=some (.string r.label)/\w.cell? ⟨b,5,none⟩=some (.slice r.hA r.hn r.hc)/\w.cell? ⟨b,6,none⟩=some (.slice r.wA r.wn r.wc)/\w.cell? ⟨b,7,none⟩=some (.slice r.kA r.kn r.kc):=by
 simp[World.cell?,h,aB.cells]
theorem I9(r:aB){w w':World}(he:Ext (w.alloc (.cells r.cells.toArray 30)) w'):w.heap.size<w'.heap.size/\
 w'.cell? ⟨w.heap.size,0,none⟩=some (.int .i64 r.a)/\w'.cell? ⟨w.heap.size,1,none⟩=some (.int .i64 r.i)/\w'.cell? ⟨w.heap.size,2,none⟩=some (.int .i64 r.n)/\w'.cell? ⟨w.heap.size,3,none⟩=some (.int .i64 r.kind)/\
 w'.cell? ⟨w.heap.size,4,none⟩=some (.string r.label)/\w'.cell? ⟨w.heap.size,5,none⟩=some (.slice r.hA r.hn r.hc)/\w'.cell? ⟨w.heap.size,6,none⟩=some (.slice r.wA r.wn r.wc)/\w'.cell? ⟨w.heap.size,7,none⟩=some (.slice r.kA r.kn r.kc):=by
 obtain⟨b,off,h1,h2,h3⟩:=Gh ((Sl.new aj (w:=w) (xs:=[r]) (by simp[El.flat,aj])).ext he) (k:=0) (by simp);simp only[Option.some.injEq,Addr.mk.injEq]at h1;obtain⟨rfl,rfl,-⟩:=h1;simp only[Nat.zero_mul,bV,List.getElem_cons_zero]at h3;exact⟨h2,h3⟩
end Go.Proofs.YtgboomjahhnldaaGreatDoor
namespace Go.Proofs.YtgboomjahhnldaaGreatDoor
open Go.ChangeAt Go.ChangeShapes Go.Deep Go.Proofs.Tryz Go.RowKit Go.WideShapes
section
variable {H:Type} {enc:TypeId×Value->H} {W:World}
theorem lU{α:Type}(D:El prog α){n:Nat}{cs:List Value}{x:DataW H×List MemPlace}(h:DataW.trod enc prog W 0 (fun _=>true) true n D.t cs=some x):∃A l c,cs=[.slice A l c]:=by
 rcases open_slice D.ht h with⟨rfl,_⟩|⟨a,len,cap,_,_,_,_,rfl,_⟩
 ·exact⟨_,_,_,rfl⟩
 ·exact⟨_,_,_,rfl⟩
theorem am4(n:Nat)(cs:List Value)(x:DataW H×List MemPlace)(h:DataW.trod enc prog W 0 (fun _=>true) true n 26 cs=some x):
 ∃a i k,cs=[.int .i64 a,.int .i64 i,.int .i64 k]:=by
 obtain⟨xs,m,rfl,rfl,hlen,hxl,hf⟩:=DataW.trod_struct underlying26 h;have hc:prog.cellsOf 26=3:=by kernel_rfl
 have hi:prog.cellsOf 3=1:=by kernel_rfl
 rw[hc]at hlen
 match cs,hlen with
 |[c0,c1,c2],_=>
  match xs,hxl with
  |[x0,x1,x2],_=>
   have f0:DataW.trod enc prog W 0 (fun _=>true) true m 3 (([c0,c1,c2].drop 0).take (prog.cellsOf 3))=some x0:=hf 0 _ rfl;have f1:DataW.trod enc prog W 0 (fun _=>true) true m 3 (([c0,c1,c2].drop 1).take (prog.cellsOf 3))=some x1:=hf 1 _ rfl;have f2:DataW.trod enc prog W 0 (fun _=>true) true m 3 (([c0,c1,c2].drop 2).take (prog.cellsOf 3))=some x2:=hf 2 _ rfl;rw[hi]at f0 f1 f2;obtain⟨a,ha,rfl,wa⟩:=DataW.trod_int underlying3 f0;obtain⟨i,hi',rfl,wi⟩:=DataW.trod_int underlying3 f1;obtain⟨k,hk,rfl,wk⟩:=DataW.trod_int underlying3 f2;simp only[List.drop_zero,List.drop_succ_cons,List.take_succ_cons,List.take_zero,List.cons.injEq,and_true]at ha hi' hk;subst ha;subst hi';subst hk;exact⟨a,i,k,rfl⟩
def Cy(enc:TypeId×Value->H)(W:World)(r:aB)(d:DataW H):Prop:=
 ∃d0 d1 d2 dh dw dk,d=.agg [d0,d1,d2,dh,dw,dk]/\(∃m p,DataW.trod enc prog W 0 (fun _=>true) true m aQ.t [.slice r.hA r.hn r.hc]=some (dh,p))/\(∃m p,DataW.trod enc prog W 0 (fun _=>true) true m aQ.t [.slice r.wA r.wn r.wc]=some (dw,p))/\
  (∃m p,DataW.trod enc prog W 0 (fun _=>true) true m aj.t [.slice r.kA r.kn r.kc]=some (dk,p))
theorem Lf(n:Nat)(cs:List Value)(d:DataW H)(pl:List MemPlace)(hcs:cs.length=8)(h:DataW.trod enc prog W 0 (fun _=>true) true n 30 cs=some (d,pl)):
 ∃r:aB,cs=r.cells/\Cy enc W r d:=by
 obtain⟨xs,m,rfl,hx,hlen,hxl,hf⟩:=DataW.trod_struct underlying30 h;have hI:prog.cellsOf 26=3:=by kernel_rfl
 have hi:prog.cellsOf 3=1:=by kernel_rfl
 have hs:prog.cellsOf 9=1:=by kernel_rfl
 have hw:prog.cellsOf 27=1:=by kernel_rfl
 have hu:prog.cellsOf 28=1:=by kernel_rfl
 match cs,hcs with
 |[c0,c1,c2,c3,c4,c5,c6,c7],_=>
  match xs,hxl with
  |[x0,x1,x2,x3,x4,x5],_=>
   have f0:DataW.trod enc prog W 0 (fun _=>true) true m 26 (([c0,c1,c2,c3,c4,c5,c6,c7].drop 0).take (prog.cellsOf 26))=some x0:=hf 0 _ rfl;have f1:DataW.trod enc prog W 0 (fun _=>true) true m 3 (([c0,c1,c2,c3,c4,c5,c6,c7].drop 3).take (prog.cellsOf 3))=some x1:=hf 1 _ rfl;have f2:DataW.trod enc prog W 0 (fun _=>true) true m 9 (([c0,c1,c2,c3,c4,c5,c6,c7].drop 4).take (prog.cellsOf 9))=some x2:=hf 2 _ rfl;have f3:DataW.trod enc prog W 0 (fun _=>true) true m aQ.t (([c0,c1,c2,c3,c4,c5,c6,c7].drop 5).take (prog.cellsOf 27))=some x3:=hf 3 _ rfl;have f4:DataW.trod enc prog W 0 (fun _=>true) true m aQ.t (([c0,c1,c2,c3,c4,c5,c6,c7].drop 6).take (prog.cellsOf 27))=some x4:=hf 4 _ rfl;have f5:DataW.trod enc prog W 0 (fun _=>true) true m aj.t (([c0,c1,c2,c3,c4,c5,c6,c7].drop 7).take (prog.cellsOf 28))=some x5:=hf 5 _ rfl;rw[hI]at f0;rw[hi]at f1;rw[hs]at f2;rw[hw]at f3 f4;rw[hu]at f5;simp only[List.drop_zero,List.drop_succ_cons,List.take_succ_cons,List.take_zero]at f0 f1 f2 f3 f4 f5;obtain⟨a,i,k,h0⟩:=am4 _ _ _ f0;obtain⟨kd,h1,rfl,_⟩:=DataW.trod_int underlying3 f1;obtain⟨lb,h2,rfl,_⟩:=DataW.trod_string underlying9 f2;obtain⟨hA,hn,hc,h3⟩:=lU aQ f3;obtain⟨wA,wn,wc,h4⟩:=lU aQ f4;obtain⟨kA,kn,kc,h5⟩:=lU aj f5;simp only[List.cons.injEq,and_true]at h0 h1 h2 h3 h4 h5;obtain⟨rfl,rfl,rfl⟩:=h0;subst h1 h2 h3 h4 h5;simp only[Prod.mk.injEq,gX,List.map_nil]at hx;obtain⟨x3a,x3b⟩:=x3;obtain⟨x4a,x4b⟩:=x4;obtain⟨x5a,x5b⟩:=x5;exact⟨⟨a,i,k,kd,lb,hA,hn,hc,wA,wn,wc,kA,kn,kc⟩,rfl,_,_,_,_,_,_,hx.1,⟨m,_,f3⟩,⟨m,_,f4⟩,⟨m,_,f5⟩⟩
theorem Jp{p:av->Prop}:∀(rs:List aB),(∀(k:Nat) (r:aB),rs[k]? =some r->∃u,Reads W u r/\iD p u)->∃us,ReadsAll W us rs/\gJ p us
 |[],_=>⟨[],by rw[ReadsAll];trivial,by rw[gJ];trivial⟩
 |r::rs,h=>by
  obtain⟨u,h1,h2⟩:=h 0 r rfl;obtain⟨us,h3,h4⟩:=Jp rs fun k q hq=>h (k+1) q (by simpa using hq);exact⟨u::us,by rw[ReadsAll];exact⟨h1,h3⟩,by rw[gJ];exact⟨h2,h4⟩⟩
theorem Cz:maxLen<=9223372036854775807:=by decide
theorem Lg:∀(N:Nat) (d:DataW H) (r:aB),SizeOf.sizeOf d<=N->Cy enc W r d->∃u,Reads W u r/\iD (qm 9223372036854775807 9223372036854775807) u
 |0,d,r,hN,h=>by
  obtain⟨_,_,_,_,_,_,rfl,_⟩:=h;simp at hN
 |N+1,d,r,hN,h=>by
  obtain⟨d0,d1,d2,dh,dw,dk,rfl,⟨m1,p1,h1⟩,⟨m2,p2,h2⟩,m3,p3,h3⟩:=h;obtain⟨A1,c1,l1,ds1,sp1,e1,hc1,hm1,hs1,-⟩:=oP aQ Xf V3 h1;obtain⟨A2,c2,l2,ds2,sp2,e2,hc2,hm2,hs2,-⟩:=oP aQ Xf V3 h2;obtain⟨A3,c3,l3,ds3,sp3,e3,hc3,OB,hs3,hd3,aqu,-,hR3⟩:=oP aj (Cy enc W) (fun n cs d pl hcs h=>Lf n cs d pl hcs h) h3;simp only[List.cons.injEq,and_true,Value.slice.injEq]at e1 e2 e3
  obtain⟨us,hall,hau⟩:=Jp (W:=W) (p:=qm 9223372036854775807 9223372036854775807) l3 fun k q hq=>by
   have hk:k<ds3.length:=by rw[aqu];exact(List.getElem?_eq_some_iff.1 hq).1
   have hdk:=fP hk;refine Lg N ds3[k] q ?_ (hR3 k q _ hq hdk);rcases hd3 with⟨_,_,h,_⟩|h
   ·subst h;simp at hk
   ·subst h
    have a1:=List.sizeOf_lt_of_mem (dW hk);simp at hN;omega
  have hlen:=ReadsAll.length hall;have hmx:=Cz;refine⟨.mk r.a r.i r.n r.kind r.label l1 l2 us,?_,?_⟩
  ·rw[Reads]
   exact⟨⟨rfl,rfl,rfl,rfl,rfl⟩,⟨e1.2.1,by rw[e1.2.2];exact hc1,by rw[e1.1];exact hs1⟩,⟨e2.2.1,by rw[e2.2.2];exact hc2,by rw[e2.1];exact hs2⟩,by rw[e3.2.1,hlen],by rw[e3.2.2,<-hlen];exact hc3,l3,by rw[e3.1];exact hs3,hall⟩
  ·rw[iD]
   exact⟨⟨by omega,by omega,by omega⟩,hau⟩
end
end Go.Proofs.YtgboomjahhnldaaGreatDoor
namespace Go.Proofs.YtgboomjahhnldaaGreatDoor
open Go.Proofs.Tryz Go.RowKit
mutual
def pz:av->Int->Int->Int
 |.mk _ _ _ _ _ _ _ kids,deep,most=>if 20<deep then most+1 else pE kids deep most 1
def pE:List av->Int->Int->Int->Int
 |[],_,_,n=>n
 |u::us,deep,most,n=>if n<=most then pE us deep most (n+pz u (deep+1) (most-n))else n
end
mutual
theorem Kg:∀(u:av) (deep most:Int),0<=most->1<=pz u deep most/\pz u deep most<=most+1
 |.mk _ _ _ _ _ _ _ kids,deep,most,h=>by
  rw[pz]
  split
  ·omega
  ·exact Q6 kids deep most 1 h (by omega) (by omega)
theorem Q6:∀(us:List av) (deep most n:Int),0<=most->1<=n->n<=most+1->1<=pE us deep most n/\pE us deep most n<=most+1
 |[],deep,most,n,h,h1,h2=>by rw[pE];omega
 |u::us,deep,most,n,h,h1,h2=>by
  rw[pE]
  split
  ·have:=Kg u (deep+1) (most-n) (by omega)
   exact Q6 us deep most _ h (by omega) (by omega)
  ·omega
end
theorem Q7:∀(N:Nat) (u:av) (r:aB) (deep most:Int) (w:World),SizeOf.sizeOf u<=N->Reads w u r->0<=deep->deep<=21->0<=most->most<=1000->
 Calls prog 17 #[.agg r.cells.toArray,.int .i64 deep,.int .i64 most] w fun e w'=>e=.returned (.int .i64 (pz u deep most))/\Ext w w'
 |0,.mk _ _ _ _ _ _ _ _,_,_,_,_,h,_,_,_,_,_=>by simp at h
 |N+1,.mk a i n kd lb hd wd kids,r,deep,most,w,hN,hr,hd0,hd1,hm0,hm1=>by
  rw[Reads]at hr;obtain⟨-,-,-,hkn,hkc,rs,hrs,hall⟩:=hr;obtain⟨ra,ri,rn,rk,rl,hA,hn,hc,wA,wn,wc,kA,kn,kc⟩:=r;dsimp only at hkn hkc hrs hall;simp only[aB.cells];subst hkn;have hlen:=ReadsAll.length hall;have jo:=ah hall;clear hall;by_cases hdp:20<deep
  ·have e1:pz (.mk a i n kd lb hd wd kids) deep most=most+1:=by rw[pz,bH hdp]
   rw[e1];have e2:decide (deep>20)=true:=bJ hdp;clear e1 hdp;go_enter func17,ntmps17
   go_wp2;go_ret;exact⟨rfl,(Ext.refl _).alloc _⟩
  ·have e1:pz (.mk a i n kd lb hd wd kids) deep most=pE kids deep most 1:=by rw[pz,aU hdp]
   rw[e1];obtain⟨R,hR⟩:=aH (pE kids deep most 1);rw[hR];have HR:=ah hR;have e2:decide (deep>20)=false:=aY hdp;clear e1 hR;go_enter func17,ntmps17
   go_wp2;have hbx:∀w',Ext (w.alloc (.cells #[.int .i64 ra,.int .i64 ri,.int .i64 rn,.int .i64 rk,.string rl,.slice hA hn hc,.slice wA wn wc,.slice kA kids.length kc] 30)) w'->w'.cell? ⟨w.heap.size,7,none⟩=some (.slice kA kids.length kc):=fun w' he=>(I9 ⟨ra,ri,rn,rk,rl,hA,hn,hc,wA,wn,wc,kA,kids.length,kc⟩ he).2.2.2.2.2.2.2.2;have jh:=ah hbx;have he1:Ext w (w.alloc (.cells #[.int .i64 ra,.int .i64 ri,.int .i64 rn,.int .i64 rk,.string rl,.slice hA hn hc,.slice wA wn wc,.slice kA kids.length kc] 30)):=(Ext.refl w).alloc _;clear hbx;obtain⟨wb,hwb⟩:=aH (w.alloc (.cells #[.int .i64 ra,.int .i64 ri,.int .i64 rn,.int .i64 rk,.string rl,.slice hA hn hc,.slice wA wn wc,.slice kA kids.length kc] 30));rw[hwb]at jh he1⊢;clear hwb
   go_loopw [7,8] (fun z i wr=>∃(k:Nat) (n:Int),k<=kids.length/\i=.int .i64 k/\z=.int .i64 n/\(k:Int)+1<=n/\n<=most+1/\Hid (pE (kids.drop k) deep most n=R)/\Ext wb wr) (fun _ i _=>kids.length-(intOf i).toNat)
   case atStart=>exact⟨0,1,bI _,rfl,rfl,by omega,by omega,HR,Ext.refl _⟩
   case round=>
    obtain⟨k,n,hk,rfl,rfl,hn1,hn2,Hn,hext⟩:=hrel;have hcell:=jh.out _ hext;by_cases hlt:k<kids.length
    ·have hdk:kids.drop k=kids[k]::kids.drop (k+1):=iW hlt
     have h3:=Hn.out;rw[hdk,pE]at h3;have c1:=eY k kids.length;by_cases hle:n<=most
     ·rw[bH hle]at h3
      have H3:=ah h3;have c2:decide (n<=most)=true:=bJ hle;have mP:k<rs.length:=by omega
      obtain⟨b,off,rfl,hb,u0,u1,u2,u3,u4,u5,u6,u7⟩:=Gh ((hrs.ext he1).ext hext) mP
      have hsub:SizeOf.sizeOf kids[k]<=N:=by
       have a1:=List.sizeOf_lt_of_mem (dW hlt);simp at hN;omega
      have hrd:=Reads.ext (he1.trans hext) _ _ (ReadsAll.get jo.out k hlt mP);have hrec:=Q7 N kids[k] rs[k] (deep+1) (most-n) wr hsub hrd (by omega) (by omega) (by omega) (by omega);have hbd:=Kg kids[k] (deep+1) (most-n) (by omega);obtain⟨q,hq⟩:=aH (rs[k]);rw[hq]at u0 u1 u2 u3 u4 u5 u6 u7 hrec;obtain⟨z,hz⟩:=aH (pz kids[k] (deep+1) (most-n));rw[hz]at hbd hrec;have Hz:=ah hz;have iY:=ah hrec;clear h3 hle hdk hsub hrd hrec hq hz Hn;go_wp2_with fail
      refine(iY.out).mono ?_;rintro e w2 ⟨rfl,iK⟩;go_wp2;go_roundw
      case rel=>exact⟨k+1,n+z,by omega,by go_num,by go_num,by omega,by omega,ah (by rw[<-H3.out,Hz.out]),hext.trans iK⟩
      case measure=>simp[intOf];omega
     ·rw[aU hle]at h3
      have H3:=ah h3;have c2:decide (n<=most)=false:=aY hle;clear h3 hle hdk Hn;go_wp2;go_ret;exact⟨by rw[H3.out];rfl,he1.trans hext⟩
    ·have hkl:k=kids.length:=by omega
     have h3:=Hn.out;rw[mH (by omega),pE]at h3;have H3:=ah h3;have c1:=fT k kids.length;clear h3 hkl Hn;go_wp2;go_ret;exact⟨by rw[H3.out];rfl,he1.trans hext⟩
def qN(l:List aJ):Bool:=(l.all fun x=>decide (x.t.size<=100))&&decide (l.length<=300)
theorem Lh{l:List aJ}(h:qN l=true):l.length<=300:=by
 simp only[qN,Bool.and_eq_true,decide_eq_true_eq]at h;exact h.2
theorem Jq{l:List aJ}(h:qN l=true):∀x∈l,x.t.size<=100:=by
 simp only[qN,Bool.and_eq_true,List.all_eq_true,decide_eq_true_eq]at h;exact h.1
theorem Li(A:Option Addr)(c:Nat)(l:List aJ)(w:World)(hs:Sl aQ w A l)(hn:l.length<=9223372036854775807):
 Calls prog 30 #[.slice A l.length c] w fun e w'=>e=.returned (.bool (qN l))/\w=w':=by
 go_enter func30,ntmps30
 go_wp2
 go_loop [3] (fun i=>∃k:Nat,k<=l.length/\i=.int .i64 k/\Hid ((l.take k).all (fun s=>decide (s.t.size<=100))=true)) (fun i=>l.length-(intOf i).toNat)
 case atStart=>exact⟨0,bI _,rfl,rfl⟩
 case round=>
  obtain⟨k,hk,rfl,jo⟩:=hrel;by_cases hlt:k<l.length
  ·obtain⟨b,off,rfl,hb,hc,_,_,_⟩:=Lc hs hlt
   obtain⟨s,hsk⟩:=aH (l[k].t);rw[hsk]at hc;have Hs:=ah hsk;clear hsk;by_cases h1:s.size<=100
   ·go_wp2
    go_round
    case rel=>exact⟨k+1,by omega,by go_num,by unfold Hid;rw[Qm _ _ _ hlt,jo.out,Hs.out];simpa using h1⟩
    case measure=>simp[intOf];omega
   ·go_wp2
    go_ret;refine⟨oU ?_,rfl⟩;unfold qN;rw[Q5 hlt (by rw[Hs.out];simp;omega)];rfl
  ·have hkl:k=l.length:=by omega
   have ha:=jo.out;rw[hkl,List.take_length]at ha;have Ha:=ah ha;clear hkl ha;go_wp2;go_ret;refine⟨oU ?_,rfl⟩;unfold qN;rw[Ha.out,Bool.true_and];simp;omega
mutual
def nZ:av->Bool
 |.mk _ _ _ _ lb hd wd kids=>decide (lb.size<=30)&&qN hd&&qN wd&&xG kids
def xG:List av->Bool
 |[]=>true
 |u::us=>nZ u&&xG us
end
theorem OC:∀(N:Nat) (u:av) (r:aB) (w:World),SizeOf.sizeOf u<=N->Reads w u r->iD (qm 9223372036854775807 9223372036854775807) u->
 Calls prog 18 #[.agg r.cells.toArray] w fun e w'=>e=.returned (.bool (nZ u))/\Ext w w'
 |0,.mk _ _ _ _ _ _ _ _,_,_,h,_,_=>by simp at h
 |N+1,.mk a i n kd lb hd wd kids,r,w,hN,hr,hA=>by
  rw[Reads]at hr;rw[iD]at hA;obtain⟨⟨hl1,hl2,hl3⟩,hA⟩:=hA;obtain⟨⟨-,-,-,-,hlb⟩,⟨hhn,xH,mU⟩,⟨hwn,hwc,hws⟩,hkn,hkc,rs,hrs,hall⟩:=hr;obtain⟨ra,ri,rn,rk,rl,fU,hn,hc,wA,wn,wc,kA,kn,kc⟩:=r;dsimp only at hkn hkc hrs hall hlb hhn xH mU hwn hwc hws;simp only[aB.cells];subst hkn hlb hhn hwn;have hlen:=ReadsAll.length hall;have jo:=ah hall;have HA:=ah hA;clear hall hA;have he1:Ext w (w.alloc (.cells #[.int .i64 ra,.int .i64 ri,.int .i64 rn,.int .i64 rk,.string rl,.slice fU hd.length hc,.slice wA wd.length wc,.slice kA kids.length kc] 30)):=(Ext.refl w).alloc _;have Hh:=Li fU hc hd _ (mU.ext he1) hl1;have Hw:=Li wA wc wd _ (hws.ext he1) hl2;by_cases h1:rl.size<=30
  case neg=>
   have e1:nZ (.mk a i n kd rl hd wd kids)=false:=by rw[nZ,aY h1,Bool.false_and,Bool.false_and,Bool.false_and]
   rw[e1];have e2:decide ((rl.size:Int)>30)=true:=bJ (by omega);clear e1 h1;go_enter func18,ntmps18
   go_wp2;go_ret;exact⟨rfl,he1⟩
  have e2:decide ((rl.size:Int)>30)=false:=aY (by omega);by_cases h2:qN hd=true
  case neg=>
   have h2:qN hd=false:=by simpa using h2
   have e1:nZ (.mk a i n kd rl hd wd kids)=false:=by rw[nZ,h2,Bool.and_false,Bool.false_and,Bool.false_and]
   rw[e1];rw[h2]at Hh;have HH:=ah Hh;clear e1 h1 h2 Hh Hw;go_enter func18,ntmps18
   go_wp2_with (go_at_call 30;refine(HH.out).mono ?_;rintro e w' ⟨rfl,rfl⟩)
   go_ret;exact⟨rfl,he1⟩
  by_cases h3:qN wd=true
  case neg=>
   have h3:qN wd=false:=by simpa using h3
   have e1:nZ (.mk a i n kd rl hd wd kids)=false:=by rw[nZ,h3,Bool.and_false,Bool.false_and]
   rw[e1];rw[h2]at Hh;rw[h3]at Hw;have HH:=ah Hh;have HW:=ah Hw;clear e1 h1 h2 h3 Hh Hw;go_enter func18,ntmps18
   go_wp2_with fail
   refine(HH.out).mono ?_;rintro e w' ⟨rfl,rfl⟩;go_wp2_with fail
   refine(HW.out).mono ?_;rintro e w' ⟨rfl,rfl⟩;go_wp2;go_ret;exact⟨rfl,he1⟩
  have e1:nZ (.mk a i n kd rl hd wd kids)=xG kids:=by rw[nZ,h2,h3,bJ h1];simp
  rw[e1];obtain⟨R,hR⟩:=aH (xG kids);rw[hR];have HR:=ah hR;rw[h2]at Hh;rw[h3]at Hw;have HH:=ah Hh;have HW:=ah Hw;clear e1 hR h1 h2 h3 Hh Hw;go_enter func18,ntmps18
  go_wp2_with fail
  refine(HH.out).mono ?_;rintro e w' ⟨rfl,rfl⟩;go_wp2_with fail
  refine(HW.out).mono ?_;rintro e w' ⟨rfl,rfl⟩;go_wp2;have jh:=ah (show∀w',Ext (w.alloc (.cells #[.int .i64 ra,.int .i64 ri,.int .i64 rn,.int .i64 rk,.string rl,.slice fU hd.length hc,.slice wA wd.length wc,.slice kA kids.length kc] 30)) w'->w'.cell? ⟨w.heap.size,7,none⟩=some (.slice kA kids.length kc)from fun w' he=>(I9 ⟨ra,ri,rn,rk,rl,fU,hd.length,hc,wA,wd.length,wc,kA,kids.length,kc⟩ he).2.2.2.2.2.2.2.2);clear HH HW;obtain⟨wb,hwb⟩:=aH (w.alloc (.cells #[.int .i64 ra,.int .i64 ri,.int .i64 rn,.int .i64 rk,.string rl,.slice fU hd.length hc,.slice wA wd.length wc,.slice kA kids.length kc] 30));rw[hwb]at jh he1⊢;clear hwb
  go_loopw [3] (fun i wr=>∃(k:Nat),k<=kids.length/\i=.int .i64 k/\Hid (xG (kids.drop k)=R)/\Ext wb wr) (fun i _=>kids.length-(intOf i).toNat)
  case atStart=>exact⟨0,bI _,rfl,HR,Ext.refl _⟩
  case round=>
   obtain⟨k,hk,rfl,Hn,hext⟩:=hrel;have hcell:=jh.out _ hext;by_cases hlt:k<kids.length
   ·have hdk:kids.drop k=kids[k]::kids.drop (k+1):=iW hlt
    have h3:=Hn.out;rw[hdk,xG]at h3;have c1:=eY k kids.length;have mP:k<rs.length:=by omega
    obtain⟨b,off,rfl,hb,u0,u1,u2,u3,u4,u5,u6,u7⟩:=Gh ((hrs.ext he1).ext hext) mP
    have hsub:SizeOf.sizeOf kids[k]<=N:=by
     have a1:=List.sizeOf_lt_of_mem (dW hlt);simp at hN;omega
    have hrd:=Reads.ext (he1.trans hext) _ _ (ReadsAll.get jo.out k hlt mP);have hrec:=OC N kids[k] rs[k] wr hsub hrd (HA.out.get k hlt);obtain⟨q,hq⟩:=aH (rs[k]);rw[hq]at u0 u1 u2 u3 u4 u5 u6 u7 hrec;by_cases hz:nZ kids[k]=true
    ·rw[hz,Bool.true_and]at h3
     rw[hz]at hrec;have H3:=ah h3;have iY:=ah hrec;clear h3 hdk hsub hrd hrec hq hz Hn;go_wp2_with fail
     refine(iY.out).mono ?_;rintro e w2 ⟨rfl,iK⟩;go_wp2;go_roundw
     case rel=>exact⟨k+1,by omega,by go_num,H3,hext.trans iK⟩
     case measure=>simp[intOf];omega
    ·have hz:nZ kids[k]=false:=by simpa using hz
     rw[hz,Bool.false_and]at h3;rw[hz]at hrec;have H3:=ah h3;have iY:=ah hrec;clear h3 hdk hsub hrd hrec hq hz Hn;go_wp2_with fail
     refine(iY.out).mono ?_;rintro e w2 ⟨rfl,iK⟩;go_wp2;go_ret;exact⟨by rw[<-H3.out];rfl,he1.trans (hext.trans iK)⟩
   ·have hkl:k=kids.length:=by omega
    have h3:=Hn.out;rw[mH (by omega),xG]at h3;have H3:=ah h3;have c1:=fT k kids.length;clear h3 hkl Hn;go_wp2;go_ret;exact⟨by rw[<-H3.out];rfl,he1.trans hext⟩
def zQ(u:av)(most:Int):Bool:=decide (pz u 0 most<=most)&&nZ u
theorem Q8(u:av)(r:aB)(most:Int)(w:World)(hr:Reads w u r)(hA:iD (qm 9223372036854775807 9223372036854775807) u)(h0:0<=most)(h1:most<=1000):
 Calls prog 7 #[.agg r.cells.toArray,.int .i64 most] w fun e w'=>e=.returned (.bool (zQ u most))/\Ext w w':=by
 have Hs:=ah (fun w' (he:Ext w w')=>Q7 _ u r 0 most w' (aI _) (Reads.ext he u r hr) (by omega) (by omega) h0 h1);have Hw:=ah (fun w' (he:Ext w w')=>OC _ u r w' (aI _) (Reads.ext he u r hr) hA);have he1:Ext w (w.alloc (.cells r.cells.toArray 30)):=(Ext.refl w).alloc _;have hb:=fun w' he=>I9 (w':=w') r (w:=w) he;obtain⟨ra,ri,rn,rk,rl,fU,hn,hc,wA,wn,wc,kA,kn,kc⟩:=r;simp only[aB.cells]at Hs Hw he1 hb⊢;have Hb:=ah hb;clear hb;obtain⟨z,hz⟩:=aH (pz u 0 most);rw[hz]at Hs;have Hz:=ah hz;clear hz hr hA;by_cases hle:z<=most
 ·have e1:zQ u most=nZ u:=by rw[zQ,Hz.out,bJ hle,Bool.true_and]
  rw[e1];have e2:decide (z<=most)=true:=bJ hle;clear e1 hle;go_enter func7,ntmps7
  go_wp2_with fail
  refine(Hs.out _ he1).mono ?_;rintro e w2 ⟨rfl,iK⟩;obtain⟨-,u0,u1,u2,u3,u4,u5,u6,u7⟩:=Hb.out _ iK;go_wp2_with fail
  refine(Hw.out _ (he1.trans iK)).mono ?_;rintro e w3 ⟨rfl,zh⟩;go_wp2;go_ret;exact⟨rfl,he1.trans (iK.trans zh)⟩
 ·have e1:zQ u most=false:=by rw[zQ,Hz.out,aY hle,Bool.false_and]
  rw[e1];have e2:decide (z<=most)=false:=aY hle;clear e1 hle;go_enter func7,ntmps7
  go_wp2_with fail
  refine(Hs.out _ he1).mono ?_;rintro e w2 ⟨rfl,iK⟩;go_wp2;go_ret;exact⟨rfl,he1.trans iK⟩
theorem ay{w:World}{b:Nat}{o:Obj}(h:w.heap[b]? =some o):b<w.heap.size:=by
 rcases gM b w.heap.size with h'|h'
 ·exact h'
 ·rw[ze h']at h;cases h
theorem adb{m n:Nat}(h:m<=n):∀k,fresh m k=true->fresh n k=true:=by
 intro k hk;simp only[fresh,decide_eq_true_eq]at hk⊢;omega
def dU:aB:=⟨0,0,0,0,⟨#[]⟩,none,0,0,none,0,0,none,0,0⟩
section
variable {ρ:Operand->Value} {o:Oper} {w:World} {n:Nat}
end
theorem kJ{fn:Func}{t:Tmp}(h:fn.results= #[.cell t 30])(tmps:Array Value)(w:World)(b:Nat)(r:aB)(hp:tmps.getD t undef=.pointer (some ⟨b,0,none⟩))(hc:w.heap[b]? =some (.cells r.cells.toArray 30 (0,0))):
 (results fn tmps).run prog w=.ok (.agg r.cells.toArray) w:=by
 have hl:=run_loadCells_list (P:=prog) w ⟨b,0,none⟩ r.cells (fun j u hu=>by
  have hadd:(⟨b,0,none⟩:Addr).add j=⟨b,j,none⟩:=by unfold Addr.add;split<;>simp_all
  rw[hadd];simp only[World.cell?,hc];simpa using hu)
 have hp':tmps[t]?.getD undef=.pointer (some ⟨b,0,none⟩):=by simpa using hp
 have hn:∀w,(sizeOf 30).run prog w=.ok r.cells.length w:=sizeOf30;simp[results,h,hp',asAddr,loadVar,isAgg30,hn,hl]
theorem fV{P:Program}{w:World}{ops:Array Oper}{rest:List Oper}{o:Oper}{a:Act}{Q:Exit->Act->World->Prop}(hgd:o.guard=none)(s f:Nat)(x:Operand)(ho:o.op=.fieldAddr s x f)(fs:Array Field)(hs:P.underlying s=some (.struct fs))(kF:Field)(hf:fs[f]? =some kF)
 (m:Nat) (hm:∀w,(sizeOf kF.type).run P w=.ok m w) (hm0:m≠0) (b off:Nat) (hx:a.eval x=.pointer (some ⟨b,off,none⟩)) (h:wpList P ops Q rest (a.put o.dst (.pointer (some ⟨b,off+kF.offset,none⟩))) w):wpList P ops Q (o::rest) a w:=by
 have ea:((⟨b,off,none⟩:Addr).add kF.offset)=⟨b,off+kF.offset,none⟩:=by
  unfold Addr.add
  split
  ·rename_i h0;simp[h0]
  ·rfl
 refine wpList_plain hgd fun K hK=> ?_;unfold Oper.wp;simp[execOp,ho,hx,Instr.fieldAt,run_underlying hs,hf,Instr.sureAddr,fieldPlace,hm,hm0,ea,Result.andThen];exact hK _ _ h
theorem aK.cell{cs:List Value}{b off:Nat}{w:World}(h:(aK cs).p (.pointer (some ⟨b,off,none⟩)) w)(j:Nat)(u:Value)(hj:cs[j]? =some u):w.cell? ⟨b,off+j,none⟩=some u:=by
 obtain⟨b',off',h1,_,h3⟩:=h;cases h1
 exact h3 j u hj
theorem aiv{r:aB}{w w':World}{b:Nat}(h:w.heap[b]? =some (.cells r.cells.toArray 30 (0,0)))(hb:b<w.heap.size)(he:Ext w w'):(aK r.cells).p (.pointer (some ⟨b,0,none⟩)) w':=by
 refine⟨b,0,rfl,bQ hb he.size,fun j u hu=> ?_⟩;rw[he.cell (p:=⟨b,0+j,none⟩) hb];simp only[World.cell?,h,bV];simpa using hu
end Go.Proofs.YtgboomjahhnldaaGreatDoor
