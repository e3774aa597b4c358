/- A part of the proof of TopWritten, printed small: Eng. -/
import Derived.WalkKit
import Derived.Deep.Draws
import Derived.Lib.Hide
import Derived.Test.YtgboomjahhnldaaGreatDoorProg
set_option maxRecDepth 100000
set_option maxHeartbeats 25600000
set_option linter.all false
namespace Go.Proofs.YtgboomjahhnldaaGreatDoor
open Go.Proofs.Tryz Go.RowKit
theorem aH{α:Sort _}(a:α):∃x,a=x:=⟨a,rfl⟩
theorem ah{p:Prop}(h:p):Hid p:=h
theorem eY(a b:Int)(h:a<b:=by omega):decide (a<b)=true:=decide_eq_true h
theorem fT(a b:Int)(h:¬a<b:=by omega):decide (a<b)=false:=decide_eq_false h
theorem aI:∀(n:Nat),n<=n:= @Nat.le_refl
theorem aY:∀{p:Prop} [inst:Decidable p],¬p->decide p=false:= @decide_eq_false
theorem bQ:∀{n m k:Nat},n<m->m<=k->n<k:= @Nat.lt_of_lt_of_le
theorem xu:∀{α:Type _} {xs:Array α} {i:Nat} {d:α},xs.getD i d=xs[i]?.getD d:= @Array.getD_eq_getD_getElem?
theorem bJ:∀{p:Prop} [inst:Decidable p],p->decide p=true:= @decide_eq_true
theorem fP:∀{α:Type _} {l:List α} {i:Nat} (h:i<l.length),l[i]? =some l[i]:= @List.getElem?_eq_getElem
theorem jk:∀{α:Type _} {i:Nat} {l:List α} (h:i<l.length),List.take (i+1) l=List.take i l++[l[i]]:= @List.take_succ_eq_append_getElem
theorem eu:∀{α:Type _} {l b1:List α},(l++b1).length=l.length+b1.length:= @List.length_append
theorem dV:∀{α:Type _} (l b1 c1:List α),l++b1++c1=l++(b1++c1):= @List.append_assoc
theorem jl:∀{α:Type _} (i:Nat) (l:List α),List.take i l++List.drop i l=l:= @List.take_append_drop
theorem bV:∀(n:Nat),0+n=n:= @Nat.zero_add
theorem kM:∀{α:Type _} {l:List α},l.length=0->l=[]:= @List.eq_nil_of_length_eq_zero
theorem bI:∀(n:Nat),0<=n:= @Nat.zero_le
theorem iW:∀{α:Type _} {i:Nat} {l:List α} (h:i<l.length),List.drop i l=l[i]::List.drop (i+1) l:= @List.drop_eq_getElem_cons
theorem aU:∀{c:Prop} {h:Decidable c},¬c->∀{α:Sort _} {t e:α},(if c then t else e)=e:= @if_neg
theorem avA:∀{α:Type _} {i:Nat} {a:α} {l:List α},l[i]? =some a↔∃(h:i<l.length),l[i]=a:= @List.getElem?_eq_some_iff
theorem bX:∀{n m k:Nat},n<=m->m<=k->n<=k:= @Nat.le_trans
theorem dW:∀{α:Type _} {l:List α} {n:Nat} (h:n<l.length),l[n]∈l:= @List.getElem_mem
theorem gY:∀{α:Type _} {i:Nat} {l:List α},l.length<=i->List.take i l=l:= @List.take_of_length_le
theorem IZ:∀{α:Type _} {xs:Array α} {i j:Nat} {a:α},(xs.setIfInBounds i a)[j]? =if i=j then if i<xs.size then some a else none else xs[j]? := @Array.getElem?_setIfInBounds
theorem fu:∀{α:Type _} {i:Nat} {l:List α},(List.take i l).length=min i l.length:= @List.length_take
theorem oo:∀{α:Type _} {a:α} {s t:List α},a∈s++t↔a∈s∨a∈t:= @List.mem_append
theorem Cu:∀{α:Type _} {xs:Array α} {i:Nat} (h:i<xs.size),xs[i]? =some xs[i]:= @Array.getElem?_eq_getElem
theorem nI:∀{α:Sort _} {β:Sort _} {a1 a2:α} (f:α->β),a1=a2->f a1=f a2:= @congrArg
theorem gM:∀(n m:Nat),n<m∨n≥m:= @Nat.lt_or_ge
theorem nJ:∀{α:Type _} {l1 l2:List α} {i:Nat},l1.length<=i->(l1++l2)[i]? =l2[i-l1.length]? := @List.getElem?_append_right
theorem bH:∀{c:Prop} {h:Decidable c},c->∀{α:Sort _} {t e:α},(if c then t else e)=t:= @if_pos
theorem Ed:∀{α:Type _} {b:α} {l:List α} {a:α},a∈b::l↔a=b∨a∈l:= @List.mem_cons
theorem iX:∀{α:Type _} {a:α} {l:List α},(a::l).length=l.length+1:= @List.length_cons
theorem Ee:∀{α:Type _} {l1 l2:List α} {i:Nat},i<=l1.length->List.take i (l1++l2)=List.take i l1:= @List.take_append_of_le_length
theorem kX:∀{α:Type _} {a b:α},a∈[b]↔a=b:= @List.mem_singleton
theorem jV:∀{α:Type _} {i:Nat} {l:List α},(List.drop i l).length=l.length-i:= @List.length_drop
theorem gX:∀{α:Type _} {β:Type _} {f:α->β} {a:α} {l:List α},List.map f (a::l)=f a::List.map f l:= @List.map_cons
theorem jE:∀{α:Type _} {a:α} {l b1:List α},a::l++b1=a::(l++b1):= @List.cons_append
theorem mH:∀{α:Type _} {l:List α} {i:Nat},l.length<=i->List.drop i l=[]:= @List.drop_eq_nil_of_le
theorem jA:∀{α:Type _} {β:Type _} {l:List α} (f:α->β),(List.map f l).length=l.length:= @List.length_map
theorem Ef:∀{α:Type _} {l1 l2:List α} {i:Nat},i<l1.length->(l1++l2)[i]? =l1[i]? := @List.getElem?_append_left
theorem lV:∀{α:Type _} (y:α) {a:α} {l:List α},a∈l->a∈y::l:= @List.mem_cons_of_mem
theorem lK:∀{α:Type _} {xs:Array α},xs.toList.length=xs.size:= @Array.length_toList
theorem lM:∀{α:Type _} {a b:α},some a=some b->a=b:= @Option.some.inj
theorem jF:∀{a b:Nat},a<=b->min a b=a:= @Nat.min_eq_left
theorem jW:∀{α:Type _} (l:List α),[]++l=l:= @List.nil_append
theorem kY:∀{α:Type _} (l:List α),l++[]=l:= @List.append_nil
theorem nK:∀{α:Type _} {a:α} {l:List α} (b1:List α),a∈l->a∈l++b1:= @List.mem_append_left
theorem qh:∀{α:Type _} {b:α} (l:List α) {b1:List α},b∈b1->b∈l++b1:= @List.mem_append_right
theorem xB:∀{α:Type _} {l:List α} {i:Nat},l.length<=i->l[i]? =none:= @List.getElem?_eq_none
theorem ze:∀{α:Type _} {i:Nat} {xs:Array α},xs.size<=i->xs[i]? =none:= @Array.getElem?_eq_none
def Ext(w w':World):Prop:=Below w.heap.size w w'
theorem Ext.refl(w:World):Ext w w:=Below.refl _ _
theorem Ext.trans{a b c:World}(h:Ext a b)(k:Ext b c):Ext a c:=Below.trans h (Below.mono k h.size)
theorem Ext.trans'{a b c:World}{base:Nat}(h:Ext a b)(k:Below base b c)(hb:a.heap.size<=base:=by first|exact aI _|omega):Ext a c:=Below.trans h (Below.mono k hb)
theorem Ext.drew{a w:World}(h:Ext a w):Ext a w.drew:=Below.drew h
theorem Ext.drewN{a w:World}(h:Ext a w)(n:Nat):Ext a (w.drewN n):=⟨h.os,h.tape,h.output,h.size,fun k hk=>Below.block h k hk⟩
theorem Ext.alloc{a w:World}(h:Ext a w)(o:Obj):Ext a (w.alloc o):=Below.alloc h h.size o
theorem Ext.size{a w:World}(h:Ext a w):a.heap.size<=w.heap.size:=Below.size h
theorem Ext.block{a w:World}(h:Ext a w){k:Nat}(hk:k<a.heap.size):w.heap[k]? =a.heap[k]? :=Below.block h k hk
theorem Ext.cell{a w:World}(h:Ext a w){p:Addr}(hp:p.block<a.heap.size):w.cell? p=a.cell? p:=Below.cell h hp
structure Ty where
 p:Value->World->Prop
 mono:∀v w w',Ext w w'->p v w->p v w'
def Ty.is(c:Value):Ty:=⟨fun v _=>v=c,fun _ _ _ _ h=>h⟩
def Ty.any:Ty:=⟨fun _ _=>True,fun _ _ _ _ h=>h⟩
def qj(o:Oper):List Edge:=o.after.toList.filter (Region.binds .any)
theorem pY{o:Oper}{e:Edge}:e∈qj o↔e∈o.after/\Region.binds .any e=true:=by simp[qj]
def bL(P:Program)(ρ:Operand->Value)(o:Oper)(w:World)(T:Value->World->Prop):Prop:=
 match(execOp ρ o).run P w with
 |.ok (.value v) w'=>Ext w w'/\T v w'
 |.ok .skip w'=>Ext w w'/\T undef w'
 |.ok (.enter f args) w'=>Calls P f args w' fun e w''=>∃v,e=.returned v/\Ext w w''/\T v w''
 |_=>False
def qA(T:Nat->Ty)(v:Nat->Value)(w:World):List Edge->Prop
 |[]=>True
 |e::r=>(T e.on).p (v e.on) w/\qA T v w r
def Kc(ops:List Oper):List (List Nat):=
 ops.foldl (init:=[]) fun acc o=>acc++[(qj o).flatMap fun e=>e.on::acc.getD e.on []]
def mE(ops:List Oper):Bool:=
 let A:=Kc ops
 (List.range ops.length).all fun i=>
   match ops[i]? with
   |none=>false
   |some o=>
    ((qj o).all fun e=>decide (e.on<i))&&
    (match o.op with|.select .. =>false|_=>true)&&
    (List.range ops.length).all fun j=>
      match(ops[j]?).bind (·.dst)with
      |none=>true
      |some d=>
       if(o.looksAt ops.toArray).contains d||o.dst==some d then
        i==j||(if j<i then(A.getD i []).contains j else(A.getD j []).contains i)
       else true
inductive qJ (ops:List Oper):Nat->Nat->Prop
 |one {i:Nat} {o:Oper} {e:Edge}:ops[i]? =some o->e∈qj o->qJ ops i e.on
 |more {i j:Nat} {o:Oper} {e:Edge}:ops[i]? =some o->e∈qj o->qJ ops e.on j->qJ ops i j
theorem QT(ops:List Oper):∀(l:List Oper) (acc:List (List Nat)),(∀k,l[k]? =ops[acc.length+k]?)->
 (∀i j,j∈acc.getD i []->qJ ops i j)->
 ∀i j,j∈(l.foldl (fun acc o=>acc++[(qj o).flatMap fun e=>e.on::acc.getD e.on []]) acc).getD i []->qJ ops i j
 |[],acc,_,h,i,j,hj=>h i j hj
 |o::l,acc,hl,h,i,j,hj=>by
  refine QT ops l _ (fun k=> ?_) ?_ i j hj
  ·have:=hl (k+1)
   simp only[List.getElem?_cons_succ]at this;rw[this,eu]
   congr 1
   simp;omega
  ·intro i j hj
   have h0:ops[acc.length]? =some o:=by simpa using(hl 0).symm
   rw[List.getD_eq_getElem?_getD]at hj;rcases Nat.lt_trichotomy i acc.length with hi|hi|hi
   ·rw[Ef hi]at hj
    exact h i j (by rwa[List.getD_eq_getElem?_getD])
   ·subst hi
    simp at hj;obtain⟨e,he,QU⟩:=hj;rcases QU with rfl|QU
    ·exact .one h0 he
    ·refine .more h0 he (h _ _ ?_)
     rwa[List.getD_eq_getElem?_getD]
   ·rw[xB (by simp;omega)]at hj
    simp at hj
theorem qW{ops:List Oper}{i j:Nat}(h:j∈(Kc ops).getD i []):qJ ops i j:=
 QT ops ops [] (fun k=>by simp) (fun i j hj=>by simp at hj) i j h
structure Fp (ops:List Oper):Prop where
 edge:∀(i:Nat) (o:Oper),ops[i]? =some o->∀e∈qj o,e.on<i
 sel:∀(i:Nat) (o:Oper),ops[i]? =some o->∀cs b,o.op≠Op.select cs b
 name:∀(i:Nat) (o:Oper),ops[i]? =some o->∀(j:Nat) (o':Oper) (d:Tmp),ops[j]? =some o'->o'.dst=some d->(d∈o.looksAt ops.toArray∨o.dst=some d)->i=j∨(j<i/\qJ ops i j)∨(i<j/\qJ ops j i)
theorem oM{ops:List Oper}(h:mE ops=true):Fp ops:=by
 simp only[mE,List.all_eq_true,List.mem_range]at h;refine⟨?_,?_,?_⟩
 ·intro i o ho e he
  have hi:i<ops.length:=(List.getElem?_eq_some_iff.1 ho).1;have:=h i hi;simp only[ho,Bool.and_eq_true,List.all_eq_true]at this;have h1:=this.1.1 e (by simpa using he);simpa using h1
 ·intro i o ho cs b hs
  have hi:i<ops.length:=(List.getElem?_eq_some_iff.1 ho).1;have:=h i hi;simp[ho,hs]at this
 ·intro i o ho j o' d ho' hd hn
  have hi:i<ops.length:=(List.getElem?_eq_some_iff.1 ho).1;have hj:j<ops.length:=(List.getElem?_eq_some_iff.1 ho').1;have:=h i hi;simp only[ho,Bool.and_eq_true,List.all_eq_true,List.mem_range]at this;have h2:=this.2 j hj;simp only[ho',Option.bind_some,hd]at h2
  rw[bH (by
   rcases hn with hn|hn
   ·simp[hn]
   ·simp[hn])]at h2
  by_cases e:i=j
  ·exact .inl e
  ·right
   simp only[Bool.or_eq_true,beq_iff_eq,e,false_or]at h2
   split at h2
   ·rename_i hlt
    exact .inl ⟨hlt,qW (by simpa using h2)⟩
   ·exact .inr ⟨by omega,qW (by simpa using h2)⟩
def jX(L:Nat->Bool)(v:Nat->Value):Nat->List Oper->Act->Act
 |_,[],a=>a
 |k,o::r,a=>jX L v (k+1) r (if L k then a.put o.dst (v k)else a)
theorem Bp(L:Nat->Bool)(v:Nat->Value):∀(l r:List Oper) (k:Nat) (a:Act),jX L v k (l++r) a=jX L v (k+l.length) r (jX L v k l a)
 |[],r,k,a=>by simp[jX]
 |o::l,r,k,a=>by
  simp only[jE,jX,iX];rw[Bp L v l r (k+1)]
  congr 1
  omega
theorem qB{L L':Nat->Bool}{v v':Nat->Value}:∀(l:List Oper) (k:Nat) (a:Act),(∀j,k<=j->j<k+l.length->L j=L' j/\(L j=true->v j=v' j))->jX L v k l a=jX L' v' k l a
 |[],_,_,_=>rfl
 |o::l,k,a,h=>by
  simp only[jX];have h0:=h k (aI _) (by simp)
  have e:(if L k=true then a.put o.dst (v k)else a)=(if L' k=true then a.put o.dst (v' k)else a):=by
   rw[<-h0.1];cases hL:L k
   ·rfl
   ·rw[h0.2 hL]
  rw[e];exact qB l (k+1) _ (fun j h1 h2=>h j (by omega) (by simp;omega))
theorem F8{L:Nat->Bool}{v:Nat->Value}{d:Option Tmp}{x:Value}:∀(l:List Oper) (k:Nat) (a:Act),
 (∀j o,l[j]? =some o->L (k+j)=true->∀t,d=some t->o.dst≠some t)->jX L v k l (a.put d x)=(jX L v k l a).put d x
 |[],_,_,_=>rfl
 |o::l,k,a,h=>by
  simp only[jX];have hr:∀j o',l[j]? =some o'->L (k+1+j)=true->∀t,d=some t->o'.dst≠some t:=fun j o' hj hL=>h (j+1) o' (by simpa using hj) (by rwa[show k+(j+1)=k+1+j from by omega]);cases hL:L k
  ·simp only[Bool.false_eq_true,if_false]
   exact F8 l (k+1) a hr
  ·simp only[if_true]
   rw[Act.put_comm a x (v k) (fun t ht=>h 0 o (by simp) (by simpa using hL) t ht)];exact F8 l (k+1) _ hr
theorem Act.size_put(a:Act)(d:Option Tmp)(x:Value):(a.put d x).tmps.size=a.tmps.size:=by cases d<;>simp[Act.put]
theorem K5{L L':Nat->Bool}{v:Nat->Value}{t:Nat}:∀(l:List Oper) (k:Nat) (a a':Act),a.tmps.size=a'.tmps.size->a.tmps[t]? =a'.tmps[t]?->
 (∀j o,l[j]? =some o->o.dst=some t->L (k+j)=L' (k+j))->(jX L v k l a).tmps[t]? =(jX L' v k l a').tmps[t]?
 |[],_,_,_,_,h,_=>h
 |o::l,k,a,a',hs,h,hw=>by
  simp only[jX]
  have hr:∀j o',l[j]? =some o'->o'.dst=some t->L (k+1+j)=L' (k+1+j):=fun j o' hj hd=>by
   have:=hw (j+1) o' (by simpa using hj) hd
   rwa[show k+(j+1)=k+1+j from by omega]at this
  refine K5 l (k+1) _ _ ?_ ?_ hr
  ·split<;>split<;>simp[Act.size_put,hs]
  ·by_cases hd:o.dst=some t
   ·have:=hw 0 o (by simp) hd
    simp only[Nat.add_zero]at this;rw[this]
    split
    ·simp[hd,Act.put,IZ,hs]
    ·exact h
   ·have hp:∀(b:Act),(b.put o.dst (v k)).tmps[t]? =b.tmps[t]? :=fun b=>by
     cases hdo:o.dst with
     |none=>rfl
     |some d=>
      have:d≠t:=fun e=>hd (by rw[hdo,e]);simp[Act.put,Array.getElem?_setIfInBounds_ne this]
    split<;>split<;>simp only[hp,h]
theorem Eh(v:Nat->Value):∀(l:List Oper) (k:Nat) (b:Act),jX (fun _=>false) v k l b=b
 |[],_,_=>rfl
 |_::l,k,b=>Eh v l (k+1) b
theorem tO{L:Array Bool}{i:Nat}(hs:i<L.size)(j:Nat):(L.setIfInBounds i true).getD j false=if j=i then true else L.getD j false:=by
 simp only[xu,IZ];by_cases hji:j=i
 ·subst hji;simp[hs]
 ·rw[aU (fun hh=>hji hh.symm),aU hji]
theorem VZ{L:Array Bool}{i:Nat}(hs:i<L.size):L.getD i true=L.getD i false:=by
 simp[xu,hs]
theorem wo(n j:Nat):(Array.replicate n false).getD j false=false:=by
 simp only[xu,Array.getElem?_replicate]
 split<;>rfl
def Down(ops:List Oper)(listed:Array Bool):Prop:=∀(i:Nat) (o:Oper),listed.getD i false=true->ops[i]? =some o->∀e∈qj o,listed.getD e.on false=true
theorem Down.Cv{ops:List Oper}{listed:Array Bool}(h:Down ops listed){i j:Nat}(ha:qJ ops i j)(hi:(∃o,ops[i]? =some o/\∀e∈qj o,listed.getD e.on false=true)):listed.getD j false=true:=by
 induction ha with
 |one ho he=>
  obtain⟨o',ho',hl⟩:=hi;rw[ho]at ho';cases ho'
  exact hl _ he
 |more ho he ha ih=>
  obtain⟨o',ho',hl⟩:=hi;rw[ho]at ho';cases ho'
  have he':=hl _ he;cases ha with
  |one ho2 he2=>exact h _ _ he' ho2 _ he2
  |more ho2 he2 ha2=>exact ih ⟨_,ho2,fun e h3=>h _ _ he' ho2 _ h3⟩
section
variable {P:Program} {ops:List Oper} {T:Nat->Ty} {w0:World} {a0:Act}
theorem mem_ready{listed:Array Bool}{i:Nat}:i∈Region.ready .any ops.toArray listed↔i<ops.length/\listed.getD i true=false/\∃o,ops[i]? =some o/\∀e∈o.after,Region.binds .any e=true->listed.getD e.on false=true:=by
 simp only[Region.ready,List.size_toArray,List.mem_filter,List.mem_range,Bool.and_eq_true,Bool.not_eq_true']
 constructor
 ·rintro⟨h1,h2,h3⟩
  refine⟨h1,h2,?_⟩;cases ho:ops[i]? with
  |none=>rw[List.getElem?_eq_none_iff]at ho;omega
  |some o=>
   refine⟨o,rfl,fun e he hb=> ?_⟩;simp only[List.getElem?_toArray,ho,Option.map_some,Option.getD_some,Array.all_eq_true']at h3;have:=h3 e he;rw[hb]at this;simpa using this
 ·rintro⟨h1,h2,o,ho,h3⟩
  refine⟨h1,h2,?_⟩;simp only[List.getElem?_toArray,ho,Option.map_some,Option.getD_some,Array.all_eq_true'];intro e he;cases hb:Region.binds .any e
  ·rfl
  ·simp[h3 e he hb]
theorem QV{a a':Act}{o:Oper}{F9:Array Oper}(h:∀t,t∈o.looksAt F9->a.tmps[t]? =a'.tmps[t]?):∀x∈o.op.operands,a.eval x=a'.eval x:=by
 intro x hx;cases x with
 |tmp t=>
  have:=h t (nK _ (List.mem_filterMap.2 ⟨.tmp t,by simpa using hx,rfl⟩));simp only[Act.eval,xu,this]
 |_=>rfl
theorem Ns{a a':Act}{o:Oper}{F9:Array Oper}(h:∀t,t∈o.looksAt F9->a.tmps[t]? =a'.tmps[t]?):Region.wanted o (yielded F9 a.tmps)=Region.wanted o (yielded F9 a'.tmps):=by
 cases hg:o.guard with
 |none=>simp[Region.wanted,hg]
 |some g=>
  obtain⟨j,want⟩:=g
  have e:yielded F9 a.tmps j=yielded F9 a'.tmps j:=by
   unfold yielded;cases hd:(F9[j]?).bind (·.dst)with
   |none=>rfl
   |some t=>
    have:=h t (qh _ (by simp[hg,hd]));simp only[Option.bind_some,this]
  simp[Region.wanted,hg,e]
structure Fr (ops:List Oper) (a0:Act) (L:Array Bool) (a:Act) (v:Nat->Value):Prop where
 size:L.size=ops.length
 down:Down ops L
 fr:a=jX (fun j=>L.getD j false) v 0 ops a0
structure Ov (ops:List Oper) (L:Array Bool) (i:Nat) (o:Oper):Prop where
 at':ops[i]? =some o
 off:L.getD i false=false
 qj:∀e∈qj o,L.getD e.on false=true
theorem Fr.new(v:Nat->Value):Fr ops a0 (Array.replicate ops.length false) a0 v:=
 ⟨by simp,(fun i o hi=>by rw[wo]at hi;cases hi),by rw[qB (L':=fun _=>false) (v':=v) ops 0 a0 (fun j _ _=>⟨wo _ j,fun _=>rfl⟩),Eh]⟩
abbrev Fq(a0:Act)(ops:List Oper)(v:Nat->Value)(i:Nat):Act:=jX (fun _=>true) v 0 (ops.take i) a0
theorem Zu{v:Nat->Value}{i:Nat}(hi:i<=ops.length):Fq a0 ops v i=jX (fun j=>decide (j<i)) v 0 ops a0:=by
 conv=>rhs;rw[<-jl i ops,Bp]
 rw[qB (L':=fun _=>true) (v':=v) (ops.take i) 0 a0 fun j _ hj=>⟨by simp at hj;simp;omega,fun _=>rfl⟩,
  qB (L':=fun _=>false) (v':=v) (ops.drop i) _ _ fun j hj _=>⟨by simp at hj;simp;omega,fun hh=>by simp at hj;simp at hh;omega⟩,Eh]
theorem Fr.all{L:Array Bool}{a:Act}{v:Nat->Value}(h:Fr ops a0 L a v){n:Nat}(hn:n<=ops.length)(hL:∀j,L.getD j false=decide (j<n)):a=Fq a0 ops v n:=by
 rw[h.fr,Zu hn];exact qB _ _ _ fun j _ _=>⟨hL j,fun _=>rfl⟩
theorem Xb(hc:Fp ops){L:Array Bool}{a:Act}{v:Nat->Value}(h:Fr ops a0 L a v){i:Nat}{o:Oper}(hr:Ov ops L i o){t:Tmp}(ht:t∈o.looksAt ops.toArray∨o.dst=some t):
 a.tmps[t]? =(Fq a0 ops v i).tmps[t]? :=by
 obtain⟨ho,hi,ha⟩:=hr;rw[Zu (Nat.le_of_lt (List.getElem?_eq_some_iff.1 ho).1),h.fr];refine K5 ops 0 a0 a0 rfl rfl fun j o' hj hd=> ?_;simp only[bV];rcases hc.name i o ho j o' t hj hd ht with rfl|⟨hji,QW⟩|⟨hij,QW⟩
 ·rw[hi];simp
 ·rw[h.down.Cv QW ⟨o,ho,ha⟩];simp[hji]
 ·cases hL:L.getD j false
  ·simp;omega
  ·exact absurd (h.down.Cv QW ⟨o',hj,fun e he=>h.down _ _ hL hj _ he⟩) (by rw[hi];simp)
theorem Fr.next(hc:Fp ops){L:Array Bool}{a:Act}{v:Nat->Value}(h:Fr ops a0 L a v){i:Nat}{o:Oper}(hr:Ov ops L i o)(x:Value){v':Nat->Value}(hi':v' i=x)(hv:∀j,j≠i->v' j=v j):
 Fr ops a0 (L.setIfInBounds i true) (a.put o.dst x) v':=by
 obtain⟨ho,hif,ha⟩:=hr;have hlt:i<ops.length:=(List.getElem?_eq_some_iff.1 ho).1;have hLi:=tO (L:=L) (i:=i) (by rw[h.size];exact hlt);refine⟨by simp[h.size],fun j o' hj ho' e he'=> ?_,?_⟩
 ·rw[hLi]at hj⊢
  split
  ·rfl
  ·by_cases hji:j=i
   ·subst hji
    rw[ho]at ho';cases ho'
    exact ha e he'
   ·rw[aU hji]at hj
    exact h.down j o' hj ho' e he'
 ·rw[h.fr]
  have hlen:(ops.take i).length=i:=by simp;omega
  have hdrop:ops.drop i=o::ops.drop (i+1):=by
   rw[iW hlt]
   congr 1
   have:=fP hlt;rw[ho]at this;exact(lM this).symm
  have spl:∀(L:Nat->Bool) (u:Nat->Value),jX L u 0 ops a0=jX L u (i+1) (ops.drop (i+1)) (if L i then(jX L u 0 (ops.take i) a0).put o.dst (u i)else jX L u 0 (ops.take i) a0):=by
   intro L u
   conv=>lhs;rw[<-jl i ops,Bp,hlen,hdrop]
   simp only[jX,bV]
  rw[spl,spl,qB (L:=fun j=>(L.setIfInBounds i true).getD j false) (L':=fun j=>L.getD j false) (v':=v) (ops.take i) 0 a0 fun j _ hj=>by
   have:j≠i:=by rw[hlen]at hj;omega
   exact⟨by rw[hLi,aU this],fun _=>hv j this⟩,hLi,bH rfl,hif,hi']
  simp only[if_true,Bool.false_eq_true,if_false];rw[<-F8]
  ·refine qB _ _ _ fun j hj _=> ?_
   have:j≠i:=by omega
   exact⟨by rw[hLi,aU this],fun _=>(hv j this).symm⟩
  ·intro j o' hj hL t ht hdo
   have hj':ops[i+1+j]? =some o':=by rw[<-List.getElem?_drop];exact hj
   rcases hc.name i o ho (i+1+j) o' t hj' hdo (.inr ht)with hh|⟨hh,_⟩|⟨_,QW⟩
   ·omega
   ·omega
   ·exact absurd (h.down.Cv QW ⟨o',hj',fun e he=>h.down _ _ hL hj' _ he⟩) (by rw[hif];simp)
def Out(P:Program)(ρ:Operand->Value)(o:Oper)(w:World)(R:Value->World->Prop):Prop:=
 match(execOp ρ o).run P w with
 |.ok (.value v) w'=>R v w'
 |.ok .skip w'=>R undef w'
 |.ok (.enter f args) w'=>Calls P f args w' fun e w''=>∃v,e=.returned v/\R v w''
 |_=>False
theorem Nt{Q:Exit->Act->World->Prop}{K:Act->World->Prop}{R:Value->World->Prop}(hc:Fp ops){L:Array Bool}{a:Act}{w:World}{v:Nat->Value}(h:Fr ops a0 L a v){i:Nat}{o:Oper}(hr:Ov ops L i o)
 (qK:if Region.wanted o (yielded ops.toArray (Fq a0 ops v i).tmps)=true then Out P (Fq a0 ops v i).eval o w R else R undef w)
 (hK:∀x w',R x w'->K (a.put o.dst x) w'):wpOp P ops.toArray Q i K a w:=by
 have hread:∀t,t∈o.looksAt ops.toArray->a.tmps[t]? =(Fq a0 ops v i).tmps[t]? :=fun t ht=>Xb hc h hr (.inl ht);unfold wpOp;simp only[List.getElem?_toArray,hr.at'];rw[Ns hread]
 split
 ·rename_i hw
  rw[bH hw]at qK
  left
  unfold Oper.wp;rw[execOp_congr o (hc.sel i o hr.at') (QV hread)];unfold Out at qK;generalize (execOp (Fq a0 ops v i).eval o).run P w=r at qK⊢;cases r with
  |halt x w'=>exact qK.elim
  |ok x w'=>
   cases x<;>simp only at qK<;>first|exact qK.elim|skip
   ·exact hK _ _ qK
   ·exact hK _ _ qK
   ·refine Calls.mono qK ?_
    rintro e w'' ⟨x,rfl,h2⟩;exact hK _ _ h2
 ·rename_i hw
  rw[aU hw]at qK;exact hK _ _ qK
end
def mZ(n:Nat)(listed:Array Bool):List Nat:=(List.range n).filter fun j=> !(listed.getD j false)
theorem Xc{n:Nat}{listed:Array Bool}{i:Nat}(hs:i<listed.size)(hi:i<n)(hl:listed.getD i false=false):(mZ n (listed.setIfInBounds i true)).length+1=(mZ n listed).length:=by
 have e:mZ n (listed.setIfInBounds i true)=(mZ n listed).erase i:=by
  have nd:(mZ n listed).Nodup:=List.Pairwise.filter _ List.nodup_range;rw[nd.erase_eq_filter];unfold mZ;rw[List.filter_filter];refine List.filter_congr fun j hj=> ?_;simp only[xu,IZ];by_cases hji:i=j
  ·subst hji;simp[hs]
  ·simp[hji,Ne.symm hji]
 have hm:i∈mZ n listed:=by simp only[mZ,List.mem_filter,List.mem_range,hi,hl,Bool.not_false,and_self]
 rw[e,List.length_erase_of_mem hm];have:=List.length_pos_of_mem hm;omega
section
variable {P:Program} {ops:List Oper} {Q:Exit->Act->World->Prop}
theorem Ow{L:Array Bool}(hs:L.size=ops.length){i:Nat}:i∈Region.ready .any ops.toArray L↔∃o,Ov ops L i o:=by
 rw[mem_ready]
 constructor
 ·rintro⟨h1,h2,o,h3,h4⟩
  exact⟨o,h3,(VZ (by omega)).symm.trans h2,fun e he=>h4 e (pY.1 he).1 (pY.1 he).2⟩
 ·rintro⟨o,h3,h2,h4⟩
  have h1:=(List.getElem?_eq_some_iff.1 h3).1;exact⟨h1,(VZ (by omega)).trans h2,o,h3,fun e he hb=>h4 e (pY.2 ⟨he,hb⟩)⟩
theorem Zv(hc:Fp ops){n:Nat}(hn:n<=ops.length)(ht:∀k j,n<=k->k<ops.length->j<n->qJ ops k j)(I:Array Bool->Act->World->Prop)
 (hI:∀L a w,I L a w->L.size=ops.length/\Down ops L)
 (hstep:∀L a w i o (K:Act->World->Prop),I L a w->i<n->Ov ops L i o->(∀a' w',I (L.setIfInBounds i true) a' w'->K a' w')->wpOp P ops.toArray Q i K a w)
 (hend:∀fuel L a w,ops.length-n<=fuel->L.size=ops.length->(∀j,L.getD j false=decide (j<n))->I L a w->wpAny P .any ops.toArray Q fuel L a w):∀(fuel:Nat) (L:Array Bool) (a:Act) (w:World),
 (mZ n L).length+(ops.length-n)<=fuel->(∀j,n<=j->L.getD j false=false)->I L a w->wpAny P .any ops.toArray Q fuel L a w:=by
 have all:∀(fuel:Nat) (L:Array Bool) (a:Act) (w:World),ops.length-n<=fuel->(∀j,n<=j->L.getD j false=false)->mZ n L=[]->I L a w->wpAny P .any ops.toArray Q fuel L a w:=by
  intro fuel L a w hf hm hu h;refine hend fuel L a w hf (hI _ _ _ h).1 (fun j=> ?_) h;rcases gM j n with hj|hj
  ·cases hL:L.getD j false with
   |true=>simp[hj]
   |false=>
    have:j∈mZ n L:=by simp only[mZ,List.mem_filter,List.mem_range,hj,hL,Bool.not_false,and_self]
    rw[hu]at this;cases this
  ·rw[hm j hj];simp;omega
 intro fuel
 induction fuel with
 |zero=>exact fun L a w hf hm h=>all 0 L a w (by omega) hm (kM (by omega)) h
 |succ fuel ih=>
  intro L a w hf hm h;obtain⟨hs,hd⟩:=hI _ _ _ h;cases hu:mZ n L with
  |nil=>exact all _ L a w (by omega) hm hu h
  |cons x r=>
   have hx:x<n/\L.getD x false=false:=by
    have:x∈mZ n L:=by rw[hu];simp
    simpa[mZ]using this
   refine⟨fun hr=> ?_,fun i hi=> ?_⟩
   ·have none:∀i,i<ops.length->L.getD i false=true:=by
     intro i
     induction i using Nat.strongRecOn with
     |_ i ih=>
      intro hi;cases hL:L.getD i false with
      |true=>rfl
      |false=>
       have ho:=fP hi;have:i∈Region.ready .any ops.toArray L:=(Ow hs).2 ⟨_,ho,hL,fun e he=>ih e.on (hc.edge i _ ho e he) (by have:=hc.edge i _ ho e he;omega)⟩;rw[hr]at this;cases this
    have:=none x (by omega);rw[hx.2]at this;cases this
   ·obtain⟨o,hr⟩:=(Ow hs).1 hi
    have hlt:=(List.getElem?_eq_some_iff.1 hr.at').1;rcases gM i n with him|him
    ·refine hstep L a w i o _ h him hr fun a' w' h'=> ?_
     have avF:=Xc (n:=n) (by rw[hs];exact hlt) him hr.off;exact ih _ a' w' (by omega) (fun j hj=>by rw[tO (by omega),aU (by omega)];exact hm j hj) h'
    ·have:=hd.Cv (ht i x him hlt hx.1) ⟨o,hr.at',hr.qj⟩
     rw[hx.2]at this;cases this
theorem QX{id:Nat}{a0:Act}{w0:World}(hm:P.follows .mixedOrders=true)(hc:Fp ops){n:Nat}(hn:n<=ops.length)(ht:∀k j,n<=k->k<ops.length->j<n->qJ ops k j)(I:Array Bool->Act->World->Prop)
 (hI:∀L a w,I L a w->L.size=ops.length/\Down ops L)
 (hstep:∀L a w i o (K:Act->World->Prop),I L a w->i<n->Ov ops L i o->(∀a' w',I (L.setIfInBounds i true) a' w'->K a' w')->wpOp P ops.toArray Q i K a w)
 (hend:∀fuel L a w,ops.length-n<=fuel->L.size=ops.length->(∀j,L.getD j false=decide (j<n))->I L a w->wpAny P .any ops.toArray Q fuel L a w)
 (h0:I (Array.replicate ops.length false) a0 w0.drew):(Code.region id ops.toArray true).wp P Q a0 w0:=by
 refine wp_region_any hm (Zv hc hn ht I hI hstep hend _ _ _ _ ?_ (fun j _=>wo _ j) (by simpa using h0))
 have:(mZ n (Array.replicate ops.toArray.size false)).length<=n:=by
  unfold mZ;refine bX (List.length_filter_le _ _) ?_;simp
 simp only[List.size_toArray]at this⊢;omega
end
def Xd(l:List Value):Operand->Value
 |.tmp t=>l.getD t undef
 |.const v=>v
 |.global g=>.pointer (some ⟨g,0,none⟩)
 |.func f=>.func (.func f) #[] #[]
def ac6(l:List Value)(dst:Option Tmp)(v:Value):List Value:=
 match dst with
 |some d=>l.set d v
 |none=>l
def Ei(ops:List Oper)(l:List Value)(j:Nat):Option Bool:=
 match((ops[j]?).bind (·.dst)).bind (l[·]?)with
 |some (.bool b)=>some b
 |_=>none
theorem QY(l:List Value)(ds:List Deferred):(Act.mk l.toArray ds).eval=Xd l:=by
 funext x
 cases x<;>simp[Act.eval,Xd]
theorem Va(l:List Value)(ds:List Deferred)(dst:Option Tmp)(v:Value):(Act.mk l.toArray ds).put dst v=⟨(ac6 l dst v).toArray,ds⟩:=by
 cases dst<;>simp[Act.put,ac6]
theorem K6(ops:List Oper)(l:List Value):yielded ops.toArray l.toArray=Ei ops l:=by
 funext j
 simp only[yielded,Ei,List.getElem?_toArray];rfl
def xD:List (Nat×Value)->List Value->Nat->Value
 |[],a0,t=>a0.getD t undef
 |(d,x)::r,a0,t=>bif Nat.beq t d then x else xD r a0 t
def afu(env:List (Nat×Value))(a0:List Value):Operand->Value
 |.tmp t=>xD env a0 t
 |.const v=>v
 |.global g=>.pointer (some ⟨g,0,none⟩)
 |.func f=>.func (.func f) #[] #[]
def gH(env:List (Nat×Value))(dst:Option Tmp)(v:Value):List (Nat×Value):=
 match dst with
 |some d=>(d,v)::env
 |none=>env
def dK:List (Nat×Value)->List Value->List Value
 |[],a0=>a0
 |(d,x)::r,a0=>(dK r a0).set d x
def Ga:Value->Option Bool
 |.bool b=>some b
 |_=>none
def vI(ops:List Oper)(env:List (Nat×Value))(a0:List Value)(j:Nat):Option Bool:=
 match(ops[j]?).bind (·.dst)with
 |some t=>Ga (xD env a0 t)
 |none=>none
def kR(n:Nat):List Oper->Bool
 |[]=>true
 |o::r=>(match o.dst with|some d=>Nat.blt d n|none=>true)&&kR n r
theorem Bq:∀(env:List (Nat×Value)) (a0:List Value),(dK env a0).length=a0.length
 |[],_=>rfl
 |(d,x)::r,a0=>by simp[dK,Bq r a0]
theorem Ke:∀(env:List (Nat×Value)) (a0:List Value) (t:Nat),(∀p∈env,p.1<a0.length)->xD env a0 t=(dK env a0).getD t undef
 |[],_,_,_=>rfl
 |(d,x)::r,a0,t,h=>by
  have hd:=h (d,x) (by simp);have ih:=Ke r a0 t (fun p hp=>h p (by simp[hp]));simp only[xD,dK];rw[List.getD_eq_getElem?_getD,List.getElem?_set];by_cases e:t=d
  ·subst e
   have:Nat.beq t t=true:=Nat.beq_refl t;simp[Bq,hd]
  ·have:Nat.beq t d=false:=by
    cases hb:Nat.beq t d
    ·rfl
    ·exact absurd (Nat.eq_of_beq_eq_true hb) e
   rw[this,aU (fun h=>e h.symm),ih,List.getD_eq_getElem?_getD];rfl
theorem ac7{env:List (Nat×Value)}{a0:List Value}(Gb:∀p∈env,p.1<a0.length):Xd (dK env a0)=afu env a0:=by
 funext x
 cases x with
 |tmp t=>exact(Ke env a0 t Gb).symm
 |_=>rfl
theorem Ox{n:Nat}:∀(l:List Oper),kR n l=true->∀(j:Nat) (t:Tmp),(l[j]?).bind (·.dst)=some t->t<n
 |[],_,j,t,hh=>by simp at hh
 |o::l,hl,j,t,hh=>by
  simp only[kR,Bool.and_eq_true]at hl;cases j with
  |zero=>
   simp only[List.getElem?_cons_zero,Option.bind_some]at hh;rw[hh]at hl;simpa[Nat.blt_eq]using hl.1
  |succ j=>exact Ox l hl.2 j t (by simpa using hh)
theorem Vb{ops:List Oper}{env:List (Nat×Value)}{a0:List Value}(hall:kR a0.length ops=true)(Gb:∀p∈env,p.1<a0.length):Ei ops (dK env a0)=vI ops env a0:=by
 funext j
 unfold Ei vI;cases hd:(ops[j]?).bind (·.dst)with
 |none=>rfl
 |some t=>
  have ht:=Ox ops hall j t hd
  have hl:(dK env a0)[t]? =some (xD env a0 t):=by
   rw[Ke env a0 t Gb,List.getD_eq_getElem?_getD,fP (by rw[Bq];exact ht)];rfl
  rw[Option.bind_some,hl];show(match some (xD env a0 t)with|some (Value.bool b)=>some b|_=>none)=Ga (xD env a0 t);generalize xD env a0 t=x;cases x<;>rfl
abbrev Ob:=Nat->(Operand->Value)->(Nat->Option Bool)->Oper->Prop
def Xe(ops:List Oper)(ob:Ob)(fin:Nat->Act->Prop)(v:Nat->Value):Nat->List Oper->Act->Prop
 |i,[],a=>fin i a
 |i,o::r,a=>ob i a.eval (yielded ops.toArray a.tmps) o/\Xe ops ob fin v (i+1) r (a.put o.dst (v i))
def lJ(ops:List Oper)(ob:Ob)(a0:List Value)(fin:Nat->List Value->Prop)(v:Nat->Value):Nat->List Oper->List (Nat×Value)->Prop
 |i,[],env=>fin i (dK env a0)
 |i,o::r,env=>ob i (afu env a0) (vI ops env a0) o/\lJ ops ob a0 fin v (i+1) r (gH env o.dst (v i))
theorem lJ.aip{ops:List Oper}{ob:Ob}{fin:Nat->Act->Prop}{a0:List Value}{ds:List Deferred}{v:Nat->Value}(hall:kR a0.length ops=true):∀(rest:List Oper) (i:Nat) (env:List (Nat×Value)),
 (∀p∈env,p.1<a0.length)->kR a0.length rest=true->lJ ops ob a0 (fun i l=>fin i ⟨l.toArray,ds⟩) v i rest env->Xe ops ob fin v i rest ⟨(dK env a0).toArray,ds⟩
 |[],_,_,_,_,h=>h
 |o::rest,i,env,Gb,hr,h=>by
  simp only[kR,Bool.and_eq_true]at hr;refine⟨?_,?_⟩
  ·rw[QY,K6,ac7 Gb,Vb hall Gb]
   exact h.1
  ·rw[Va,show ac6 (dK env a0) o.dst (v i)=dK (gH env o.dst (v i)) a0 from by cases hd:o.dst<;>rfl]
   refine lJ.aip hall rest (i+1) _ ?_ hr.2 h.2;intro p hp;unfold gH at hp;cases hd:o.dst with
   |none=>rw[hd]at hp;exact Gb p hp
   |some d=>
    rw[hd]at hp;simp only[Ed]at hp;rcases hp with rfl|hp
    ·rw[hd]at hr
     simpa[Nat.blt_eq]using hr.1
    ·exact Gb p hp
theorem QZ{ops:List Oper}{ob:Ob}{fin:Nat->Act->Prop}{v:Nat->Value}:∀(l:List Oper) (k:Nat) (a:Act),Xe ops ob fin v k l a->
 (∀i o,l[i]? =some o->ob (k+i) (jX (fun _=>true) v k (l.take i) a).eval (yielded ops.toArray (jX (fun _=>true) v k (l.take i) a).tmps) o)/\fin (k+l.length) (jX (fun _=>true) v k l a)
 |[],k,a,h=>⟨fun i o hi=>by simp at hi,h⟩
 |o::l,k,a,h=>by
  have ih:=QZ l (k+1) (a.put o.dst (v k)) h.2;refine⟨fun i o' hi=> ?_,?_⟩
  ·cases i with
   |zero=>
    simp only[List.getElem?_cons_zero,Option.some.injEq]at hi;subst hi;exact h.1
   |succ i=>
    have:=ih.1 i o' (by simpa using hi);rw[show k+1+i=k+(i+1)from by omega]at this;simpa[jX]using this
  ·have:=ih.2
   rw[show k+1+l.length=k+(o::l).length from by simp;omega]at this;simpa[jX]using this
theorem Jk{n:Nat}:∀(l:List Oper) (k:Nat),kR n l=true->kR n (l.take k)=true
 |[],_,_=>by simp[kR]
 |o::l,0,_=>rfl
 |o::l,k+1,h=>by
  simp only[kR,Bool.and_eq_true,List.take_succ_cons]at h⊢;exact⟨h.1,Jk l k h.2⟩
theorem Nu{ops:List Oper}{ob:Ob}{fin:Nat->Act->Prop}{a0:List Value}{ds:List Deferred}{v:Nat->Value}(hall:kR a0.length ops=true){n:Nat}(hn:n<=ops.length)(h:lJ ops ob a0 (fun i l=>fin i ⟨l.toArray,ds⟩) v 0 (ops.take n) []):
 (∀i o,i<n->ops[i]? =some o->ob i (Fq ⟨a0.toArray,ds⟩ ops v i).eval (yielded ops.toArray (Fq ⟨a0.toArray,ds⟩ ops v i).tmps) o)/\fin n (Fq ⟨a0.toArray,ds⟩ ops v n):=by
 obtain⟨h1,h2⟩:=QZ _ _ _ (lJ.aip hall (ops.take n) 0 [] (by simp) (Jk ops n hall) h);refine⟨fun i o hi ho=> ?_,?_⟩
 ·have:=h1 i o (by rw[List.getElem?_take_of_lt hi];exact ho)
  rwa[List.take_take,jF (by omega),bV]at this
 ·rwa[fu,jF hn,bV]at h2
structure Wd where
 p:World->Prop
 mono:∀w w',p w->Ext w w'->p w'
abbrev K7(w0:World):Wd:=⟨fun w=>Ext w0 w,fun _ _ h he=>h.trans he⟩
def Looks(ops:List Oper)(T:(Nat->Value)->Nat->Ty):Prop:=∀(v v':Nat->Value) (j:Nat),(∀k,qJ ops j k->v k=v' k)->T v j=T v' j
def Std(ops:List Oper)(T:(Nat->Value)->Nat->Ty)(J:Wd)(a0:Act)(L:Array Bool)(a:Act)(w:World):Prop:=
 ∃v,Fr ops a0 L a v/\J.p w/\∀j,L.getD j false=true->(T v j).p (v j) w
theorem qJ.lt{ops:List Oper}(hc:Fp ops){i j:Nat}(h:qJ ops i j):j<i:=by
 induction h with
 |one ho he=>exact hc.edge _ _ ho _ he
 |more ho he _ ih=>exact Nat.lt_trans ih (hc.edge _ _ ho _ he)
theorem qJ.has{ops:List Oper}{i j:Nat}(h:qJ ops i j):∃o,ops[i]? =some o:=by
 cases h with
 |one ho _=>exact⟨_,ho⟩
 |more ho _ _=>exact⟨_,ho⟩
section
variable {P:Program} {ops:List Oper} {T:(Nat->Value)->Nat->Ty} {J:Wd} {a0:Act} {Q:Exit->Act->World->Prop}
theorem Ej{K:Act->World->Prop}(hc:Fp ops)(hd:Looks ops T){L:Array Bool}{a:Act}{w:World}(h:Std ops T J a0 L a w){i:Nat}{o:Oper}(hr:Ov ops L i o)
 (qK:∀v w,J.p w->qA (T v) v w (qj o)->if Region.wanted o (yielded ops.toArray (Fq a0 ops v i).tmps)=true then bL P (Fq a0 ops v i).eval o w (T v i).p else(T v i).p undef w)
 (hK:∀a' w',Std ops T J a0 (L.setIfInBounds i true) a' w'->K a' w'):wpOp P ops.toArray Q i K a w:=by
 obtain⟨v,hf,hw,ht⟩:=h;have hlt:i<L.size:=by rw[hf.size];exact(List.getElem?_eq_some_iff.1 hr.at').1
 have hdp:qA (T v) v w (qj o):=by
  have:∀l:List Edge,(∀e∈l,L.getD e.on false=true)->qA (T v) v w l:=by
   intro l
   induction l with
   |nil=>intro _;trivial
   |cons e l ih=>intro hh;exact⟨ht _ (hh e (by simp)),ih fun e' h'=>hh e' (by simp[h'])⟩
  exact this _ hr.qj
 refine Nt (R:=fun x w'=>Ext w w'/\(T v i).p x w') hc hf hr ?_ fun x w' hx=> ?_
 ·have:=qK v w hw hdp
  split
  ·rename_i hh
   rw[bH hh]at this;exact this
  ·rename_i hh
   rw[aU hh]at this;exact⟨Ext.refl w,this⟩
 ·have hv:∀j,j≠i->(fun j=>if j=i then x else v j) j=v j:=fun j hj=>aU hj
  refine hK _ _ ⟨fun j=>if j=i then x else v j,hf.next hc hr x (bH rfl) hv,J.mono _ _ hw hx.1,fun j hj=> ?_⟩;rw[tO hlt]at hj;rw[hd _ v j fun k hk=>hv k fun hki=> ?_]
  ·by_cases hji:j=i
   ·subst hji;simpa using hx.2
   ·rw[aU hji]at hj
    simp only[hji,if_false];exact(T v j).mono _ _ _ hx.1 (ht j hj)
  ·subst hki
   obtain⟨o',ho'⟩:=hk.has;by_cases hji:j=k
   ·have:=hk.lt hc
    omega
   ·rw[aU hji]at hj
    have:=hf.down.Cv hk ⟨o',ho',hf.down j o' hj ho'⟩;rw[hr.off]at this;cases this
theorem Std.new{w:World}(hw:J.p w):Std ops T J a0 (Array.replicate ops.length false) a0 w:=
 ⟨fun _=>undef,Fr.new _,hw,fun j hj=>by rw[wo]at hj;cases hj⟩
end
def tQ(ops:List Oper)(m:Nat):Bool:=
 let A:=Kc ops
 (List.range ops.length).all fun k=>k<m||(List.range k).all fun j=>(A.getD k []).contains j
theorem qL{ops:List Oper}{m:Nat}(h:tQ ops m=true):∀k j,m<=k->k<ops.length->j<k->qJ ops k j:=by
 intro k j hk hl hj;simp only[tQ,List.all_eq_true,List.mem_range,Bool.or_eq_true,decide_eq_true_eq]at h;rcases h k hl with h|h
 ·omega
 ·exact qW (by simpa using h j hj)
section
variable {P:Program} {Q:Exit->Act->World->Prop}
theorem Gc{ops:List Oper}(hc:Fp ops){m:Nat}(ht:∀k j,m<=k->k<ops.length->j<k->qJ ops k j):∀(r k fuel:Nat) (listed:Array Bool) (a:Act) (w:World),
 k+r=ops.length->m<=k->r<=fuel->listed.size=ops.length->(∀j,listed.getD j false=decide (j<k))->wpOps P ops.toArray Q (List.range' k r) a w->wpAny P .any ops.toArray Q fuel listed a w
 |r,k,fuel,listed,a,w,hk,hm,hf,hs,hl,h=>by
  have I4:Down ops listed:=fun i o hi ho e he=>by
   rw[hl]at hi⊢;have:=(hc.edge i o ho e he);simp at hi⊢;omega
  have zA:∀i∈Region.ready .any ops.toArray listed,i=k/\k<ops.length:=by
   intro i hi;obtain⟨h1,h2,o,h3,h4⟩:=mem_ready.1 hi;have hb:∀e∈qj o,listed.getD e.on false=true:=fun e he=>h4 e (pY.1 he).1 (pY.1 he).2
   have hlf:¬i<k:=by
    intro hik;have:=hl i;simp only[xu]at this h2;rw[Cu (by omega)]at this h2;simp[hik]at this;simp[this]at h2
   rcases gM k i with hki|hki
   ·have:=I4.Cv (ht i k (by omega) h1 hki) ⟨o,h3,hb⟩
    rw[hl]at this;simp at this
   ·exact⟨by omega,by omega⟩
  have hnil:Region.ready .any ops.toArray listed=[]->r=0:=by
   intro hr;rcases Nat.eq_zero_or_pos r with h0|h0
   ·exact h0
   ·exfalso
    have Gd:k<ops.length:=by omega
    have ho:=fP Gd
    have:k∈Region.ready .any ops.toArray listed:=mem_ready.2 ⟨Gd,by
     have:=hl k;simp only[xu]at this⊢;rw[Cu (by omega)]at this⊢
     simpa using this,_,ho,fun e he hb=>by
      rw[hl];simpa using hc.edge k _ ho e (pY.2 ⟨he,hb⟩)⟩
    rw[hr]at this;cases this
  match fuel,hf with
  |0,hf=>
   obtain rfl:r=0:=by omega
   refine⟨?_,by simpa[wpOps]using h⟩;cases hr:Region.ready .any ops.toArray listed with
   |nil=>rfl
   |cons i x=>
    have:=zA i (by rw[hr];simp);omega
  |fuel+1,hf=>
   refine⟨fun hr=> ?_,fun i hi=> ?_⟩
   ·obtain rfl:=hnil hr
    simpa[wpOps]using h
   ·obtain⟨rfl,hlt⟩:=zA i hi
    match r,hk,hf,h with
    |0,hk,_,_=>omega
    |r+1,hk,hf,h=>
     rw[List.range'_succ,wpOps_cons]at h;refine wpOp_mono (fun a' w' h'=> ?_) h;refine Gc hc ht r (i+1) fuel _ a' w' (by omega) (by omega) (by omega) (by simp[hs]) (fun j=> ?_) h';have hj:=hl j;simp only[xu,IZ]at hj⊢;by_cases hji:i=j
     ·subst hji;simp[hs,hlt]
     ·rw[aU hji,hj]
      congr 1
      exact propext ⟨fun h=>by omega,fun h=>by omega⟩
termination_by r=>r
theorem Em{ops:List Oper}(hc:Fp ops){n:Nat}(hn:n<=ops.length)(ht:∀k j,n<=k->k<ops.length->j<k->qJ ops k j)(fuel:Nat)(L:Array Bool)(a:Act)(w:World)(hf:ops.length-n<=fuel)(hs:L.size=ops.length)(hL:∀j,L.getD j false=decide (j<n))
 (h:wpList P ops.toArray Q (ops.drop n) a w):wpAny P .any ops.toArray Q fuel L a w:=
 Gc hc ht (ops.length-n) n fuel L a w (by omega) (aI _) hf hs hL (by
  have:=wpOps_eq_wpList (P:=P) (Q:=Q) (ops:=ops.toArray) (ops.drop n) n (fun j=>by rw[List.getElem?_toArray,List.getElem?_drop]);rw[jV]at this
  rwa[this])
variable {w0:World} {a0:List Value} {ds:List Deferred} {rid:Nat} {l:List Oper}
abbrev I5(P:Program)(ops:List Oper)(T:Nat->Ty)(w0:World)(a0:List Value)(K:List Value->World->Prop)(v:Nat->Value):Nat->List Oper->List (Nat×Value)->Prop:=
 lJ ops (fun i ρ y o=>∀w,Ext w0 w->qA T v w (qj o)->if Region.wanted o y=true then bL P ρ o w (T i).p else(T i).p undef w) a0 (fun i l=>∀w,Ext w0 w->(∀j,j<i->(T j).p (v j) w)->K l w) v
theorem zP(n:Nat)(T:(Nat->Value)->Nat->Ty)(hd:Looks l T)(hm:P.follows .mixedOrders=true)(pQ:mE l=true)(ht:∀k j,n<=k->k<l.length->j<n->qJ l k j)(hn:n<=l.length)(hin:kR a0.length l=true)
 (K:Act->World->Prop) (hK:∀fuel (L:Array Bool) a w,l.length-n<=fuel->L.size=l.length->(∀j,L.getD j false=decide (j<n))->K a w->wpAny P .any l.toArray Q fuel L a w)
 (h:∀v,I5 P l (T v) w0 a0 (fun l' w'=>K ⟨l'.toArray,ds⟩ w') v 0 (l.take n) []):(Code.region rid l.toArray true).wp P Q ⟨a0.toArray,ds⟩ w0:=by
 have hc:=oM pQ;have hh:=fun(v:Nat->Value)=>Nu (ds:=ds) (fin:=fun i a=>∀w,Ext w0 w->(∀j,j<i->(T v j).p (v j) w)->K a w) hin hn (h v);refine QX hm hc hn ht (Std l T (K7 w0) ⟨a0.toArray,ds⟩) (fun L a w ⟨v,hf,_⟩=>⟨hf.size,hf.down⟩) (fun L a w i o K' hI hi hr hK'=> ?_) (fun fuel L a w h1 h2 h3 ⟨v,hf,hw,hty⟩=> ?_) (Std.new (Ext.drew (Ext.refl w0)))
 ·exact Ej hc hd hI hr (fun v=>(hh v).1 i o hi hr.at') hK'
 ·refine hK fuel L a w h1 h2 h3 ?_
  rw[hf.all hn h3];exact(hh v).2 w hw fun j hj=>hty j (by rw[h3];simpa using hj)
theorem iw{ops:List Oper}(hm:P.follows .mixedOrders=true)(T:Nat->Ty)(pQ:mE ops=true)(hin:kR a0.length ops=true)
 (h:∀v,I5 P ops T w0 a0 (fun l w'=>Q .normal ⟨l.toArray,ds⟩ w') v 0 ops []):(Code.region rid ops.toArray true).wp P Q ⟨a0.toArray,ds⟩ w0:=
 zP ops.length (fun _=>T) (fun _ _ _ _=>rfl) hm pQ (fun k j h1 h2=>by omega) (aI _) hin (fun a w=>Q .normal a w) (fun fuel L a w h1 h2 h3 h=>Em (oM pQ) (aI _) (fun k j h1 h2=>by omega) fuel L a w h1 h2 h3 (by rw[List.drop_length];exact h)) fun v=>by rw[List.take_length];exact h v
theorem Du(n:Nat)(T:(Nat->Value)->Nat->Ty)(hd:Looks l T)(hm:P.follows .mixedOrders=true)(pQ:mE l=true)(htail:tQ l n=true)(hn:n<=l.length)(hin:kR a0.length l=true)
 (h:∀v,I5 P l (T v) w0 a0 (fun l' w'=>wpList P l.toArray Q (l.drop n) ⟨l'.toArray,ds⟩ w') v 0 (l.take n) []):(Code.region rid l.toArray true).wp P Q ⟨a0.toArray,ds⟩ w0:=
 zP n T hd hm pQ (fun k j h1 h2 h3=>qL htail k j h1 h2 (by omega)) hn hin (fun a w=>wpList P l.toArray Q (l.drop n) a w) (Em (oM pQ) hn (qL htail)) h
theorem iJ(n:Nat)(T:Nat->Ty)(hm:P.follows .mixedOrders=true)(pQ:mE l=true)(htail:tQ l n=true)(hn:n<=l.length)(hin:kR a0.length l=true)
 (h:∀v,I5 P l T w0 a0 (fun l' w'=>wpList P l.toArray Q (l.drop n) ⟨l'.toArray,ds⟩ w') v 0 (l.take n) []):(Code.region rid l.toArray true).wp P Q ⟨a0.toArray,ds⟩ w0:=
 Du n (fun _=>T) (fun _ _ _ _=>rfl) hm pQ htail hn hin h
end
def Cw(P:Program)(ρ:Operand->Value)(o:Oper)(w0:Wd)(w:World)(T:Value->World->Prop):Prop:=
 match(execOp ρ o).run P w with
 |.ok (.value v) w'=>w0.p w'/\T v w'
 |.ok .skip w'=>w0.p w'/\T undef w'
 |.ok (.enter f args) w'=>Calls P f args w' fun e w''=>∃v,e=.returned v/\w0.p w''/\T v w''
 |_=>False
def yM(ops:List Oper)(n s:Nat)(early:List Nat):Bool:=(early.all fun j=>((Kc ops).getD s []).contains j)&&(ops.take n).all fun o=>o.guard.isNone
theorem uX{ops:List Oper}{n s:Nat}{early:List Nat}(h:yM ops n s early=true):(∀j,early.contains j=true->qJ ops s j)/\∀i o,i<n->ops[i]? =some o->∀u,Region.wanted o u=true:=by
 simp only[yM,Bool.and_eq_true,List.all_eq_true]at h;refine⟨fun j hj=>qW (by simpa using h.1 j (by simpa using hj)),fun i o hi ho u=> ?_⟩;have:=h.2 o (List.mem_iff_getElem?.2 ⟨i,by rw[List.getElem?_take_of_lt hi];exact ho⟩);simp[Region.wanted,Option.isNone_iff_eq_none.1 this]
section
variable {P:Program} {Q:Exit->Act->World->Prop} {a0:List Value} {ds:List Deferred} {rid:Nat} {l:List Oper}
abbrev Jl(P:Program)(T T2:Nat->Ty)(J w0:Wd)(s:Nat)(early:List Nat)(E:(Nat->Value)->World->Prop)(v:Nat->Value)(i:Nat)(ρ:Operand->Value)(o:Oper):Prop:=
 if i=s then(∀w,J.p w->(∀j,early.contains j=true->(T j).p (v j) w)->Cw P ρ o w0 w (fun x w'=>(T2 i).p x w'/\E v w'))else
  ((∀w,J.p w->qA T v w (qj o)->bL P ρ o w (T i).p)/\(early.contains i=false->∀w,w0.p w->qA T2 v w (qj o)->bL P ρ o w (T2 i).p))
theorem p8{J w0:Wd}{w00:World}(h00:J.p w00)(E:(Nat->Value)->World->Prop)(n s:Nat)(early:List Nat)(T T2:Nat->Ty)(hm:P.follows .mixedOrders=true)(pQ:mE l=true)(htail:tQ l n=true)(xE:yM l n s early=true)(hn:n<=l.length)(hsn:s<n)(hin:kR a0.length l=true)
 (hT:∀j,j≠s->∀v w w',E v w'->(T j).p (v j) w->(T2 j).p (v j) w')
 (h:∀v,lJ l (fun i ρ _ o=>Jl P T T2 J w0 s early E v i ρ o) a0 (fun i l'=>∀w,w0.p w->(∀j,j<i->(T2 j).p (v j) w)->wpList P l.toArray Q (l.drop n) ⟨l'.toArray,ds⟩ w) v 0 (l.take n) []):(Code.region rid l.toArray true).wp P Q ⟨a0.toArray,ds⟩ w00:=by
 have hc:=oM pQ;obtain⟨Zw,hwt⟩:=uX xE;have hh:=fun(v:Nat->Value)=>Nu (ds:=ds) (fin:=fun i a=>∀w,w0.p w->(∀j,j<i->(T2 j).p (v j) w)->wpList P l.toArray Q (l.drop n) a w) hin hn (h v)
 refine QX hm hc hn (fun k j h1 h2 h3=>qL htail k j h1 h2 (by omega)) (fun L a w=>(L.getD s false=true->Std l (fun _=>T2) w0 ⟨a0.toArray,ds⟩ L a w)/\(L.getD s false=false->Std l (fun _=>T) J ⟨a0.toArray,ds⟩ L a w))
  (fun L a w hI=> ?_) (fun L a w i o K hI hi hr hK=> ?_) (fun fuel L a w h1 h2 h3 hI=> ?_) ⟨fun h=>absurd h (by rw[wo];decide),fun _=>Std.new (J.mono _ _ h00 (Ext.drew (Ext.refl w00)))⟩
 ·cases hs:L.getD s false with
  |true=>obtain⟨v,hf,-⟩:=hI.1 hs;exact⟨hf.size,hf.down⟩
  |false=>obtain⟨v,hf,-⟩:=hI.2 hs;exact⟨hf.size,hf.down⟩
 ·have qK:=fun(v:Nat->Value)=>(hh v).1 i o hi hr.at'
  have hgo:∀L':Array Bool,L'.size=l.length->i≠s->(L'.setIfInBounds i true).getD s false=L'.getD s false:=fun L' hs his=>by rw[tO (by rw[hs];exact(List.getElem?_eq_some_iff.1 hr.at').1),aU (fun e=>his e.symm)]
  cases hs:L.getD s false with
  |true=>
   have hS:=hI.1 hs;obtain⟨v0,hf,-⟩:=id hS;have his:i≠s:=fun e=>by have:=hr.off;rw[e,hs]at this;cases this
   refine Ej hc (fun _ _ _ _=>rfl) hS hr (fun v w hw hd=> ?_) fun a' w' hs'=>hK a' w' ⟨fun _=>hs',fun hh=>by rw[hgo L hf.size his,hs]at hh;cases hh⟩;rw[bH (hwt i o hi hr.at' _)];have:=qK v;rw[Jl,aU his]at this;refine this.2 ?_ w hw hd;cases he:early.contains i with
   |false=>rfl
   |true=>
    have hso:l[s]? =some (l[s]'(by omega)):=fP (by omega);have:=hf.down.Cv (Zw i he) ⟨_,hso,hf.down s _ hs hso⟩;rw[hr.off]at this;cases this
  |false=>
   have hS:=hI.2 hs;by_cases his:i=s
   ·subst his
    obtain⟨v,hf,hw,hty⟩:=hS;have:=qK v;rw[Jl,bH rfl]at this;have:=this w hw fun j hj=>hty j (hf.down.Cv (Zw j hj) ⟨o,hr.at',hr.qj⟩);have hlt:i<L.size:=by rw[hf.size];exact(List.getElem?_eq_some_iff.1 hr.at').1
    refine Nt (R:=fun x w'=>w0.p w'/\(T2 i).p x w'/\E v w') hc hf hr (by rw[bH (hwt i o hi hr.at' _)];exact this) fun x w' hx=>hK _ _ ⟨fun _=> ?_,fun hh=>by rw[tO hlt,bH rfl]at hh;cases hh⟩;refine⟨fun j=>if j=i then x else v j,hf.next hc hr x (bH rfl) (fun j hj=>aU hj),hx.1,fun j hj=> ?_⟩;rw[tO hlt]at hj;by_cases hji:j=i
    ·subst hji;simpa using hx.2.1
    ·rw[aU hji]at hj
     simp only[hji,if_false];exact hT j hji v _ _ hx.2.2 (hty j hj)
   ·obtain⟨v0,hf,-⟩:=id hS
    refine Ej hc (fun _ _ _ _=>rfl) hS hr (fun v w hw hd=> ?_) fun a' w' hs'=>hK a' w' ⟨fun hh=>absurd hh (by rw[hgo L hf.size his,hs];decide),fun _=>hs'⟩;rw[bH (hwt i o hi hr.at' _)];have:=qK v;rw[Jl,aU his]at this;exact this.1 w hw hd
 ·obtain⟨v,hf,hw,hty⟩:=hI.1 (by rw[h3];simpa using hsn)
  refine Em hc hn (qL htail) fuel L a w h1 h2 h3 ?_;rw[hf.all hn h3];exact(hh v).2 w hw fun j hj=>hty j (by rw[h3];simpa using hj)
variable {T T2:Nat->Ty} {J w0:Wd} {E:(Nat->Value)->World->Prop} {early:List Nat} {v:Nat->Value} {i s:Nat} {ρ:Operand->Value} {o:Oper}
theorem dx(his:i≠s)(he:early.contains i=true)(h:∀w,J.p w->qA T v w (qj o)->bL P ρ o w (T i).p):Jl P T T2 J w0 s early E v i ρ o:=by
 rw[Jl,aU his];exact⟨h,fun hh=>by rw[he]at hh;cases hh⟩
theorem nR(his:i≠s)(h:∀w,J.p w->qA T v w (qj o)->bL P ρ o w (T i).p)(h2:early.contains i=false->∀w,w0.p w->qA T2 v w (qj o)->bL P ρ o w (T2 i).p):Jl P T T2 J w0 s early E v i ρ o:=by
 rw[Jl,aU his];exact⟨h,h2⟩
theorem yO(his:i=s)(h:∀w,J.p w->(∀j,early.contains j=true->(T j).p (v j) w)->Cw P ρ o w0 w (fun x w'=>(T2 i).p x w'/\E v w')):Jl P T T2 J w0 s early E v i ρ o:=by
 rw[Jl,bH his];exact h
end
def eP(P:Program)(ρ:Operand->Value)(o:Oper)(w:World)(x:Value)(w':World):Prop:=
 (execOp ρ o).run P w=.ok (.value x) w'∨((execOp ρ o).run P w=.ok .skip w'/\x=undef)
section
variable {P:Program} {Q:Exit->Act->World->Prop} {w0:World} {a0:List Value} {ds:List Deferred} {rid:Nat} {l:List Oper}
theorem eP.out{ρ:Operand->Value}{o:Oper}{w w':World}{x:Value}(h:eP P ρ o w x w'):Out P ρ o w fun y w''=>y=x/\w''=w':=by
 unfold Out;rcases h with h|⟨h,hu⟩
 ·rw[h];exact⟨rfl,rfl⟩
 ·rw[h];exact⟨hu.symm,rfl⟩
theorem Dv(cur:Array Bool->World)(ob:Nat->(Operand->Value)->Oper->Prop)(W':World)(n s:Nat)(early:List Nat)(c:Nat->Value)(hm:P.follows .mixedOrders=true)(pQ:mE l=true)(htail:tQ l n=true)(xE:yM l n s early=true)(hn:n<=l.length)(hin:kR a0.length l=true)
 (h0:cur (Array.replicate l.length false)=w0.drew) (hW:∀L:Array Bool,(∀j,L.getD j false=decide (j<n))->cur L=W')
 (qK:∀(L:Array Bool) (i:Nat) (o:Oper) (ρ:Operand->Value),L.size=l.length->Down l L->i<n->Ov l L i o->ob i ρ o->eP P ρ o (cur L) (c i) (cur (L.setIfInBounds i true)))
 (h:lJ l (fun i ρ _ o=>ob i ρ o) a0 (fun _ l'=>wpList P l.toArray Q (l.drop n) ⟨l'.toArray,ds⟩ W') c 0 (l.take n) []):(Code.region rid l.toArray true).wp P Q ⟨a0.toArray,ds⟩ w0:=by
 have hc:=oM pQ;obtain⟨-,hwt⟩:=uX xE;have hh:=Nu (ds:=ds) (fin:=fun _ a=>wpList P l.toArray Q (l.drop n) a W') hin hn h;refine QX hm hc hn (fun k j h1 h2 h3=>qL htail k j h1 h2 (by omega)) (fun L a w=>Fr l ⟨a0.toArray,ds⟩ L a c/\w=cur L) (fun L a w hI=>⟨hI.1.size,hI.1.down⟩) (fun L a w i o K hI hi hr hK=> ?_) (fun fuel L a w h1 h2 h3 hI=> ?_) ⟨Fr.new _,h0.symm⟩
 ·obtain⟨hf,rfl⟩:=hI
  refine Nt (R:=fun x w'=>x=c i/\w'=cur (L.setIfInBounds i true)) hc hf hr (by rw[bH (hwt i o hi hr.at' _)];exact(qK L i o _ hf.size hf.down hi hr (hh.1 i o hi hr.at')).out) ?_;rintro x w' ⟨rfl,rfl⟩;exact hK _ _ ⟨hf.next hc hr _ rfl fun _ _=>rfl,rfl⟩
 ·obtain⟨hf,rfl⟩:=hI
  refine Em hc hn (qL htail) fuel L a _ h1 h2 h3 ?_;rw[hf.all hn h3,hW L h3];exact hh.2
abbrev K8(P:Program)(c:Nat->Value)(s:Nat)(early:List Nat)(W W1:World)(i:Nat)(ρ:Operand->Value)(o:Oper):Prop:=
 if i=s then eP P ρ o W (c i) W1 else eP P ρ o W (c i) W/\(early.contains i=false->eP P ρ o W1 (c i) W1)
theorem oO(n s:Nat)(early:List Nat)(c:Nat->Value)(hm:P.follows .mixedOrders=true)(pQ:mE l=true)(htail:tQ l n=true)(xE:yM l n s early=true)(hn:n<=l.length)(hsn:s<n)(hin:kR a0.length l=true)
 (h:∀W,Ext w0 W->∃W1,lJ l (fun i ρ _ o=>K8 P c s early W W1 i ρ o) a0 (fun _ l'=>wpList P l.toArray Q (l.drop n) ⟨l'.toArray,ds⟩ W1) c 0 (l.take n) []):(Code.region rid l.toArray true).wp P Q ⟨a0.toArray,ds⟩ w0:=by
 obtain⟨W1,h⟩:=h _ (Ext.drew (Ext.refl w0));refine Dv (fun L=>if L.getD s false=true then W1 else w0.drew) _ W1 n s early c hm pQ htail xE hn hin (by rw[wo];rfl) (fun L hL=>by rw[hL];simp[hsn]) (fun L i o ρ hs hd hi hr ho=> ?_) h;rw[tO (by rw[hs];exact(List.getElem?_eq_some_iff.1 hr.at').1)];by_cases his:i=s
 ·subst his
  rw[K8,bH rfl]at ho;rw[hr.off];simpa using ho
 ·rw[K8,aU his]at ho
  rw[aU (show ¬s=i from fun e=>his e.symm)];cases hls:L.getD s false with
  |false=>simpa using ho.1
  |true=>
   rw[bH rfl];refine ho.2 ?_;cases he:early.contains i with
   |false=>rfl
   |true=>
    have hso:l[s]? =some (l[s]'(by omega)):=fP (by omega);have:=hd.Cv ((uX xE).1 i he) ⟨_,hso,hd s _ hls hso⟩;rw[hr.off]at this;cases this
abbrev obN(P:Program)(c:Nat->Value)(s s2:Nat)(W W1 W2:World)(i:Nat)(ρ:Operand->Value)(o:Oper):Prop:=
 if i=s then eP P ρ o W (c i) W1 else if i=s2 then eP P ρ o W1 (c i) W2 else∀X,X=W∨X=W1∨X=W2->eP P ρ o X (c i) X
theorem Q0(n s s2:Nat)(c:Nat->Value)(hm:P.follows .mixedOrders=true)(pQ:mE l=true)(htail:tQ l n=true)(xE:yM l n s2 [s]=true)(hn:n<=l.length)(hsn:s<n)(aqt:s2<n)(hne:s2≠s)(hin:kR a0.length l=true)
 (h:∀W,Ext w0 W->∃W1 W2,lJ l (fun i ρ _ o=>obN P c s s2 W W1 W2 i ρ o) a0 (fun _ l'=>wpList P l.toArray Q (l.drop n) ⟨l'.toArray,ds⟩ W2) c 0 (l.take n) []):(Code.region rid l.toArray true).wp P Q ⟨a0.toArray,ds⟩ w0:=by
 obtain⟨W1,W2,h⟩:=h _ (Ext.drew (Ext.refl w0));have Zw:=(uX xE).1 s (by simp);refine Dv (fun L=>if L.getD s2 false=true then W2 else if L.getD s false=true then W1 else w0.drew) _ W2 n s2 [s] c hm pQ htail xE hn hin (by rw[wo,wo];rfl) (fun L hL=>by rw[hL];simp[aqt]) (fun L i o ρ hs hd hi hr ho=> ?_) h;have hlt:i<L.size:=by rw[hs];exact(List.getElem?_eq_some_iff.1 hr.at').1
 rw[tO hlt,tO hlt];by_cases his:i=s
 ·subst his
  rw[obN,bH rfl]at ho
  have h2:L.getD s2 false=false:=by
   cases hl:L.getD s2 false with
   |false=>rfl
   |true=>
    have hso:l[s2]? =some (l[s2]'(by omega)):=fP (by omega);have:=hd.Cv Zw ⟨_,hso,hd s2 _ hl hso⟩;rw[hr.off]at this;cases this
  rw[hr.off,h2,aU hne];simpa using ho
 ·rw[obN,aU his]at ho
  by_cases hi2:i=s2
  ·subst hi2
   rw[bH rfl]at ho;rw[hr.off,hd.Cv Zw ⟨o,hr.at',hr.qj⟩];simpa using ho
  ·rw[aU hi2]at ho
   rw[aU (show ¬s2=i from fun e=>hi2 e.symm),aU (show ¬s=i from fun e=>his e.symm)];refine ho _ ?_
   split
   ·exact .inr (.inr rfl)
   ·split
    ·exact .inr (.inl rfl)
    ·exact .inl rfl
variable {c:Nat->Value} {i s:Nat} {early:List Nat} {W W1 W2:World} {ρ:Operand->Value} {o:Oper}
theorem lJ.nil{ops:List Oper}{ob:Ob}{fin:Nat->List Value->Prop}{env:List (Nat×Value)}(h:fin i (dK env a0)):lJ ops ob a0 fin c i [] env:=h
theorem bY(his:i≠s)(h:∀W,eP P ρ o W (c i) W):K8 P c s early W W1 i ρ o:=by
 rw[K8,aU his];exact⟨h W,fun _=>h W1⟩
theorem oD(his:i≠s)(he:early.contains i=true)(h:eP P ρ o W (c i) W):K8 P c s early W W1 i ρ o:=by
 rw[K8,aU his];exact⟨h,fun hh=>by rw[he]at hh;cases hh⟩
theorem wu(his:i=s)(h:eP P ρ o W (c i) W1):K8 P c s early W W1 i ρ o:=by
 rw[K8,bH his];exact h
end
end Go.Proofs.YtgboomjahhnldaaGreatDoor
