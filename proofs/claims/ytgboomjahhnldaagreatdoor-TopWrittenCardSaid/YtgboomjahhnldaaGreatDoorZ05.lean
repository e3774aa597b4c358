/- A part of the proof of TopWritten, printed small: DefP TItem SortP SortM9. -/
import Derived.Test.YtgboomjahhnldaaGreatDoorZ04
import Derived.Test.YtgboomjahhnldaaGreatDoorZ02
set_option maxRecDepth 100000
set_option maxHeartbeats 25600000
set_option linter.all false
namespace Go.Proofs.YtgboomjahhnldaaGreatDoor
open Go.Proofs.Tryz Go.RowKit
structure bf where
 a:Int
 i:Int
 n:Int
deriving DecidableEq
def bf.cells(x:bf):List Value:=[.int .i64 x.a,.int .i64 x.i,.int .i64 x.n]
def aM:El prog bf:={t:=143,e:=26,m:=3,bytes:=24,z:=.agg #[.int .i64 0,.int .i64 0,.int .i64 0],E:=bf.cells,hE:=fun _=>rfl,h1:=by simp[bf.cells,Value.oneCell'],ht:=by kernel_rfl,hi:=by kernel_rfl,hz:=rfl,hm:=by decide,hb:=by decide,agg:=true,hagg:=isAgg26}
theorem ade{w:World}{A:Option Addr}{xs:List bf}(h:Sl aM w A xs){k:Nat}(hk:k<xs.length):∃b off,A=some ⟨b,off,none⟩/\b<w.heap.size/\
 w.cell? ⟨b,off+k*3,none⟩=some (.int .i64 xs[k].a)/\w.cell? ⟨b,off+k*3+1,none⟩=some (.int .i64 xs[k].i)/\w.cell? ⟨b,off+k*3+2,none⟩=some (.int .i64 xs[k].n):=by
 obtain⟨b,off,hA,hb,hc⟩:=h.at_ hk;exact⟨b,off,hA,hb,by simpa[aM]using hc 0 _ rfl,hc 1 _ rfl,hc 2 _ rfl⟩
def av.kind:av->Int|.mk _ _ _ k _ _ _ _=>k
def av.label:av->ByteArray|.mk _ _ _ _ l _ _ _=>l
def av.head:av->List aJ|.mk _ _ _ _ _ h _ _=>h
def av.words:av->List aJ|.mk _ _ _ _ _ _ w _=>w
def av.kids:av->List av|.mk _ _ _ _ _ _ _ k=>k
def av.id:av->bf|.mk a i n _ _ _ _ _=>⟨a,i,n⟩
def aB.id(r:aB):bf:=⟨r.a,r.i,r.n⟩
theorem Reads.j5{w:World}{u:av}{r:aB}(h:Reads w u r):r.id=u.id/\r.kind=u.kind/\r.label=u.label/\r.hn=u.head.length/\u.head.length<=r.hc/\Sl aQ w r.hA u.head/\r.wn=u.words.length/\u.words.length<=r.wc/\Sl aQ w r.wA u.words/\
 r.kn=u.kids.length/\u.kids.length<=r.kc/\∃rs,Sl aj w r.kA rs/\ReadsAll w u.kids rs/\rs.length=u.kids.length:=by
 obtain⟨a,i,n,k,l,hd,wd,kids⟩:=u;rw[Reads]at h;obtain⟨⟨h1,h2,h3,h4,h5⟩,⟨h6,h7,h8⟩,⟨h9,h10,h11⟩,h12,CB,rs,Q9,OD⟩:=h;exact⟨by simp[aB.id,av.id,h1,h2,h3],h4,h5,h6,h7,h8,h9,h10,h11,h12,CB,rs,Q9,OD,ReadsAll.length OD⟩
mutual
def bO:av->List av
 |.mk a i n k l hd wd kids=>.mk a i n k l hd wd kids::eO kids
def eO:List av->List av
 |[]=>[]
 |u::us=>bO u++eO us
end
theorem jy(u:av):bO u=u::eO u.kids:=by cases u;rw[bO];rfl
mutual
theorem nW:∀u:av,(bO u).length=cntF u
 |.mk _ _ _ _ _ _ _ kids=>by rw[bO,cntF,iX,Kh kids];omega
theorem Kh:∀us:List av,(eO us).length=bZ us
 |[]=>by rw[eO,bZ];rfl
 |u::us=>by rw[eO,bZ,eu,nW u,Kh us]
end
theorem uP:∀(us vs:List av),eO (us++vs)=eO us++eO vs
 |[],vs=>by rw[eO];rfl
 |u::us,vs=>by rw[jE,eO,eO,uP us vs,dV]
theorem ZF{kids:List av}{k:Nat}(hk:k<kids.length):eO (kids.drop k)=bO kids[k]++eO (kids.drop (k+1)):=by
 rw[iW hk,eO]
theorem OE{kids:List av}{k:Nat}(hk:k<kids.length):eO (kids.take (k+1))=eO (kids.take k)++bO kids[k]:=by
 rw[jk hk,uP,eO,eO,kY]
def Lj(u:av):Prop:=u.label.size<=100/\u.head.length<=300/\u.words.length<=300/\u.kids.length<=1000/\(∀x∈u.head,x.t.size<=100)/\(∀x∈u.words,x.t.size<=100)
structure dI (u:av):Prop where
 all:iD Lj u
 cnt:cntF u<=1000
theorem iD.head{p:av->Prop}{u:av}(h:iD p u):p u:=by
 cases u
 rw[iD]at h;exact h.1
theorem iD.kids{p:av->Prop}{u:av}(h:iD p u):gJ p u.kids:=by
 cases u
 rw[iD]at h;exact h.2
theorem iD.mk'{p:av->Prop}{u:av}(h:p u)(hk:gJ p u.kids):iD p u:=by
 cases u
 rw[iD];exact⟨h,hk⟩
theorem gJ.mem{p:av->Prop}:∀{us:List av},gJ p us->∀x∈us,iD p x
 |u::us,h,x,hx=>by
  rw[gJ]at h;rcases List.mem_cons.1 hx with rfl|hx
  ·exact h.1
  ·exact gJ.mem h.2 x hx
theorem gJ.of{p:av->Prop}:∀{us:List av},(∀x∈us,iD p x)->gJ p us
 |[],_=>by rw[gJ];trivial
 |u::us,h=>by
  rw[gJ];exact⟨h u (by simp),gJ.of fun x hx=>h x (by simp[hx])⟩
theorem Ep:∀{us:List av} {x:av},x∈us->cntF x<=bZ us
 |u::us,x,h=>by
  rw[bZ];rcases List.mem_cons.1 h with rfl|h
  ·omega
  ·have:=Ep h;omega
theorem jR(u:av):cntF u=1+bZ u.kids:=by cases u;rw[cntF];rfl
theorem dI.kid{u x:av}(h:dI u)(hx:x∈u.kids):dI x:=⟨gJ.mem h.all.kids x hx,by
 have h1:=h.cnt;have h2:=Ep hx;rw[jR]at h1;omega⟩
theorem Ra:∀(us:List av) (deep most n:Int),0<=most->n<=pE us deep most n
 |[],deep,most,n,_=>by rw[pE];exact Int.le_refl _
 |u::us,deep,most,n,h=>by
  rw[pE]
  split
  ·have:=Kg u (deep+1) (most-n) (by omega)
   have:=Ra us deep most (n+pz u (deep+1) (most-n)) h;omega
  ·exact Int.le_refl _
mutual
theorem OG:∀(u:av) (deep most:Int),0<=most->pz u deep most<=most->(cntF u:Int)=pz u deep most
 |.mk _ _ _ _ _ _ _ kids,deep,most,h0,h=>by
  rw[pz]at h⊢;rw[cntF]
  split at h
  ·omega
  ·rename_i hd
   rw[aU hd];have:=OH kids deep most 1 h0 h;omega
theorem OH:∀(us:List av) (deep most n:Int),0<=most->pE us deep most n<=most->(bZ us:Int)+n=pE us deep most n
 |[],deep,most,n,_,_=>by rw[pE,bZ];simp
 |u::us,deep,most,n,h0,h=>by
  rw[pE]at h⊢;rw[bZ]
  split at h
  ·rename_i hn
   rw[bH hn];have h1:=Ra us deep most (n+pz u (deep+1) (most-n)) h0;have h2:=OG u (deep+1) (most-n) (by omega) (by omega);have h3:=OH us deep most (n+pz u (deep+1) (most-n)) h0 h;omega
  ·omega
end
mutual
theorem Rb:∀(u:av),nZ u=true->cntF u<=1000->iD Lj u
 |.mk a i n k l hd wd kids,h,hc=>by
  rw[nZ]at h;simp only[Bool.and_eq_true,decide_eq_true_eq]at h;obtain⟨⟨⟨h1,h2⟩,h3⟩,h4⟩:=h;rw[cntF]at hc;have hk:=nV kids;rw[iD];refine⟨⟨bX h1 (by decide),Lh h2,Lh h3,?_,Jq h2,Jq h3⟩,OI kids h4 (by omega)⟩;show kids.length<=1000;omega
theorem OI:∀(us:List av),xG us=true->bZ us<=1000->gJ Lj us
 |[],_,_=>by rw[gJ];trivial
 |u::us,h,hc=>by
  rw[xG,Bool.and_eq_true]at h;rw[bZ]at hc;rw[gJ];exact⟨Rb u h.1 (by omega),OI us h.2 (by omega)⟩
end
theorem Ny{u:av}{m:Int}(h0:0<=m)(h:zQ u m=true):(cntF u:Int)<=m:=by
 rw[zQ,Bool.and_eq_true,decide_eq_true_eq]at h;rw[OG u 0 m h0 h.1];exact h.1
theorem Bu{u:av}{m:Int}(h0:0<=m)(h1:m<=1000)(h:zQ u m=true):dI u:=by
 have hc:=Ny h0 h;rw[zQ,Bool.and_eq_true,decide_eq_true_eq]at h;exact⟨Rb u h.2 (by omega),by omega⟩
def uY(P:Prop)(w:World)(e:Ending)(w':World):Prop:=∃b:Bool,e=.returned (.bool b)/\(b=true->P)/\Ext w w'
def lN(w:World)(e:Ending)(w':World):Prop:=∃b:Bool,e=.returned (.bool b)/\Ext w w'
def gI{α:Type}(q:α->Bool):List α->Nat->Int
 |[],_=> -1
 |x::r,k=>if q x=true then(k:Int)else gI q r (k+1)
theorem zC{α:Type}{q:α->Bool}{l:List α}{k:Nat}(h:k<l.length):gI q (l.drop k) k=if q l[k]=true then(k:Int)else gI q (l.drop (k+1)) (k+1):=by
 rw[iW h,gI]
theorem adf{α:Type}{q:α->Bool}{l:List α}{k:Nat}(h:l.length<=k):gI q (l.drop k) k= -1:=by
 rw[List.drop_of_length_le h,gI]
theorem Ll{α:Type}(q:α->Bool):∀(l:List α) (k:Nat),gI q l k= -1∨∃j:Nat,gI q l k=((k+j:Nat):Int)/\∃h:j<l.length,q l[j]=true
 |[],k=>.inl rfl
 |x::r,k=>by
  rw[gI]
  split
  ·rename_i h;exact .inr ⟨0,by simp,by simp,h⟩
  ·rcases Ll q r (k+1)with h|⟨j,h1,h2,h3⟩
   ·exact .inl h
   ·exact .inr ⟨j+1,by rw[h1];congr 1;omega,by simpa using h2,by simpa using h3⟩
theorem Rc{α:Type}(q:α->Bool):∀(l:List α) (k:Nat),gI q l k<0↔∀x∈l,q x=false
 |[],k=>by simp[gI]
 |x::r,k=>by
  rw[gI]
  split
  ·rename_i h
   simp only[Ed,forall_eq_or_imp,h,Bool.true_eq_false,false_and,iff_false];omega
  ·rename_i h
   rw[Rc q r (k+1)];simp only[Ed,forall_eq_or_imp];simp at h;simp[h]
theorem qO{u:av}{N k:Nat}(hN:SizeOf.sizeOf u<=N+1)(h:k<u.kids.length):SizeOf.sizeOf u.kids[k]<=N:=by
 have a1:=List.sizeOf_lt_of_mem (dW h);have a2:SizeOf.sizeOf u.kids<SizeOf.sizeOf u:=by obtain⟨a,i,n,kk,l,hd,wd,kids⟩:=u;simp[av.kids];omega
 omega
theorem xI{u:av}(h:SizeOf.sizeOf u<=0):False:=by cases u;simp at h
structure rE (b:Nat) (r:aB) (w:World):Prop where
 lt:b<w.heap.size
 c0:w.cell? ⟨b,0,none⟩=some (.int .i64 r.a)
 c1:w.cell? ⟨b,1,none⟩=some (.int .i64 r.i)
 c2:w.cell? ⟨b,2,none⟩=some (.int .i64 r.n)
 c3:w.cell? ⟨b,3,none⟩=some (.int .i64 r.kind)
 c4:w.cell? ⟨b,4,none⟩=some (.string r.label)
 c5:w.cell? ⟨b,5,none⟩=some (.slice r.hA r.hn r.hc)
 c6:w.cell? ⟨b,6,none⟩=some (.slice r.wA r.wn r.wc)
 c7:w.cell? ⟨b,7,none⟩=some (.slice r.kA r.kn r.kc)
theorem rE.new(r:aB)(w:World):rE w.heap.size r (w.alloc (.cells r.cells.toArray 30)):=by
 obtain⟨h0,h1,h2,h3,h4,h5,h6,h7,h8⟩:=I9 r (w:=w) (Ext.refl _);exact⟨h0,h1,h2,h3,h4,h5,h6,h7,h8⟩
theorem rE.ext{b:Nat}{r:aB}{w w':World}(h:rE b r w)(he:Ext w w'):rE b r w':=
 ⟨bQ h.lt he.size,(he.cell (p:=⟨b,0,none⟩) h.lt).trans h.c0,(he.cell (p:=⟨b,1,none⟩) h.lt).trans h.c1,(he.cell (p:=⟨b,2,none⟩) h.lt).trans h.c2,(he.cell (p:=⟨b,3,none⟩) h.lt).trans h.c3,(he.cell (p:=⟨b,4,none⟩) h.lt).trans h.c4,(he.cell (p:=⟨b,5,none⟩) h.lt).trans h.c5,(he.cell (p:=⟨b,6,none⟩) h.lt).trans h.c6,(he.cell (p:=⟨b,7,none⟩) h.lt).trans h.c7⟩
theorem qb{w:World}{A:Option Addr}{xs:List aB}(h:Sl aj w A xs){k:Nat}(hk:k<xs.length){q:aB}(hq:xs[k]=q):∃b off,A=some ⟨b,off,none⟩/\b<w.heap.size/\
 w.cell? ⟨b,off+k*8,none⟩=some (.int .i64 q.a)/\w.cell? ⟨b,off+k*8+1,none⟩=some (.int .i64 q.i)/\w.cell? ⟨b,off+k*8+2,none⟩=some (.int .i64 q.n)/\w.cell? ⟨b,off+k*8+3,none⟩=some (.int .i64 q.kind)/\
 w.cell? ⟨b,off+k*8+4,none⟩=some (.string q.label)/\w.cell? ⟨b,off+k*8+5,none⟩=some (.slice q.hA q.hn q.hc)/\w.cell? ⟨b,off+k*8+6,none⟩=some (.slice q.wA q.wn q.wc)/\w.cell? ⟨b,off+k*8+7,none⟩=some (.slice q.kA q.kn q.kc):=by
 subst hq;exact Gh h hk
theorem rE.t{b:Nat}{r:aB}{w:World}(h:rE b r w):(aK r.cells).p (.pointer (some ⟨b,0,none⟩)) w:=by
 refine⟨b,0,rfl,h.lt,fun j u hj=> ?_⟩;obtain⟨h0,h1,h2,h3,h4,h5,h6,h7,h8⟩:=h;rw[bV];simp only[aB.cells]at hj
 match j with
 |0=>simp at hj;rw[<-hj];exact h1
 |1=>simp at hj;rw[<-hj];exact h2
 |2=>simp at hj;rw[<-hj];exact h3
 |3=>simp at hj;rw[<-hj];exact h4
 |4=>simp at hj;rw[<-hj];exact h5
 |5=>simp at hj;rw[<-hj];exact h6
 |6=>simp at hj;rw[<-hj];exact h7
 |7=>simp at hj;rw[<-hj];exact h8
 |j+8=>simp at hj
def fq{α β:Type}(R:α->β->Prop):List α->List β->Prop
 |[],[]=>True
 |a::xs,b::zs=>R a b/\fq R xs zs
 |[],_::_=>False
 |_::_,[]=>False
section
variable {α β:Type} {R S:α->β->Prop}
theorem fq.length:∀{xs:List α} {zs:List β},fq R xs zs->zs.length=xs.length
 |[],[],_=>rfl
 |a::xs,b::zs,h=>by simp[fq.length h.2]
 |[],_::_,h=>h.elim
 |_::_,[],h=>h.elim
theorem fq.get:∀{xs:List α} {zs:List β},fq R xs zs->∀(k:Nat) (h1:k<xs.length) (h2:k<zs.length),R xs[k] zs[k]
 |a::xs,b::zs,h,0,_,_=>h.1
 |a::xs,b::zs,h,k+1,h1,h2=>fq.get h.2 k (by simpa using h1) (by simpa using h2)
theorem fq.snoc:∀{xs:List α} {zs:List β} {a:α} {b:β},fq R xs zs->R a b->fq R (xs++[a]) (zs++[b])
 |[],[],_,_,_,h=>⟨h,trivial⟩
 |_::_,_::_,_,_,h,h2=>⟨h.1,fq.snoc h.2 h2⟩
 |[],_::_,_,_,h,_=>h.elim
 |_::_,[],_,_,h,_=>h.elim
theorem fq.append:∀{xs cs:List α} {zs ds:List β},fq R xs zs->fq R cs ds->fq R (xs++cs) (zs++ds)
 |[],_,[],_,_,h=>h
 |_::_,_,_::_,_,h,h2=>⟨h.1,fq.append h.2 h2⟩
 |[],_,_::_,_,h,_=>h.elim
 |_::_,_,[],_,h,_=>h.elim
theorem fq.mono(hRS:∀a b,R a b->S a b):∀{xs:List α} {zs:List β},fq R xs zs->fq S xs zs
 |[],[],_=>trivial
 |_::_,_::_,h=>⟨hRS _ _ h.1,fq.mono hRS h.2⟩
 |[],_::_,h=>h.elim
 |_::_,[],h=>h.elim
theorem fq.mem_right:∀{xs:List α} {zs:List β},fq R xs zs->∀b∈zs,∃a∈xs,R a b
 |[],[],_,b,hb=>by simp at hb
 |a::xs,c::zs,h,b,hb=>by
  rcases List.mem_cons.1 hb with rfl|hb
  ·exact⟨a,by simp,h.1⟩
  ·obtain⟨x,hx,hr⟩:=fq.mem_right h.2 b hb
   exact⟨x,by simp[hx],hr⟩
 |[],_::_,h,_,_=>h.elim
 |_::_,[],h,_,_=>h.elim
end
structure GStep where
 k:Int
 l:ByteArray
deriving DecidableEq
def GStep.cells(x:GStep):List Value:=[.int .i64 x.k,.string x.l]
def dG:El prog GStep:={t:=36,e:=75,m:=2,bytes:=24,z:=.agg #[.int .i64 0,.string ByteArray.empty],E:=GStep.cells,hE:=fun _=>rfl,h1:=by simp[GStep.cells,Value.oneCell'],ht:=by kernel_rfl,hi:=by kernel_rfl,hz:=rfl,hm:=by decide,hb:=by decide,agg:=true,hagg:=isAgg75}
structure bE where
 kind:Int
 aA:Option Addr
 aN:Nat
 aC:Nat
 bA:Option Addr
 bN:Nat
 bC:Nat
 wh:Int
 nth:Int
 u:aB
 oA:Option Addr
 oN:Nat
 oC:Nat
 nA:Option Addr
 nN:Nat
 nC:Nat
 label:ByteArray
 fr:ByteArray
 sk:Int
 sd:Int
 se:ByteArray
 act:Int
 item:Int
 day:Int
 ev:ByteArray
 yA:Option Addr
 yN:Nat
 yC:Nat
def bE.cells(r:bE):List Value:=[.int .i64 r.kind,.slice r.aA r.aN r.aC,.slice r.bA r.bN r.bC,.int .i64 r.wh,.int .i64 r.nth,
 .int .i64 r.u.a,.int .i64 r.u.i,.int .i64 r.u.n,.int .i64 r.u.kind,.string r.u.label,.slice r.u.hA r.u.hn r.u.hc,.slice r.u.wA r.u.wn r.u.wc,.slice r.u.kA r.u.kn r.u.kc,
 .slice r.oA r.oN r.oC,.slice r.nA r.nN r.nC,.string r.label,.string r.fr,.int .i64 r.sk,.int .i64 r.sd,.string r.se,.int .i64 r.act,.int .i64 r.item,.int .i64 r.day,.string r.ev,.slice r.yA r.yN r.yC]
def Qy:List Value:=[.int .i64 0,.slice none 0 0,.slice none 0 0,.int .i64 0,.int .i64 0,
 .int .i64 0,.int .i64 0,.int .i64 0,.int .i64 0,.string ByteArray.empty,.slice none 0 0,.slice none 0 0,.slice none 0 0,
 .slice none 0 0,.slice none 0 0,.string ByteArray.empty,.string ByteArray.empty,.int .i64 0,.int .i64 0,.string ByteArray.empty,.int .i64 0,.int .i64 0,.int .i64 0,.string ByteArray.empty,.slice none 0 0]
def aT:El prog bE:={t:=40,e:=42,m:=25,bytes:=368,z:=.agg Qy.toArray,E:=bE.cells,hE:=fun _=>rfl,h1:=by simp[bE.cells,Value.oneCell'],ht:=by kernel_rfl,hi:=by kernel_rfl,hz:=rfl,hm:=by decide,hb:=by decide,agg:=true,hagg:=isAgg42}
structure qo where
 kind:Int
 at_:List GStep
 oV:List GStep
 wh:Int
 nth:Int
 unit:av
 old:List ByteArray
 iE:List ByteArray
 label:ByteArray
 for_:ByteArray
 sk:Int
 sd:Int
 se:ByteArray
 act:Int
 item:Int
 day:Int
 ev:ByteArray
inductive fM where
 |mk (x:qo) (sK:List fM)
def fM.x:fM->qo|.mk x _=>x
def fM.sK:fM->List fM|.mk _ y=>y
structure gF (w:World) (x:qo) (r:bE):Prop where
 kind:r.kind=x.kind
 aN:r.aN=x.at_.length
 aC:x.at_.length<=r.aC
 aS:Sl dG w r.aA x.at_
 bN:r.bN=x.oV.length
 bC:x.oV.length<=r.bC
 bS:Sl dG w r.bA x.oV
 wh:r.wh=x.wh
 nth:r.nth=x.nth
 unit:Reads w x.unit r.u
 oN:r.oN=x.old.length
 oC:x.old.length<=r.oC
 oS:Sl bP w r.oA x.old
 nN:r.nN=x.iE.length
 nC:x.iE.length<=r.nC
 nS:Sl bP w r.nA x.iE
 label:r.label=x.label
 fr:r.fr=x.for_
 sk:r.sk=x.sk
 sd:r.sd=x.sd
 se:r.se=x.se
 act:r.act=x.act
 item:r.item=x.item
 day:r.day=x.day
 ev:r.ev=x.ev
theorem gF.cin{w w':World}{x:qo}{r:bE}(he:aZ w w')(h:gF w x r):gF w' x r:=
 {h with aS:=h.aS.cin he,bS:=h.bS.cin he,unit:=Reads.cin he _ _ h.unit,oS:=h.oS.cin he,nS:=h.nS.cin he}
mutual
def eZ(w:World):fM->bE->Prop
 |.mk x ys,r=>gF w x r/\r.yN=ys.length/\ys.length<=r.yC/\∃rs,Sl aT w r.yA rs/\jc w ys rs
def jc(w:World):List fM->List bE->Prop
 |[],[]=>True
 |y::ys,r::rs=>eZ w y r/\jc w ys rs
 |[],_::_=>False
 |_::_,[]=>False
end
theorem jc.all2{w:World}:∀{ys:List fM} {rs:List bE},jc w ys rs->fq (eZ w) ys rs
 |[],[],_=>trivial
 |y::ys,r::rs,h=>by rw[jc]at h;exact⟨h.1,jc.all2 h.2⟩
 |[],_::_,h=>by rw[jc]at h;exact h
 |_::_,[],h=>by rw[jc]at h;exact h
theorem jc.V6{w:World}:∀{ys:List fM} {rs:List bE},fq (eZ w) ys rs->jc w ys rs
 |[],[],_=>by rw[jc];trivial
 |y::ys,r::rs,h=>by rw[jc];exact⟨h.1,jc.V6 h.2⟩
 |[],_::_,h=>by rw[jc];exact h
 |_::_,[],h=>by rw[jc];exact h
mutual
theorem eZ.cin{w w':World}(he:aZ w w'):∀(y:fM) (r:bE),eZ w y r->eZ w' y r
 |.mk x ys,r,h=>by
  rw[eZ]at h⊢;obtain⟨h1,h2,h3,rs,h4,h5⟩:=h;exact⟨h1.cin he,h2,h3,rs,h4.cin he,jc.cin he ys rs h5⟩
theorem jc.cin{w w':World}(he:aZ w w'):∀(ys:List fM) (rs:List bE),jc w ys rs->jc w' ys rs
 |[],[],_=>by rw[jc];trivial
 |y::ys,r::rs,h=>by
  rw[jc]at h⊢;exact⟨eZ.cin he y r h.1,jc.cin he ys rs h.2⟩
 |[],_::_,h=>by rw[jc]at h;exact h.elim
 |_::_,[],h=>by rw[jc]at h;exact h.elim
end
theorem eZ.ext{w w':World}(he:Ext w w')(y:fM)(r:bE)(h:eZ w y r):eZ w' y r:=eZ.cin (aZ.dH he) y r h
theorem eZ.it{w:World}{y:fM}{r:bE}(h:eZ w y r):gF w y.x r:=by
 obtain⟨x,ys⟩:=y;rw[eZ]at h;exact h.1
theorem eZ.ys{w:World}{y:fM}{r:bE}(h:eZ w y r):r.yN=y.sK.length/\y.sK.length<=r.yC/\∃rs,Sl aT w r.yA rs/\fq (eZ w) y.sK rs:=by
 obtain⟨x,ys⟩:=y;rw[eZ]at h;obtain⟨-,h2,h3,rs,h4,h5⟩:=h;exact⟨h2,h3,rs,h4,h5.all2⟩
theorem eZ.of{w:World}{y:fM}{r:bE}(h:gF w y.x r)(h2:r.yN=y.sK.length)(h3:y.sK.length<=r.yC){rs:List bE}(h4:Sl aT w r.yA rs)(h5:fq (eZ w) y.sK rs):eZ w y r:=by
 obtain⟨x,ys⟩:=y;rw[eZ];exact⟨h,h2,h3,rs,h4,jc.V6 h5⟩
def Ja(w:World)(A:Option Addr)(ys:List fM):Prop:=∃rs,Sl aT w A rs/\fq (eZ w) ys rs
theorem Ja.cin{w w':World}(he:aZ w w'){A:Option Addr}{ys:List fM}(h:Ja w A ys):Ja w' A ys:=by
 obtain⟨rs,h1,h2⟩:=h;exact⟨rs,h1.cin he,h2.mono fun a b h=>eZ.cin he a b h⟩
structure dY where
 act:Int
 item:Int
 day:Int
 it:bE
def dY.cells(r:dY):List Value:=.int .i64 r.act:: .int .i64 r.item:: .int .i64 r.day::r.it.cells
def bF:El prog dY:={t:=33,e:=44,m:=28,bytes:=392,z:=.agg (Value.int .i64 0:: .int .i64 0:: .int .i64 0::Qy).toArray,E:=dY.cells,hE:=fun _=>rfl,h1:=by simp[dY.cells,bE.cells,Value.oneCell'],ht:=by kernel_rfl,hi:=by kernel_rfl,hz:=rfl,hm:=by decide,hb:=by decide,agg:=true,hagg:=isAgg44}
structure dn where
 act:Int
 item:Int
 day:Int
 it:fM
structure fH (w:World) (d:dn) (r:dY):Prop where
 act:r.act=d.act
 item:r.item=d.item
 day:r.day=d.day
 it:eZ w d.it r.it
theorem fH.cin{w w':World}(he:aZ w w'){d:dn}{r:dY}(h:fH w d r):fH w' d r:=⟨h.act,h.item,h.day,eZ.cin he _ _ h.it⟩
theorem fH.ext{w w':World}(he:Ext w w'){d:dn}{r:dY}(h:fH w d r):fH w' d r:=h.cin (aZ.dH he)
structure bM where
 number:Int
 title:ByteArray
 day:Int
 sk:Int
 sd:Int
 se:ByteArray
 iA:Option Addr
 iN:Nat
 iC:Nat
def bM.cells(r:bM):List Value:=[.int .i64 r.number,.string r.title,.int .i64 r.day,.int .i64 r.sk,.int .i64 r.sd,.string r.se,.slice r.iA r.iN r.iC]
def eB:El prog bM:={t:=62,e:=67,m:=7,bytes:=88,z:=.agg #[.int .i64 0,.string ByteArray.empty,.int .i64 0,.int .i64 0,.int .i64 0,.string ByteArray.empty,.slice none 0 0],E:=bM.cells,hE:=fun _=>rfl,h1:=by simp[bM.cells,Value.oneCell'],ht:=by kernel_rfl,hi:=by kernel_rfl,hz:=rfl,hm:=by decide,hb:=by decide,agg:=true,hagg:=isAgg67}
structure bn where
 number:Int
 title:ByteArray
 day:Int
 sk:Int
 sd:Int
 se:ByteArray
 items:List fM
structure kS (w:World) (a:bn) (r:bM):Prop where
 number:r.number=a.number
 title:r.title=a.title
 day:r.day=a.day
 sk:r.sk=a.sk
 sd:r.sd=a.sd
 se:r.se=a.se
 iN:r.iN=a.items.length
 iC:a.items.length<=r.iC
 it:Ja w r.iA a.items
theorem kS.cin{w w':World}(he:aZ w w'){d:bn}{r:bM}(h:kS w d r):kS w' d r:={h with it:=h.it.cin he}
theorem kS.ext{w w':World}(he:Ext w w'){d:bn}{r:bM}(h:kS w d r):kS w' d r:=h.cin (aZ.dH he)
structure nX where
 number:Int
 day:Int
 prior:ByteArray
 aA:Option Addr
 aN:Nat
 aC:Nat
def nX.cells(r:nX):List Value:=[.int .i64 r.number,.int .i64 r.day,.string r.prior,.slice r.aA r.aN r.aC]
def lW:El prog nX:={t:=22,e:=77,m:=4,bytes:=56,z:=.agg #[.int .i64 0,.int .i64 0,.string ByteArray.empty,.slice none 0 0],E:=nX.cells,hE:=fun _=>rfl,h1:=by simp[nX.cells,Value.oneCell'],ht:=by kernel_rfl,hi:=by kernel_rfl,hz:=rfl,hm:=by decide,hb:=by decide,agg:=true,hagg:=isAgg77}
structure jJ where
 number:Int
 day:Int
 prior:ByteArray
 acts:List bn
structure jZ (w:World) (g:jJ) (r:nX):Prop where
 number:r.number=g.number
 day:r.day=g.day
 prior:r.prior=g.prior
 aN:r.aN=g.acts.length
 aC:g.acts.length<=r.aC
 a:∃rs,Sl eB w r.aA rs/\fq (kS w) g.acts rs
theorem jZ.cin{w w':World}(he:aZ w w'){g:jJ}{r:nX}(h:jZ w g r):jZ w' g r:=by
 obtain⟨rs,h1,h2⟩:=h.a;exact {h with a:=⟨rs,h1.cin he,h2.mono fun a b h=>kS.cin he h⟩}
theorem jZ.ext{w w':World}(he:Ext w w'){d:jJ}{r:nX}(h:jZ w d r):jZ w' d r:=h.cin (aZ.dH he)
section
variable {α:Type} {lt:α->α->Bool}
structure Wk (lt:α->α->Bool):Prop where
 Lm:∀x,lt x x=false
 tr:∀x y z,lt x y=true->lt y z=true->lt x z=true
 nt:∀x y z,lt x y=false->lt y z=false->lt x z=false
theorem Wk.asy(h:Wk lt){x y:α}(hxy:lt x y=true):lt y x=false:=by
 cases hyx:lt y x with
 |false=>rfl
 |true=>have:=h.tr x y x hxy hyx;rw[h.Lm]at this;cases this
def fA(lt:α->α->Bool)(l:List α):Prop:=l.Pairwise fun x y=>lt y x=false
def eqv(lt:α->α->Bool)(x y:α):Bool:= !lt x y&& !lt y x
structure SO (lt:α->α->Bool) (l l':List α):Prop where
 cls:∀z,l.filter (eqv lt z)=l'.filter (eqv lt z)
 perm:l.Perm l'
theorem SO.refl(l:List α):SO lt l l:=⟨fun _=>rfl,.refl _⟩
theorem SO.symm{l l':List α}(h:SO lt l l'):SO lt l' l:=⟨fun z=>(h.cls z).symm,h.perm.symm⟩
theorem SO.trans{a b c:List α}(h:SO lt a b)(k:SO lt b c):SO lt a c:=⟨fun z=>(h.cls z).trans (k.cls z),h.perm.trans k.perm⟩
theorem SO.append{a a' b b':List α}(h:SO lt a a')(k:SO lt b b'):SO lt (a++b) (a'++b'):=⟨fun z=>by rw[List.filter_append,List.filter_append,h.cls,k.cls],h.perm.append k.perm⟩
theorem OJ{x y:α}(h:eqv lt x y=true):lt x y=false/\lt y x=false:=by simpa[eqv]using h
theorem SO.swap(hw:Wk lt){X Y:List α}(h:∀x∈X,∀y∈Y,lt y x=true):SO lt (X++Y) (Y++X):=by
 refine⟨fun z=> ?_,List.perm_append_comm⟩;rw[List.filter_append,List.filter_append];by_cases hX:∃x∈X,eqv lt z x=true
 ·obtain⟨x,hx,hz⟩:=hX
  have:Y.filter (eqv lt z)=[]:=by
   rw[List.filter_eq_nil_iff];intro y hy hzy;obtain⟨a1,a2⟩:=OJ hz;obtain⟨b1,b2⟩:=OJ hzy;have:=hw.nt y z x b2 a1;rw[h x hx y hy]at this;cases this
  rw[this];simp
 ·have:X.filter (eqv lt z)=[]:=by
   rw[List.filter_eq_nil_iff];intro x hx hz;exact hX ⟨x,hx,hz⟩
  rw[this];simp
theorem fA.uniq(hw:Wk lt):∀{l l':List α},fA lt l->fA lt l'->SO lt l l'->l=l'
 |[],l',_,_,h=>by have:=h.perm.length_eq;simp at this;exact(kM this.symm).symm
 |x::t,[],_,_,h=>by have:=h.perm.length_eq;simp at this
 |x::t,y::t',hl,hl',h=>by
  have hl:=List.pairwise_cons.1 hl;have hl':=List.pairwise_cons.1 hl';have hx:x∈y::t':=h.perm.mem_iff.1 (by simp);have hy:y∈x::t:=h.perm.mem_iff.2 (by simp)
  have h1:lt x y=false:=by
   rcases List.mem_cons.1 hx with rfl|hx
   ·exact hw.Lm x
   ·exact hl'.1 x hx
  have h2:lt y x=false:=by
   rcases List.mem_cons.1 hy with rfl|hy
   ·exact hw.Lm y
   ·exact hl.1 y hy
  have e1:eqv lt x x=true:=by simp[eqv,hw.Lm]
  have e2:eqv lt x y=true:=by simp[eqv,h1,h2]
  have hc:=h.cls x;rw[List.filter_cons_of_pos e1,List.filter_cons_of_pos e2]at hc;have hxy:x=y:=by simpa using(List.cons.inj hc).1
  subst hxy
  have hc2:∀z,t.filter (eqv lt z)=t'.filter (eqv lt z):=by
   intro z;have:=h.cls z;by_cases hz:eqv lt z x=true
   ·rw[List.filter_cons_of_pos hz,List.filter_cons_of_pos hz]at this
    exact(List.cons.inj this).2
   ·rw[List.filter_cons_of_neg hz,List.filter_cons_of_neg hz]at this
    exact this
  rw[fA.uniq hw hl.2 hl'.2 ⟨hc2,List.perm_cons x|>.1 h.perm⟩]
theorem fA.append{X Y:List α}(h1:fA lt X)(h2:fA lt Y)(h3:∀x∈X,∀y∈Y,lt y x=false):fA lt (X++Y):=List.pairwise_append.2 ⟨h1,h2,h3⟩
theorem fA.left{X Y:List α}(h:fA lt (X++Y)):fA lt X:=(List.pairwise_append.1 h).1
theorem fA.right{X Y:List α}(h:fA lt (X++Y)):fA lt Y:=(List.pairwise_append.1 h).2.1
theorem fA.across{X Y:List α}(h:fA lt (X++Y)):∀x∈X,∀y∈Y,lt y x=false:=(List.pairwise_append.1 h).2.2
theorem fA.one(x:α):fA lt [x]:=List.pairwise_singleton _ _
theorem fA.nil:fA lt ([]:List α):=List.Pairwise.nil
theorem Jr(hw:Wk lt){L1 L2 R1 R2 M1 M2:List α}(hL:fA lt (L1++L2))(hR:fA lt (R1++R2))(h1:∀r∈R1,∀l∈L2,lt r l=true)(h2:∀l∈L1,∀r∈R2,lt r l=false)
 (m1:SO lt (L1++R1) M1) (m2:SO lt (L2++R2) M2) (s1:fA lt M1) (s2:fA lt M2):fA lt (M1++M2)/\SO lt ((L1++L2)++(R1++R2)) (M1++M2):=by
 refine⟨s1.append s2 fun x hx y hy=> ?_,?_⟩
 ·have hx:=m1.perm.mem_iff.2 hx
  have hy:=m2.perm.mem_iff.2 hy;rcases List.mem_append.1 hx with hx|hx<;>rcases List.mem_append.1 hy with hy|hy
  ·exact hL.across x hx y hy
  ·exact h2 x hx y hy
  ·exact hw.asy (h1 x hx y hy)
  ·exact hR.across x hx y hy
 ·refine SO.trans ?_ (m1.append m2)
  have e1:(L1++L2)++(R1++R2)=L1++((L2++R1)++R2):=by simp
  have e2:L1++R1++(L2++R2)=L1++((R1++L2)++R2):=by simp
  rw[e1,e2];exact(SO.refl _).append ((SO.swap hw fun l hl r hr=>h1 r hr l hl).append (.refl _))
theorem Ki(hw:Wk lt){B1 B2:List α}{x:α}(hM:fA lt (B1++B2))(h1:∀y∈B1,lt x y=false)(h2:∀y∈B2,lt x y=true):fA lt (B1++x::B2)/\SO lt (B1++B2++[x]) (B1++x::B2):=by
 refine⟨hM.left.append (List.pairwise_cons.2 ⟨fun y hy=>hw.asy (h2 y hy),hM.right⟩) fun y hy z hz=> ?_,?_⟩
 ·rcases List.mem_cons.1 hz with rfl|hz
  ·exact h1 y hy
  ·exact hM.across y hy z hz
 ·rw[dV]
  exact(SO.refl _).append (SO.swap hw fun y hy z hz=>by simp at hz;subst hz;exact h2 y hy)
theorem adg(hw:Wk lt){B1:List α}{x y:α}(hM:fA lt (B1++[y]))(h:lt x y=false):∀z∈B1++[y],lt x z=false:=by
 intro z hz;rcases List.mem_append.1 hz with hz|hz
 ·exact hw.nt x y z h (hM.across z hz y (by simp))
 ·simp at hz;subst hz;exact h
theorem Kj(A B:List α)(x y:α):((A++x::y::B).set A.length y).set (A.length+1) x=A++y::x::B:=by
 simp[List.set_append]
theorem adh(A B C:List α)(x y:α):((A++x::(B++y::C)).set A.length y).set (A.length+1+B.length) x=A++y::(B++x::C):=by
 rw[List.set_append_right _ _ (aI _),Nat.sub_self,List.set_cons_zero,List.set_append_right _ _ (by omega),show A.length+1+B.length-A.length=B.length+1 from by omega,List.set_cons_succ,List.set_append_right _ _ (aI _),Nat.sub_self,List.set_cons_zero]
theorem Xi{P X Y Z S:List α}(ZG:X.length=Z.length){t:Nat}(ht:t<X.length):
 let xs:=P++Z.take t++X.drop t++Y++X.take t++Z.drop t++S
 ∃x z,xs[P.length+t]? =some x/\xs[P.length+X.length+Y.length+t]? =some z/\(xs.set (P.length+t) z).set (P.length+X.length+Y.length+t) x=P++Z.take (t+1)++X.drop (t+1)++Y++X.take (t+1)++Z.drop (t+1)++S:=by
 intro xs;have htz:t<Z.length:=by omega
 have e1:xs=(P++Z.take t)++X[t]::((X.drop (t+1)++Y++X.take t)++Z[t]::(Z.drop (t+1)++S)):=by
  show P++Z.take t++X.drop t++Y++X.take t++Z.drop t++S=_;rw[iW ht,iW htz];simp only[dV,jE]
 have l1:(P++Z.take t).length=P.length+t:=by simp;omega
 have l2:(X.drop (t+1)++Y++X.take t).length+(t+1)=X.length+Y.length+t:=by simp;omega
 have l3:P.length+X.length+Y.length+t=(P++Z.take t).length+1+(X.drop (t+1)++Y++X.take t).length:=by omega
 refine⟨X[t],Z[t],?_,?_,?_⟩
 ·rw[e1,<-l1,nJ (aI _),Nat.sub_self];rfl
 ·rw[e1,l3,nJ (by omega),show(P++Z.take t).length+1+(X.drop (t+1)++Y++X.take t).length-(P++Z.take t).length=(X.drop (t+1)++Y++X.take t).length+1 from by omega,List.getElem?_cons_succ,nJ (aI _),Nat.sub_self];rfl
 ·rw[e1,l3,<-l1,adh]
  have t1:Z.take (t+1)=Z.take t++[Z[t]]:=by rw[jk htz]
  have t2:X.take (t+1)=X.take t++[X[t]]:=by rw[jk ht]
  rw[t1,t2];simp only[dV,jE,jW]
theorem yQ(A L R:List α)(k:Nat)(hk:k<L.length):(A++L++R)[A.length+k]? =some L[k]:=by
 rw[dV,nJ (by omega),Nat.add_sub_cancel_left,Ef hk,fP hk]
def SI(lt:α->α->Bool)(xs:List α)(a b:Nat):Prop:=∀k k' y y',a<=k->k<k'->k'<b->xs[k]? =some y->xs[k']? =some y'->lt y' y=false
theorem SI.of{A L R:List α}(h:fA lt L):SI lt (A++L++R) A.length (A.length+L.length):=by
 intro k k' y y' h1 h2 h3 h4 h5;obtain⟨i,rfl⟩:∃i,k=A.length+i:=⟨k-A.length,by omega⟩;obtain⟨j,rfl⟩:∃j,k'=A.length+j:=⟨k'-A.length,by omega⟩;rw[yQ A L R i (by omega)]at h4;rw[yQ A L R j (by omega)]at h5;cases h4
 cases h5
 exact List.pairwise_iff_getElem.1 h i j (by omega) (by omega) (by omega)
theorem SI.le(hw:Wk lt){xs:List α}{a b k k':Nat}{y y':α}(h:SI lt xs a b)(h1:a<=k)(h2:k<=k')(h3:k'<b)(h4:xs[k]? =some y)(h5:xs[k']? =some y'):lt y' y=false:=by
 rcases gM k k' with hlt|hge
 ·exact h k k' y y' h1 hlt h3 h4 h5
 ·have:k=k':=by omega
  subst this;rw[h4]at h5;cases h5
  exact hw.Lm y
structure Bs (p:Nat->Bool) (lo hi i j:Nat):Prop where
 h1:lo<=i
 h2:i<=j
 h3:j<=hi
 low:∀k,lo<=k->k<i->p k=true
 high:∀k,j<=k->k<hi->p k=false
theorem Bs.start{p:Nat->Bool}{lo hi:Nat}(h:lo<=hi):Bs p lo hi lo hi:=⟨aI _,h,aI _,fun k h1 h2=>by omega,fun k h1 h2=>by omega⟩
theorem Bs.up{p:Nat->Bool}{lo hi i j h:Nat}(mono:∀k k',lo<=k->k<=k'->k'<hi->p k'=true->p k=true)(b:Bs p lo hi i j)(h1:i<=h)(h2:h<j)(hp:p h=true):Bs p lo hi (h+1) j:=
 ⟨by have:=b.h1;omega,by omega,b.h3,fun k h3 h4=>mono k h h3 (by omega) (by have:=b.h3;omega) hp,b.high⟩
theorem Bs.down{p:Nat->Bool}{lo hi i j h:Nat}(mono:∀k k',lo<=k->k<=k'->k'<hi->p k'=true->p k=true)(b:Bs p lo hi i j)(h1:i<=h)(h2:h<j)(hp:p h=false):Bs p lo hi i h:=by
 refine⟨b.h1,h1,by have:=b.h3;omega,b.low,fun k h3 h4=> ?_⟩;cases hk:p k with
 |false=>rfl
 |true=>rw[mono h k (by have:=b.h1;omega) h3 h4 hk]at hp;cases hp
def Bv(f:α->Bool)(o:Option α):Bool:=match o with|some y=>f y|none=>false
def at2(f:α->α->Bool)(o q:Option α):Bool:=match o,q with|some y,some z=>f y z|_,_=>false
theorem Jb{f:α->Bool}{b:Bool}{A L R:List α}{lo hi:Nat}(h1:A.length<=lo)(h2:hi<=A.length+L.length)(h:∀k,lo<=k->k<hi->Bv f (A++L++R)[k]? =b):∀y∈(L.take (hi-A.length)).drop (lo-A.length),f y=b:=by
 intro y hy;obtain⟨i,hi',rfl⟩:=List.getElem_of_mem hy;have hi2:=hi';simp only[jV,fu]at hi2;have:=h (A.length+(lo-A.length+i)) (by omega) (by omega);rw[yQ A L R _ (by omega)]at this;simpa[Bv]using this
theorem qX{xs:List α}{k:Nat}(h:k<xs.length):xs[k]? =some xs[k]:=fP h
theorem adi(hw:Wk lt){xs:List α}{lo hi:Nat}(hs:SI lt xs lo hi)(hx:hi<=xs.length)(X:α):∀k k',lo<=k->k<=k'->k'<hi->Bv (fun y=>lt y X) xs[k']? =true->Bv (fun y=>lt y X) xs[k]? =true:=by
 intro k k' h1 h2 h3 h4;have e1:=qX (xs:=xs) (k:=k) (by omega);have e2:=qX (xs:=xs) (k:=k') (by omega);have h5:=hs.le hw h1 h2 h3 e1 e2;rw[e2]at h4;rw[e1];simp only[Bv]at h4⊢;cases h:lt xs[k] X with
 |true=>rfl
 |false=>rw[hw.nt _ _ _ h5 h]at h4;cases h4
theorem adj(hw:Wk lt){xs:List α}{lo hi:Nat}(hs:SI lt xs lo hi)(hx:hi<=xs.length)(Y:α):∀k k',lo<=k->k<=k'->k'<hi->Bv (fun z=> !lt Y z) xs[k']? =true->Bv (fun z=> !lt Y z) xs[k]? =true:=by
 intro k k' h1 h2 h3 h4;have e1:=qX (xs:=xs) (k:=k) (by omega);have e2:=qX (xs:=xs) (k:=k') (by omega);have h5:=hs.le hw h1 h2 h3 e1 e2;rw[e2]at h4;rw[e1];simp only[Bv,Bool.not_eq_true']at h4⊢;exact hw.nt _ _ _ h4 h5
theorem OL(hw:Wk lt){xs:List α}{a m b lo hi pp:Nat}(hs1:SI lt xs a m)(hs2:SI lt xs m b)(hx:b<=xs.length)(h1:a<=lo)(h2:hi<=m)(h3:∀c,lo<=c->c<hi->c<=pp/\m<=pp-c/\pp-c<b):
 ∀k k',lo<=k->k<=k'->k'<hi->at2 (fun u v=> !lt u v) xs[pp-k']? xs[k']? =true->at2 (fun u v=> !lt u v) xs[pp-k]? xs[k]? =true:=by
 intro k k' h4 h5 h6 h7;have b1:=h3 k h4 (by omega);have b2:=h3 k' (by omega) h6;have hmb:m<=b:=by omega
 have e1:=qX (xs:=xs) (k:=k) (by omega);have e2:=qX (xs:=xs) (k:=k') (by omega);have e3:=qX (xs:=xs) (k:=pp-k) (by omega);have e4:=qX (xs:=xs) (k:=pp-k') (by omega);have f1:=hs1.le hw (by omega) h5 (by omega) e1 e2;have f2:=hs2.le hw b2.2.1 (by omega) b1.2.2 e4 e3;rw[e2,e4]at h7;rw[e1,e3];simp only[at2,Bool.not_eq_true']at h7⊢;exact hw.nt _ _ _ (hw.nt _ _ _ f2 h7) f1
theorem ZH(hw:Wk lt){R1 R2:List α}{x:α}(hR:fA lt (R1++R2))(h1:∀y∈R1,lt y x=true)(h2:∀y∈R2,lt y x=false):fA lt (R1++x::R2)/\SO lt ([x]++(R1++R2)) (R1++x::R2):=by
 refine⟨hR.left.append (List.pairwise_cons.2 ⟨h2,hR.right⟩) fun y hy z hz=> ?_,?_⟩
 ·rcases List.mem_cons.1 hz with rfl|hz
  ·exact hw.asy (h1 y hy)
  ·exact hR.across y hy z hz
 ·rw[<-dV,show R1++x::R2=(R1++[x])++R2 by simp]
  exact(SO.swap hw fun z hz y hy=>by simp at hz;subst hz;exact h1 y hy).append (SO.refl _)
theorem ahN(hw:Wk lt){L R xs:List α}{a m b mid lo hi s e pp:Nat}(hL:fA lt L)(hR:fA lt R)(lL:L.length=m-a)(lR:R.length=b-m)(qP:a<m)(hmb:m<b)
 (gL:∀j (h:j<L.length),xs[a+j]? =some L[j]) (gR:∀i (h:i<R.length),xs[m+i]? =some R[i])
 (hp:pp+1=mid+m) (hs:s+e=mid+m) (h1:lo<=s) (h2:s<=hi) (hsm:s<=mid) (has:a<=s) (aix:s<=m) (heb:e<=b)
 (low:∀k,lo<=k->k<s->at2 (fun u v=> !lt u v) xs[pp-k]? xs[k]? =true) (high:∀k,s<=k->k<hi->at2 (fun u v=> !lt u v) xs[pp-k]? xs[k]? =false)
 (hc:(lo=mid+m-b/\hi=mid)∨(lo=a/\hi=m)):
 (∀r∈R.take (e-m),∀l∈L.drop (s-a),lt r l=true)/\(∀l∈L.take (s-a),∀r∈R.drop (e-m),lt r l=false):=by
 have pL:=fun i j (h:i<j) (hj:j<L.length)=>List.pairwise_iff_getElem.1 hL i j (by omega) hj h;have pR:=fun i j (h:i<j) (hj:j<R.length)=>List.pairwise_iff_getElem.1 hR i j (by omega) hj h
 have leL:∀i j (hi:i<L.length) (hj:j<L.length),i<=j->lt L[j] L[i]=false:=fun i j hi hj h=>by
  rcases gM i j with h'|h'
  ·exact pL i j h' hj
  ·have:i=j:=by omega
   subst this;exact hw.Lm _
 have leR:∀i j (hi:i<R.length) (hj:j<R.length),i<=j->lt R[j] R[i]=false:=fun i j hi hj h=>by
  rcases gM i j with h'|h'
  ·exact pR i j h' hj
  ·have:i=j:=by omega
   subst this;exact hw.Lm _
 refine⟨fun r hr l hl=> ?_,fun l hl r hr=> ?_⟩
 ·obtain⟨i,hi',rfl⟩:=List.getElem_of_mem hr
  obtain⟨j,hj',rfl⟩:=List.getElem_of_mem hl;simp only[fu,jV]at hi' hj';simp only[List.getElem_take,List.getElem_drop];rcases gM s hi with hsh|hsh
  ·have h3:=high s (aI _) hsh
   have e1:pp-s=m+(e-1-m):=by omega
   have e2:s=a+(s-a):=by omega
   rw[e1,gR _ (by omega)]at h3;rw[show xs[s]? =some (L[s-a]'(by omega))from by have:=gL (s-a) (by omega);rwa[<-e2]at this]at h3;simp only[at2,Bool.not_eq_false']at h3;cases hrl:lt R[i] L[s-a+j]with
   |true=>rfl
   |false=>
    have:=hw.nt _ _ _ (hw.nt _ _ _ (leR i (e-1-m) (by omega) (by omega) (by omega)) hrl) (leL (s-a) (s-a+j) (by omega) (by omega) (by omega));rw[h3]at this;cases this
  ·exfalso
   rcases hc with⟨h3,h4⟩|⟨h3,h4⟩<;>omega
 ·obtain⟨i,hi',rfl⟩:=List.getElem_of_mem hr
  obtain⟨j,hj',rfl⟩:=List.getElem_of_mem hl;simp only[fu,jV]at hi' hj';simp only[List.getElem_take,List.getElem_drop];rcases gM lo s with hsh|hsh
  ·have h3:=low (s-1) (by omega) (by omega)
   have e1:pp-(s-1)=m+(e-m):=by omega
   have e2:s-1=a+(s-1-a):=by omega
   rw[e1,gR _ (by omega)]at h3;rw[show xs[s-1]? =some (L[s-1-a]'(by omega))from by have:=gL (s-1-a) (by omega);rwa[<-e2]at this]at h3;simp only[at2,Bool.not_eq_true']at h3;exact hw.nt _ _ _ (hw.nt _ _ _ (leR (e-m) (e-m+i) (by omega) (by omega) (by omega)) h3) (leL j (s-1-a) (by omega) (by omega) (by omega))
  ·exfalso
   rcases hc with⟨h3,h4⟩|⟨h3,h4⟩<;>omega
def Full(lt:α->α->Bool)(n:Nat)(X:List α):Prop:=∃cs:List (List α),X=cs.flatten/\∀c∈cs,c.length=n/\fA lt c
theorem Full.nil{n:Nat}:Full lt n ([]:List α):=⟨[],rfl,by simp⟩
theorem Full.snoc{n:Nat}{X c:List α}(h:Full lt n X)(hc:c.length=n)(hs:fA lt c):Full lt n (X++c):=by
 obtain⟨cs,rfl,h⟩:=h;refine⟨cs++[c],by simp,fun d hd=> ?_⟩;rcases List.mem_append.1 hd with hd|hd
 ·exact h d hd
 ·simp at hd;subst hd;exact⟨hc,hs⟩
theorem Full.two{n:Nat}{X:List α}(h:Full lt n X):X=[]∨(X.length=n/\fA lt X)∨∃c1 c2 X',X=c1++c2++X'/\c1.length=n/\c2.length=n/\fA lt c1/\fA lt c2/\Full lt n X':=by
 obtain⟨cs,rfl,h⟩:=h
 match cs,h with
 |[],_=>exact .inl rfl
 |[c],h=>refine .inr (.inl ?_);simpa using h c (by simp)
 |c1::c2::r,h=>exact .inr (.inr ⟨c1,c2,r.flatten,by simp,(h c1 (by simp)).1,(h c2 (by simp)).1,(h c1 (by simp)).2,(h c2 (by simp)).2,r,rfl,fun c hc=>h c (by simp[hc])⟩)
end
def bD:El prog (aB×av):={aj with E:=fun p=>p.1.cells,hE:=fun _=>rfl,h1:=fun p=>aj.h1 p.1}
structure Kp (g:Nat) (w w':World):Prop where
 os:w'.os=w.os
 tape:w'.tape=w.tape
 output:w'.output=w.output
 size:w.heap.size<=w'.heap.size
 block:∀k,k<w.heap.size->k≠g->w'.heap[k]? =w.heap[k]?
theorem Kp.refl(g:Nat)(w:World):Kp g w w:=⟨rfl,rfl,rfl,aI _,fun _ _ _=>rfl⟩
theorem Kp.trans{g:Nat}{a b c:World}(h:Kp g a b)(k:Kp g b c):Kp g a c:=⟨k.os.trans h.os,k.tape.trans h.tape,k.output.trans h.output,bX h.size k.size,fun j hj hg=>(k.block j (by have:=h.size;omega) hg).trans (h.block j hj hg)⟩
theorem Kp.dH{g:Nat}{w w':World}(h:Ext w w'):Kp g w w':=⟨h.os,h.tape,h.output,h.size,fun k hk _=>h.block hk⟩
theorem Kp.put{g:Nat}{w w':World}(h1:∀k,k≠g->w'.heap[k]? =w.heap[k]?)(h2:w'.os=w.os)(h3:w'.tape=w.tape)(h4:w'.output=w.output)(h5:w'.heap.size=w.heap.size):Kp g w w':=⟨h2,h3,h4,by omega,fun k _ hg=>h1 k hg⟩
theorem Kp.uZ{g:Nat}{w0 w w':World}(h:Kp g w w')(he:Ext w0 w)(hg:w0.heap.size<=g):Ext w0 w':=
 ⟨h.os.trans he.os,h.tape.trans he.tape,h.output.trans he.output,bX he.size h.size,fun k hk=>(h.block k (bQ hk he.size) (by omega)).trans (he.block hk)⟩
section
variable {P:Program} {ρ:Operand->Value} {o:Oper} {w:World} {c:Value}
theorem dS(x:Operand)(ho:o.op=.move x)(hx:ρ x=c):eP P ρ o w c w:=.inl (by simp[execOp,ho,hx])
theorem qC(op:BinOp)(t t':TypeId)(x y:Operand)(ho:o.op=.binOp op t x y t')(a b:Int)(hx:ρ x=.int .i64 a)(hy:ρ y=.int .i64 b)(hr:∀w,(binOp op t (.int .i64 a) (.int .i64 b)).run P w=.ok c w):eP P ρ o w c w:=
 .inl (by cases op<;>simp[execOp,ho,hx,hy,eqGuard,hr])
theorem wP(t:TypeId)(a b c:Int)(h:a-b=c)(h1: -9223372036854775808<=c)(h2:c<=9223372036854775807)(w:World):(binOp .sub t (.int .i64 a) (.int .i64 b)).run P w=.ok (.int .i64 c) w:=by
 subst h;exact zf t a b h1 h2 w
theorem Bh(t:TypeId)(a b c:Int)(h:a+b=c)(h1: -9223372036854775808<=c)(h2:c<=9223372036854775807)(w:World):(binOp .add t (.int .i64 a) (.int .i64 b)).run P w=.ok (.int .i64 c) w:=by
 subst h;exact oF t a b h1 h2 w
variable {α:Type} (D:El P α) {xs:List α} {g cap base:Nat}
theorem jB(x i:Operand)(ho:o.op=.indexAddr D.t x i)(n:Nat)(hx:ρ x=.slice (some ⟨g,0,none⟩) n cap)(k:Nat)(hi:ρ i=.int .i64 k)(hk:k<n):eP P ρ o w (.pointer (some ⟨g,k*D.m,none⟩)) w:=by
 obtain⟨i',hi',_,hsz,_⟩:=info_parts D.hi;have hs:∀w,(sizeOf D.e).run P w=.ok D.m w:=fun w=>by simp[sizeOf,typeInfo,hi',hsz]
 have hr:(execOp ρ o).run P w=.ok (.value (.pointer (some ((⟨g,0,none⟩:Addr).add (k*D.m))))) w:=by
  simp[execOp,ho,hx,hi,Instr.indexAt,asIntOf,run_underlying D.ht,hs,hk]
 have ea:((⟨g,0,none⟩:Addr).add (k*D.m))=⟨g,k*D.m,none⟩:=by
  unfold Addr.add
  split
  ·rename_i h0;simp[h0]
  ·simp
 rw[ea]at hr;exact .inl hr
theorem qY(hag:D.agg=true)(x:Operand)(ho:o.op=.load D.e x)(k:Nat)(hx:ρ x=.pointer (some ⟨g,k*D.m,none⟩))(hown:Own D base w (.slice (some ⟨g,0,none⟩) xs.length cap) xs)(y:α)(hk:xs[k]? =some y):eP P ρ o w (.agg (D.E y).toArray) w:=by
 obtain⟨i',hi',_,hsz,_⟩:=info_parts D.hi;have hs:∀w,(sizeOf D.e).run P w=.ok (D.E y).length w:=fun w=>by simp[sizeOf,typeInfo,hi',hsz,D.hE]
 have ha:∀w,(isAgg D.e).run P w=.ok true w:=fun w=>by rw[D.hagg w,hag]
 obtain⟨hlt,hky⟩:=List.getElem?_eq_some_iff.1 hk;obtain⟨A,c',hv,hc,hsl⟩:=hown.form;cases hv
 obtain⟨b,off,hA,hb,hcell⟩:=hsl.at_ hlt;cases hA
 rw[hky]at hcell
 have hl:=run_loadCells_list (P:=P) w ⟨g,k*D.m,none⟩ (D.E y) (fun j u hu=>by
  have:=hcell j u hu;rw[bV]at this;unfold Addr.add
  split
  ·rename_i h0;subst h0;simpa using this
  ·exact this)
 refine .inl ?_;simp[execOp,ho,hx,Instr.loadAt,Instr.sureAddr,loadVar,ha,hs,hl]
theorem Lp(hown:Own D base w (.slice (some ⟨g,0,none⟩) xs.length cap) xs)(k:Nat)(hk:k<xs.length)(r:α):
 ∃w',Kp g w w'/\Own D base w' (.slice (some ⟨g,0,none⟩) xs.length cap) (xs.set k r)/\
  ∀(ρ:Operand->Value) (o:Oper) (x y:Operand),o.op=.store D.e x y->ρ x=.pointer (some ⟨g,k*D.m,none⟩)->ρ y=.agg (D.E r).toArray->eP P ρ o w undef w':=by
 obtain⟨i,hi,_,hsz,_⟩:=info_parts D.hi;have hs:∀w,(sizeOf D.e).run P w=.ok D.m w:=fun w=>by simp[sizeOf,typeInfo,hi,hsz]
 rcases hown.2 with⟨hv,h0⟩|⟨g',cap,cur,hv,hg,hh,hn,hc,hcs,ht⟩
 ·cases hv
 ·cases hv
  have hkm:k*D.m+D.m<=xs.length*D.m:=by rw[<-Nat.succ_mul];exact Nat.mul_le_mul_right _ hk
  have hcm:xs.length*D.m<=cur.size:=by rw[hcs];exact Nat.mul_le_mul_right _ hn
  have hrun:=run_storeCells_at (P:=P) g (k*D.m) D.e (D.E r) 0 cur w hh (by rw[D.hE];omega) (fun v hv=>D.h1 r v hv);refine⟨w.setRow g (cur.toList.take (k*D.m+0)++D.E r++cur.toList.drop (k*D.m+0+(D.E r).length)).toArray,Kp.put (fun j hj=>setRow_other w g j _ hj) rfl rfl rfl (by simp),?_,?_⟩
  ·have hbk:=setRow_heap w g cur (cur.toList.take (k*D.m+0)++D.E r++cur.toList.drop (k*D.m+0+(D.E r).length)).toArray D.e _ hh
   rw[Nat.add_zero]at hbk⊢;have hl:(D.flat (xs.set k r)).length=xs.length*D.m:=by rw[D.aX,List.length_set]
   have hdec:xs.set k r=xs.take k++r::xs.drop (k+1):=by rw[List.set_eq_take_append_cons_drop,bH hk]
   have Le:xs=xs.take k++xs[k]::xs.drop (k+1):=by rw[<-iW hk,jl]
   have hlk:(D.flat (xs.take k)).length=k*D.m:=by rw[D.aX,fu,jF (by omega)]
   have hlr:(D.flat (xs.drop (k+1))).length=xs.length*D.m-(k*D.m+D.m):=by
    rw[D.aX,jV,Nat.sub_mul,Nat.succ_mul]
   have hcurr:cur.toList=D.flat (xs.take k)++(D.E xs[k]++(D.flat (xs.drop (k+1))++cur.toList.drop (xs.length*D.m))):=by
    have e0:cur.toList=D.flat xs++cur.toList.drop (xs.length*D.m):=by
     conv=>lhs;rw[<-jl (xs.length*D.m) cur.toList,ht]
    have e1:D.flat xs=D.flat (xs.take k)++(D.E xs[k]++D.flat (xs.drop (k+1))):=by
     conv=>lhs;rw[Le,D.dF]
     simp only[El.flat,List.flatMap_cons]
    rw[e1]at e0
    conv=>lhs;rw[e0]
    simp only[dV]
   have e2:cur.toList.take (k*D.m)=D.flat (xs.take k):=by
    rw[hcurr,<-hlk];exact List.take_left
   have e3:cur.toList.drop (k*D.m+(D.E r).length)=D.flat (xs.drop (k+1))++cur.toList.drop (xs.length*D.m):=by
    rw[D.hE]
    conv=>lhs;rw[hcurr]
    rw[<-dV,List.drop_left' (by rw[eu,hlk,D.hE])]
   unfold Own World.ownsRow;rw[List.length_set];refine⟨hl,.inr ⟨g,_,_,rfl,hg,hbk,hn,hc,?_,?_⟩⟩
   ·simp only[List.size_toArray,eu,fu,jV,lK,D.hE]
    omega
   ·rw[List.toList_toArray,e2,e3]
    have e4:D.flat (xs.set k r)=D.flat (xs.take k)++D.E r++D.flat (xs.drop (k+1)):=by
     rw[hdec,D.dF];simp[El.flat]
    rw[<-dV,<-e4,<-hl];exact List.take_left
  ·intro ρ o x y ho hx hy
   have hr:(storeVar D.e ⟨g,k*D.m,none⟩ (.agg (D.E r).toArray)).run P w=.ok () (w.setRow g (cur.toList.take (k*D.m+0)++D.E r++cur.toList.drop (k*D.m+0+(D.E r).length)).toArray):=by
    have hl:(D.E r).length=D.m:=D.hE r;have hz:(Value.agg (D.E r).toArray).cells.size=D.m:=by simp[Value.cells,hl]
    simp[storeVar,hs,hz,Value.cells]at hrun⊢;rw[hrun,bH hl]
   simp[eP,execOp,ho,hx,hy,Instr.storeAt,Instr.sureAddr,hr]
end
structure Rw (g cap n:Nat) (w:World) (xs:List (aB×av)):Prop where
 len:xs.length=n
 own:Own bD 0 w (.slice (some ⟨g,0,none⟩) xs.length cap) xs
theorem Rw.ext{g cap n:Nat}{w w':World}{xs:List (aB×av)}(h:Rw g cap n w xs)(he:Ext w w'):Rw g cap n w' xs:=⟨h.len,h.own.ext he⟩
theorem Rw.o{g cap n:Nat}{w:World}{xs:List (aB×av)}(h:Rw g cap n w xs):Own bD 0 w (.slice (some ⟨g,0,none⟩) xs.length cap) xs:=h.own
theorem Rw.store{g cap n:Nat}{w:World}{xs:List (aB×av)}(h:Rw g cap n w xs)(k:Nat)(hk:k<n)(r:aB×av):
 ∃w',Kp g w w'/\Rw g cap n w' (xs.set k r)/\∀(ρ:Operand->Value) (o:Oper) (x y:Operand),o.op=.store 30 x y->ρ x=.pointer (some ⟨g,k*8,none⟩)->ρ y=.agg (bD.E r).toArray->eP prog ρ o w undef w':=by
 obtain⟨hl,ho⟩:=h;subst hl;obtain⟨w',h1,h2,h3⟩:=Lp bD ho k hk r;refine⟨w',h1,⟨by simp,?_⟩,h3⟩;rw[List.length_set];exact h2
theorem jG{P:Program}{w w':World}{ops:Array Oper}{rest:List Oper}{o:Oper}{a:Act}{Q:Exit->Act->World->Prop}{x:Value}(hgd:o.guard=none)(hr:eP P a.eval o w x w')(h:wpList P ops Q rest (a.put o.dst x) w'):wpList P ops Q (o::rest) a w:=by
 refine wpList_plain hgd fun K hK=> ?_;unfold Oper.wp;rcases hr with hr|⟨hr,rfl⟩
 ·rw[hr];exact hK _ _ h
 ·rw[hr];exact hK _ _ h
end Go.Proofs.YtgboomjahhnldaaGreatDoor
