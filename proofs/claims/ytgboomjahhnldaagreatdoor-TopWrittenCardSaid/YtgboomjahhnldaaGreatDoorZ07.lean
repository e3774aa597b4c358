/- A part of the proof of TopWritten, printed small: TOpenG Tab8 Sep9 CloneP. -/
import Derived.Test.YtgboomjahhnldaaGreatDoorZ04
import Derived.Test.YtgboomjahhnldaaGreatDoorZ06
import Derived.SizedLaws
import Derived.Test.YtgboomjahhnldaaGreatDoorZ05
set_option maxRecDepth 100000
set_option maxHeartbeats 25600000
set_option linter.all false
namespace Go.Proofs.YtgboomjahhnldaaGreatDoor
open Go.ChangeAt Go.ChangeShapes Go.Deep Go.Proofs.Tryz Go.RowKit Go.WideShapes
theorem Dy{α β:Type}{R:α->β->Prop}{Q:α->Prop}:∀(rs:List β),(∀(k:Nat) (r:β),rs[k]? =some r->∃a,R a r/\Q a)->∃l,fq R l rs/\∀a∈l,Q a
 |[],_=>⟨[],trivial,fun _ h=>by cases h⟩
 |r::rs,h=>by
  obtain⟨a,h1,h2⟩:=h 0 r rfl;obtain⟨l,h3,h4⟩:=Dy rs fun k q hq=>h (k+1) q (by simpa using hq)
  exact⟨a::l,⟨h1,h3⟩,fun x hx=>by
   rcases List.mem_cons.1 hx with rfl|hx
   ·exact h2
   ·exact h4 x hx⟩
theorem tV.of:∀{ys:List fM},(∀y∈ys,yR y)->tV ys
 |[],_=>by rw[tV];trivial
 |y::ys,h=>by rw[tV];exact⟨h y (by simp),tV.of fun z hz=>h z (by simp[hz])⟩
theorem Db{H:Type}{P:Program}{e:TypeId}{d:DataW H}{n:Nat}:∀{l:List (DataW H)},d∈l->n∈d.weights P e->n∈DataW.weightsAll P e l
 |[],h,_=>by cases h
 |x::l,h,hn=>by
  rw[DataW.weightsAll,oo];rcases List.mem_cons.1 h with rfl|h
  ·exact .inl hn
  ·exact .inr (Db h hn)
section
variable {H:Type} {enc:TypeId×Value->H} {W:World}
theorem Rm(n:Nat)(cs:List Value)(x:DataW H×List MemPlace)(h:DataW.trod enc prog W 0 (fun _=>true) true n 39 cs=some x):
 ∃a i k,cs=[.int .i64 a,.int .i64 i,.string k]:=by
 obtain⟨xs,m,rfl,rfl,hlen,hxl,hf⟩:=DataW.trod_struct underlying39 h;have hc:prog.cellsOf 39=3:=by kernel_rfl
 have hi:prog.cellsOf 3=1:=by kernel_rfl
 have hs:prog.cellsOf 9=1:=by kernel_rfl
 rw[hc]at hlen
 match cs,hlen with
 |[c0,c1,c2],_=>
  match xs,hxl with
  |[x0,x1,x2],_=>
   have f0:DataW.trod enc prog W 0 (fun _=>true) true m 3 (([c0,c1,c2].drop 0).take (prog.cellsOf 3))=some x0:=hf 0 _ rfl;have f1:DataW.trod enc prog W 0 (fun _=>true) true m 3 (([c0,c1,c2].drop 1).take (prog.cellsOf 3))=some x1:=hf 1 _ rfl;have f2:DataW.trod enc prog W 0 (fun _=>true) true m 9 (([c0,c1,c2].drop 2).take (prog.cellsOf 9))=some x2:=hf 2 _ rfl;rw[hi]at f0 f1;rw[hs]at f2;obtain⟨a,ha,rfl,wa⟩:=DataW.trod_int underlying3 f0;obtain⟨i,hi',rfl,wi⟩:=DataW.trod_int underlying3 f1;obtain⟨k,hk,rfl,wk⟩:=DataW.trod_string underlying9 f2;simp only[List.drop_zero,List.drop_succ_cons,List.take_succ_cons,List.take_zero,List.cons.injEq,and_true]at ha hi' hk;subst ha;subst hi';subst hk;exact⟨a,i,k,rfl⟩
theorem V9(n:Nat)(cs:List Value)(d:DataW H)(pl:List MemPlace)(hcs:cs.length=dG.m)(h:DataW.trod enc prog W 0 (fun _=>true) true n 75 cs=some (d,pl)):∃x,cs=dG.E x/\True:=by
 change cs.length=2 at hcs;obtain⟨xs,m,rfl,hx,hlen,hxl,hf⟩:=DataW.trod_struct underlying75 h;have sw:prog.cellsOf 3=1:=by kernel_rfl
 have AL:prog.cellsOf 9=1:=by kernel_rfl
 match cs,hcs with
 |[c0,c1],_=>
  match xs,hxl with
  |[x0,x1],_=>
   have f0:DataW.trod enc prog W 0 (fun _=>true) true m 3 (([c0,c1].drop 0).take (prog.cellsOf 3))=some x0:=hf 0 _ rfl;have f1:DataW.trod enc prog W 0 (fun _=>true) true m 9 (([c0,c1].drop 1).take (prog.cellsOf 9))=some x1:=hf 1 _ rfl;rw[sw]at f0;rw[AL]at f1;simp only[List.drop_zero,List.drop_succ_cons,List.take_succ_cons,List.take_zero]at f0 f1;obtain⟨v0,h0,-,-⟩:=DataW.trod_int underlying3 f0;simp only[List.cons.injEq,and_true]at h0;subst h0;obtain⟨v1,h1,-,-⟩:=DataW.trod_string underlying9 f1;simp only[List.cons.injEq,and_true]at h1;subst h1;exact⟨⟨v0,v1⟩,rfl,trivial⟩
def CK(enc:TypeId×Value->H)(W:World)(r:bE)(d:DataW H):Prop:=
 ∃d0 d1 d2 d3 d4 d5 d6 d7 d8 d9 d10 d11 d12 Gi Dx d15,d=.agg [d0,d1,d2,d3,d4,d5,d6,d7,d8,d9,d10,d11,d12,Gi,Dx,d15]/\Cy enc W r.u d5/\(∃m p,DataW.trod enc prog W 0 (fun _=>true) true m dG.t [.slice r.aA r.aN r.aC]=some (d1,p))/\(∃m p,DataW.trod enc prog W 0 (fun _=>true) true m dG.t [.slice r.bA r.bN r.bC]=some (d2,p))/\(∃m p,DataW.trod enc prog W 0 (fun _=>true) true m bP.t [.slice r.oA r.oN r.oC]=some (d6,p))/\(∃m p,DataW.trod enc prog W 0 (fun _=>true) true m bP.t [.slice r.nA r.nN r.nC]=some (d7,p))/\(∃m p,DataW.trod enc prog W 0 (fun _=>true) true m aT.t [.slice r.yA r.yN r.yC]=some (d15,p))
theorem Lv(n:Nat)(cs:List Value)(d:DataW H)(pl:List MemPlace)(hcs:cs.length=aT.m)(h:DataW.trod enc prog W 0 (fun _=>true) true n 42 cs=some (d,pl)):
 ∃r:bE,cs=r.cells/\CK enc W r d:=by
 change cs.length=25 at hcs;obtain⟨xs,m,rfl,hx,hlen,hxl,hf⟩:=DataW.trod_struct underlying42 h;have sw:prog.cellsOf 3=1:=by kernel_rfl
 have Kl:prog.cellsOf 40=1:=by kernel_rfl
 have NA:prog.cellsOf 39=3:=by kernel_rfl
 have Rn:prog.cellsOf 36=1:=by kernel_rfl
 have AL:prog.cellsOf 9=1:=by kernel_rfl
 have Wh:prog.cellsOf 37=1:=by kernel_rfl
 have aiE:prog.cellsOf 30=8:=by kernel_rfl
 match cs,hcs with
 |[c0,c1,c2,c3,c4,c5,c6,c7,c8,c9,c10,c11,c12,c13,c14,c15,c16,c17,c18,c19,c20,c21,zD,c23,c24],_=>
  match xs,hxl with
  |[x0,x1,x2,x3,x4,x5,x6,x7,x8,x9,x10,x11,x12,x13,x14,x15],_=>
   have f0:DataW.trod enc prog W 0 (fun _=>true) true m 3 (([c0,c1,c2,c3,c4,c5,c6,c7,c8,c9,c10,c11,c12,c13,c14,c15,c16,c17,c18,c19,c20,c21,zD,c23,c24].drop 0).take (prog.cellsOf 3))=some x0:=hf 0 _ rfl;have f1:DataW.trod enc prog W 0 (fun _=>true) true m dG.t (([c0,c1,c2,c3,c4,c5,c6,c7,c8,c9,c10,c11,c12,c13,c14,c15,c16,c17,c18,c19,c20,c21,zD,c23,c24].drop 1).take (prog.cellsOf 36))=some x1:=hf 1 _ rfl;have f2:DataW.trod enc prog W 0 (fun _=>true) true m dG.t (([c0,c1,c2,c3,c4,c5,c6,c7,c8,c9,c10,c11,c12,c13,c14,c15,c16,c17,c18,c19,c20,c21,zD,c23,c24].drop 2).take (prog.cellsOf 36))=some x2:=hf 2 _ rfl;have f3:DataW.trod enc prog W 0 (fun _=>true) true m 3 (([c0,c1,c2,c3,c4,c5,c6,c7,c8,c9,c10,c11,c12,c13,c14,c15,c16,c17,c18,c19,c20,c21,zD,c23,c24].drop 3).take (prog.cellsOf 3))=some x3:=hf 3 _ rfl;have f4:DataW.trod enc prog W 0 (fun _=>true) true m 3 (([c0,c1,c2,c3,c4,c5,c6,c7,c8,c9,c10,c11,c12,c13,c14,c15,c16,c17,c18,c19,c20,c21,zD,c23,c24].drop 4).take (prog.cellsOf 3))=some x4:=hf 4 _ rfl;have f5:DataW.trod enc prog W 0 (fun _=>true) true m 30 (([c0,c1,c2,c3,c4,c5,c6,c7,c8,c9,c10,c11,c12,c13,c14,c15,c16,c17,c18,c19,c20,c21,zD,c23,c24].drop 5).take (prog.cellsOf 30))=some x5:=hf 5 _ rfl;have f6:DataW.trod enc prog W 0 (fun _=>true) true m bP.t (([c0,c1,c2,c3,c4,c5,c6,c7,c8,c9,c10,c11,c12,c13,c14,c15,c16,c17,c18,c19,c20,c21,zD,c23,c24].drop 13).take (prog.cellsOf 37))=some x6:=hf 6 _ rfl;have f7:DataW.trod enc prog W 0 (fun _=>true) true m bP.t (([c0,c1,c2,c3,c4,c5,c6,c7,c8,c9,c10,c11,c12,c13,c14,c15,c16,c17,c18,c19,c20,c21,zD,c23,c24].drop 14).take (prog.cellsOf 37))=some x7:=hf 7 _ rfl;have f8:DataW.trod enc prog W 0 (fun _=>true) true m 9 (([c0,c1,c2,c3,c4,c5,c6,c7,c8,c9,c10,c11,c12,c13,c14,c15,c16,c17,c18,c19,c20,c21,zD,c23,c24].drop 15).take (prog.cellsOf 9))=some x8:=hf 8 _ rfl;have f9:DataW.trod enc prog W 0 (fun _=>true) true m 9 (([c0,c1,c2,c3,c4,c5,c6,c7,c8,c9,c10,c11,c12,c13,c14,c15,c16,c17,c18,c19,c20,c21,zD,c23,c24].drop 16).take (prog.cellsOf 9))=some x9:=hf 9 _ rfl;have f10:DataW.trod enc prog W 0 (fun _=>true) true m 39 (([c0,c1,c2,c3,c4,c5,c6,c7,c8,c9,c10,c11,c12,c13,c14,c15,c16,c17,c18,c19,c20,c21,zD,c23,c24].drop 17).take (prog.cellsOf 39))=some x10:=hf 10 _ rfl;have f11:DataW.trod enc prog W 0 (fun _=>true) true m 3 (([c0,c1,c2,c3,c4,c5,c6,c7,c8,c9,c10,c11,c12,c13,c14,c15,c16,c17,c18,c19,c20,c21,zD,c23,c24].drop 20).take (prog.cellsOf 3))=some x11:=hf 11 _ rfl;have f12:DataW.trod enc prog W 0 (fun _=>true) true m 3 (([c0,c1,c2,c3,c4,c5,c6,c7,c8,c9,c10,c11,c12,c13,c14,c15,c16,c17,c18,c19,c20,c21,zD,c23,c24].drop 21).take (prog.cellsOf 3))=some x12:=hf 12 _ rfl;have f13:DataW.trod enc prog W 0 (fun _=>true) true m 3 (([c0,c1,c2,c3,c4,c5,c6,c7,c8,c9,c10,c11,c12,c13,c14,c15,c16,c17,c18,c19,c20,c21,zD,c23,c24].drop 22).take (prog.cellsOf 3))=some x13:=hf 13 _ rfl;have f14:DataW.trod enc prog W 0 (fun _=>true) true m 9 (([c0,c1,c2,c3,c4,c5,c6,c7,c8,c9,c10,c11,c12,c13,c14,c15,c16,c17,c18,c19,c20,c21,zD,c23,c24].drop 23).take (prog.cellsOf 9))=some x14:=hf 14 _ rfl;have f15:DataW.trod enc prog W 0 (fun _=>true) true m aT.t (([c0,c1,c2,c3,c4,c5,c6,c7,c8,c9,c10,c11,c12,c13,c14,c15,c16,c17,c18,c19,c20,c21,zD,c23,c24].drop 24).take (prog.cellsOf 40))=some x15:=hf 15 _ rfl;rw[sw]at f0;rw[Rn]at f1;rw[Rn]at f2;rw[sw]at f3;rw[sw]at f4;rw[aiE]at f5;rw[Wh]at f6;rw[Wh]at f7;rw[AL]at f8;rw[AL]at f9;rw[NA]at f10;rw[sw]at f11;rw[sw]at f12;rw[sw]at f13;rw[AL]at f14;rw[Kl]at f15;simp only[List.drop_zero,List.drop_succ_cons,List.take_succ_cons,List.take_zero]at f0 f1 f2 f3 f4 f5 f6 f7 f8 f9 f10 f11 f12 f13 f14 f15;obtain⟨v0,h0,-,-⟩:=DataW.trod_int underlying3 f0;simp only[List.cons.injEq,and_true]at h0;subst h0;obtain⟨A1,n1,k1,h1⟩:=lU dG f1;simp only[List.cons.injEq,and_true]at h1;subst h1;obtain⟨A2,n2,k2,h2⟩:=lU dG f2;simp only[List.cons.injEq,and_true]at h2;subst h2;obtain⟨v3,h3,-,-⟩:=DataW.trod_int underlying3 f3;simp only[List.cons.injEq,and_true]at h3;subst h3;obtain⟨v4,h4,-,-⟩:=DataW.trod_int underlying3 f4;simp only[List.cons.injEq,and_true]at h4;subst h4;obtain⟨y5a,y5b⟩:=x5;obtain⟨u,h5,hu⟩:=Lf _ _ _ _ rfl f5;unfold aB.cells at h5;simp only[List.cons.injEq,and_true]at h5;obtain⟨rfl,rfl,rfl,rfl,rfl,rfl,rfl,rfl⟩:=h5;obtain⟨A6,n6,k6,h6⟩:=lU bP f6;simp only[List.cons.injEq,and_true]at h6;subst h6;obtain⟨A7,n7,k7,h7⟩:=lU bP f7;simp only[List.cons.injEq,and_true]at h7;subst h7;obtain⟨v8,h8,-,-⟩:=DataW.trod_string underlying9 f8;simp only[List.cons.injEq,and_true]at h8;subst h8;obtain⟨v9,h9,-,-⟩:=DataW.trod_string underlying9 f9;simp only[List.cons.injEq,and_true]at h9;subst h9;obtain⟨sk,sd,se,h10⟩:=Rm _ _ _ f10;simp only[List.cons.injEq,and_true]at h10;obtain⟨rfl,rfl,rfl⟩:=h10;obtain⟨v11,h11,-,-⟩:=DataW.trod_int underlying3 f11;simp only[List.cons.injEq,and_true]at h11;subst h11;obtain⟨v12,h12,-,-⟩:=DataW.trod_int underlying3 f12;simp only[List.cons.injEq,and_true]at h12;subst h12;obtain⟨v13,CB,-,-⟩:=DataW.trod_int underlying3 f13;simp only[List.cons.injEq,and_true]at CB;subst CB;obtain⟨v14,Q9,-,-⟩:=DataW.trod_string underlying9 f14;simp only[List.cons.injEq,and_true]at Q9;subst Q9;obtain⟨A15,n15,k15,OD⟩:=lU aT f15;simp only[List.cons.injEq,and_true]at OD;subst OD;simp only[Prod.mk.injEq,gX,List.map_nil]at hx;obtain⟨y1a,y1b⟩:=x1;obtain⟨y2a,y2b⟩:=x2;obtain⟨y6a,y6b⟩:=x6;obtain⟨y7a,y7b⟩:=x7;obtain⟨avL,avM⟩:=x15;refine⟨{kind:=v0,aA:=A1,aN:=n1,aC:=k1,bA:=A2,bN:=n2,bC:=k2,wh:=v3,nth:=v4,u:=u,oA:=A6,oN:=n6,oC:=k6,nA:=A7,nN:=n7,nC:=k7,label:=v8,fr:=v9,sk:=sk,sd:=sd,se:=se,act:=v11,item:=v12,day:=v13,ev:=v14,yA:=A15,yN:=n15,yC:=k15},rfl,_,_,_,_,_,_,_,_,_,_,_,_,_,_,_,_,hx.1,hu,⟨m,_,f1⟩,⟨m,_,f2⟩,⟨m,_,f6⟩,⟨m,_,f7⟩,⟨m,_,f15⟩⟩
theorem Lx:∀(N:Nat) (d:DataW H) (r:bE),SizeOf.sizeOf d<=N->CK enc W r d->∃y,eZ W y r/\yR y
 |0,d,r,hN,h=>by
  obtain⟨_,_,_,_,_,_,_,_,_,_,_,_,_,_,_,_,rfl,_⟩:=h;simp at hN
 |N+1,d,r,hN,h=>by
  obtain⟨d0,d1,d2,d3,d4,d5,d6,d7,d8,d9,d10,d11,d12,Gi,Dx,d15,rfl,hu,⟨m1,p1,h1⟩,⟨m2,p2,h2⟩,⟨m6,p6,h6⟩,⟨m7,p7,h7⟩,m9,p9,h9⟩:=h;obtain⟨A1,c1,l1,ds1,sp1,e1,hc1,hm1,hs1,-⟩:=oP dG (fun _ _=>True) V9 h1;obtain⟨A2,c2,l2,ds2,sp2,e2,hc2,hm2,hs2,-⟩:=oP dG (fun _ _=>True) V9 h2;obtain⟨A6,c6,l6,ds6,sp6,e6,hc6,hm6,hs6,-⟩:=oP bP ac9 Zx h6;obtain⟨A7,c7,l7,ds7,sp7,e7,Js,Wi,hs7,-⟩:=oP bP ac9 Zx h7;obtain⟨A9,c9,l9,OP,sp9,e9,hc9,hm9,sD,ZU,Ro,-,ZV⟩:=oP aT (CK enc W) (fun n cs d pl hcs h=>Lv n cs d pl hcs h) h9;simp only[List.cons.injEq,and_true,Value.slice.injEq]at e1 e2 e6 e7 e9;obtain⟨gu,hgu,hau⟩:=Lg _ d5 r.u (aI _) hu
  obtain⟨ys,hall,hbig⟩:=Dy (R:=eZ W) (Q:=yR) l9 fun k q hq=>by
   have hk:k<OP.length:=by rw[Ro];exact(List.getElem?_eq_some_iff.1 hq).1
   have hdk:=fP hk;refine Lx N OP[k] q ?_ (ZV k q _ hq hdk);rcases ZU with⟨_,_,h,_⟩|h
   ·subst h;simp at hk
   ·subst h
    have a1:=List.sizeOf_lt_of_mem (dW hk);simp at hN;omega
  have hlen:=hall.length;have hmx:=Cz;refine⟨.mk {kind:=r.kind,at_:=l1,oV:=l2,wh:=r.wh,nth:=r.nth,unit:=gu,old:=l6,iE:=l7,label:=r.label,for_:=r.fr,sk:=r.sk,sd:=r.sd,se:=r.se,act:=r.act,item:=r.item,day:=r.day,ev:=r.ev} ys,?_,?_⟩
  ·exact eZ.of (rs:=l9) ⟨rfl,e1.2.1,by rw[e1.2.2];exact hc1,by rw[e1.1];exact hs1,e2.2.1,by rw[e2.2.2];exact hc2,by rw[e2.1];exact hs2,rfl,rfl,hgu,e6.2.1,by rw[e6.2.2];exact hc6,by rw[e6.1];exact hs6,e7.2.1,by rw[e7.2.2];exact Js,by rw[e7.1];exact hs7,rfl,rfl,rfl,rfl,rfl,rfl,rfl,rfl,rfl⟩ (by rw[e9.2.1];exact hlen) (by rw[e9.2.2];show ys.length<=c9;omega) (by rw[e9.1];exact sD) hall
  ·rw[yR]
   exact⟨⟨by show l1.length<=_;omega,by show l2.length<=_;omega,by show l6.length<=_;omega,by show l7.length<=_;omega,hau⟩,by omega,tV.of hbig⟩
def afA(W:World)(r:bM)(d:DataW H):Prop:=∃a,kS W a r/\(∀y∈a.items,yR y)/\((∀n∈d.weights prog 67,n<=reachBytes)->a.items.length<=140737488355328)
theorem aiH(n:Nat)(cs:List Value)(d:DataW H)(pl:List MemPlace)(hcs:cs.length=eB.m)(h:DataW.trod enc prog W 0 (fun _=>true) true n 67 cs=some (d,pl)):∃r,cs=eB.E r/\afA W r d:=by
 change cs.length=7 at hcs;obtain⟨xs,m,rfl,hx,hlen,hxl,hf⟩:=DataW.trod_struct underlying67 h;have sw:prog.cellsOf 3=1:=by kernel_rfl
 have Kl:prog.cellsOf 40=1:=by kernel_rfl
 have NA:prog.cellsOf 39=3:=by kernel_rfl
 have AL:prog.cellsOf 9=1:=by kernel_rfl
 match cs,hcs with
 |[c0,c1,c2,c3,c4,c5,c6],_=>
  match xs,hxl with
  |[x0,x1,x2,x3,x4],_=>
   have f0:DataW.trod enc prog W 0 (fun _=>true) true m 3 (([c0,c1,c2,c3,c4,c5,c6].drop 0).take (prog.cellsOf 3))=some x0:=hf 0 _ rfl;have f1:DataW.trod enc prog W 0 (fun _=>true) true m 9 (([c0,c1,c2,c3,c4,c5,c6].drop 1).take (prog.cellsOf 9))=some x1:=hf 1 _ rfl;have f2:DataW.trod enc prog W 0 (fun _=>true) true m 3 (([c0,c1,c2,c3,c4,c5,c6].drop 2).take (prog.cellsOf 3))=some x2:=hf 2 _ rfl;have f3:DataW.trod enc prog W 0 (fun _=>true) true m 39 (([c0,c1,c2,c3,c4,c5,c6].drop 3).take (prog.cellsOf 39))=some x3:=hf 3 _ rfl;have f4:DataW.trod enc prog W 0 (fun _=>true) true m aT.t (([c0,c1,c2,c3,c4,c5,c6].drop 6).take (prog.cellsOf 40))=some x4:=hf 4 _ rfl;rw[sw]at f0;rw[AL]at f1;rw[sw]at f2;rw[NA]at f3;rw[Kl]at f4;simp only[List.drop_zero,List.drop_succ_cons,List.take_succ_cons,List.take_zero]at f0 f1 f2 f3 f4;obtain⟨v0,h0,-,-⟩:=DataW.trod_int underlying3 f0;simp only[List.cons.injEq,and_true]at h0;subst h0;obtain⟨v1,h1,-,-⟩:=DataW.trod_string underlying9 f1;simp only[List.cons.injEq,and_true]at h1;subst h1;obtain⟨v2,h2,-,-⟩:=DataW.trod_int underlying3 f2;simp only[List.cons.injEq,and_true]at h2;subst h2;obtain⟨sk,sd,se,h3⟩:=Rm _ _ _ f3;simp only[List.cons.injEq,and_true]at h3;obtain⟨rfl,rfl,rfl⟩:=h3;obtain⟨A4,n4,k4,h4⟩:=lU aT f4;simp only[List.cons.injEq,and_true]at h4;subst h4;simp only[Prod.mk.injEq,gX,List.map_nil]at hx;obtain⟨y4a,y4b⟩:=x4;obtain⟨A9,c9,l9,OP,sp9,e9,hc9,hm9,sD,ZU,Ro,aqL,ZV⟩:=oP aT (CK enc W) (fun n cs d pl hcs h=>Lv n cs d pl hcs h) f4;simp only[List.cons.injEq,and_true,Value.slice.injEq]at e9;obtain⟨rfl,rfl,rfl⟩:=e9
   obtain⟨ys,hall,hbig⟩:=Dy (R:=eZ W) (Q:=yR) l9 fun k q hq=>by
    have hk:k<OP.length:=by rw[Ro];exact(List.getElem?_eq_some_iff.1 hq).1
    exact Lx _ OP[k] q (aI _) (ZV k q _ hq (fP hk))
   have hlen:=hall.length;refine⟨⟨v0,v1,v2,sk,sd,se,A4,l9.length,k4⟩,rfl,⟨v0,v1,v2,sk,sd,se,ys⟩,⟨rfl,rfl,rfl,rfl,rfl,rfl,hlen,by show ys.length<=k4;omega,l9,sD,hall⟩,hbig,fun hw=> ?_⟩;show ys.length<=_;rcases ZU with⟨-,h2,-⟩|h2
   ·subst h2
    rw[<-hlen];exact bI _
   ·have h3:=hw ((OP.length+sp9.length)*prog.bytesOf 42) (by
     rw[hx.1];rw[DataW.weights,underlying67];refine DataW.weights_mem_each (j:=4) (t:=aT.t) (d:=y4a) rfl rfl _ ?_;rw[h2,DataW.weights,show prog.underlying aT.t=some (.slice 42)from underlying40];exact List.mem_cons_self ..)
    have hb:prog.bytesOf 42=368:=by kernel_rfl
    have hr:reachBytes=0x7ffffffff000:=rfl;rw[hb,hr]at h3;omega
def afB(W:World)(r:nX)(d:DataW H):Prop:=∃g,jZ W g r/\g.acts.length<=9223372036854775807/\(∀a∈g.acts,∀y∈a.items,yR y)/\((∀n∈d.weights prog 77,n<=reachBytes)->∀a∈g.acts,a.items.length<=140737488355328)
theorem aiI(n:Nat)(cs:List Value)(d:DataW H)(pl:List MemPlace)(hcs:cs.length=lW.m)(h:DataW.trod enc prog W 0 (fun _=>true) true n 77 cs=some (d,pl)):∃r,cs=lW.E r/\afB W r d:=by
 change cs.length=4 at hcs;obtain⟨xs,m,rfl,hx,hlen,hxl,hf⟩:=DataW.trod_struct underlying77 h;have ahQ:prog.cellsOf 62=1:=by kernel_rfl
 have sw:prog.cellsOf 3=1:=by kernel_rfl
 have AL:prog.cellsOf 9=1:=by kernel_rfl
 match cs,hcs with
 |[c0,c1,c2,c3],_=>
  match xs,hxl with
  |[x0,x1,x2,x3],_=>
   have f0:DataW.trod enc prog W 0 (fun _=>true) true m 3 (([c0,c1,c2,c3].drop 0).take (prog.cellsOf 3))=some x0:=hf 0 _ rfl;have f1:DataW.trod enc prog W 0 (fun _=>true) true m 3 (([c0,c1,c2,c3].drop 1).take (prog.cellsOf 3))=some x1:=hf 1 _ rfl;have f2:DataW.trod enc prog W 0 (fun _=>true) true m 9 (([c0,c1,c2,c3].drop 2).take (prog.cellsOf 9))=some x2:=hf 2 _ rfl;have f3:DataW.trod enc prog W 0 (fun _=>true) true m eB.t (([c0,c1,c2,c3].drop 3).take (prog.cellsOf 62))=some x3:=hf 3 _ rfl;rw[sw]at f0;rw[sw]at f1;rw[AL]at f2;rw[ahQ]at f3;simp only[List.drop_zero,List.drop_succ_cons,List.take_succ_cons,List.take_zero]at f0 f1 f2 f3;obtain⟨v0,h0,-,-⟩:=DataW.trod_int underlying3 f0;simp only[List.cons.injEq,and_true]at h0;subst h0;obtain⟨v1,h1,-,-⟩:=DataW.trod_int underlying3 f1;simp only[List.cons.injEq,and_true]at h1;subst h1;obtain⟨v2,h2,-,-⟩:=DataW.trod_string underlying9 f2;simp only[List.cons.injEq,and_true]at h2;subst h2;obtain⟨A3,n3,k3,h3⟩:=lU eB f3;simp only[List.cons.injEq,and_true]at h3;subst h3;simp only[Prod.mk.injEq,gX,List.map_nil]at hx;obtain⟨y3a,y3b⟩:=x3;obtain⟨A9,c9,l9,OP,sp9,e9,hc9,hm9,sD,ZU,Ro,aqL,ZV⟩:=oP eB (afA W) (fun n cs d pl hcs h=>aiH n cs d pl hcs h) f3;simp only[List.cons.injEq,and_true,Value.slice.injEq]at e9;obtain⟨rfl,rfl,rfl⟩:=e9
   obtain⟨ys,hall,hbig⟩:=Dy (R:=kS W) (Q:=fun a=>(∀y∈a.items,yR y)/\((∀n∈d.weights prog 77,n<=reachBytes)->a.items.length<=140737488355328)) l9 fun k q hq=>by
    have hk:k<OP.length:=by rw[Ro];exact(List.getElem?_eq_some_iff.1 hq).1
    obtain⟨a,h1,h2,h3⟩:=ZV k q _ hq (fP hk);refine⟨a,h1,h2,fun hw=>h3 fun n hn=>hw n ?_⟩;rw[hx.1];rw[DataW.weights,underlying77];refine DataW.weights_mem_each (j:=3) (t:=eB.t) (d:=y3a) rfl rfl _ ?_;rcases ZU with⟨-,-,h4,-⟩|h4
    ·subst h4;simp at hk
    ·rw[h4,DataW.weights,show prog.underlying eB.t=some (.slice 67)from underlying62]
     exact lV _ (nK _ (Db (dW hk) hn))
   have hlen:=hall.length;have hmx:=Cz;refine⟨⟨v0,v1,v2,A3,l9.length,k3⟩,rfl,⟨v0,v1,v2,ys⟩,⟨rfl,rfl,rfl,hlen,by show ys.length<=k3;omega,l9,sD,hall⟩,by show ys.length<=_;omega,fun a ha=>(hbig a ha).1,fun hw a ha=>(hbig a ha).2 hw⟩
theorem ado{base:Nat}{v:Value}{d:DataW H}{pl:List MemPlace}(hv:Value.okWide prog W .any base 22 v)(h:∃n,DataW.trod enc prog W 0 (fun _=>true) true n 22 v.cells.toList=some (d,pl))(hw:∀n∈d.weights prog 22,n<=reachBytes):
 ∃(A:Option Addr) (c:Nat) (gs:List jJ) (rs:List nX),v=.slice A rs.length c/\Sl lW W A rs/\fq (jZ W) gs rs/\gs.length<=9223372036854775807/\∀g∈gs,Rh g:=by
 obtain⟨n,hn⟩:=h;obtain⟨A,c,l,ds,sp,e,hc,hm,hs,hd,hdl,-,hR⟩:=oP lW (afB W) (fun n cs d pl hcs h=>aiI n cs d pl hcs h) hn;obtain⟨xa,xn,xc,rfl⟩:=okWide_slice underlying22 hv;simp only[Value.cells,List.cons.injEq,and_true,Value.slice.injEq]at e;obtain⟨rfl,rfl,rfl⟩:=e
 obtain⟨gs,hall,hbig⟩:=Dy (R:=jZ W) (Q:=Rh) l fun k q hq=>by
  have hk:k<ds.length:=by rw[hdl];exact(List.getElem?_eq_some_iff.1 hq).1
  obtain⟨g,h1,h2,h3,h4⟩:=hR k q _ hq (fP hk);refine⟨g,h1,h2,fun a ha=>⟨h4 (fun n hn=>hw n ?_) a ha,h3 a ha⟩⟩;rcases hd with⟨-,-,h5,-⟩|h5
  ·subst h5;simp at hk
  ·rw[h5,DataW.weights,underlying22]
   exact lV _ (nK _ (Db (dW hk) hn))
 have hlen:=hall.length;have hmx:=Cz;exact⟨_,_,gs,l,rfl,hs,hall,by omega,hbig⟩
end
end Go.Proofs.YtgboomjahhnldaaGreatDoor
namespace Go.Proofs.YtgboomjahhnldaaGreatDoor
open Go.Proofs.Tryz Go.RowKit
def Jc:List ByteArray:=[⟨#[98,111,111,107]⟩,⟨#[112,97,114,116]⟩,⟨#[115,101,99,116,105,111,110]⟩,⟨#[112,97,114,97,103,114,97,112,104]⟩,⟨#[116,97,98,108,101]⟩,⟨#[114,111,119]⟩,⟨#[99,101,108,108]⟩,⟨#[110,111,116,101]⟩]
def sF(k:Int):ByteArray:=if k<0 then⟨#[]⟩else Jc.getD k.toNat ⟨#[]⟩
structure kN (w:World):Prop where
 n:∀k,k<8->w.cell? ⟨4,k,none⟩=some (.string (Jc.getD k ⟨#[]⟩))
 nlt:4<w.heap.size
 b:∀k,k<8->∃A l c,w.cell? ⟨1,k,none⟩=some (.slice A (List.length l) c)/\Sl fD w A l/\l.length<=8
 blt:1<w.heap.size
theorem kN.ext{w w':World}(h:kN w)(he:Ext w w'):kN w':=
 ⟨fun k hk=>(he.cell (p:=⟨_,k,none⟩) h.nlt).trans (h.n k hk),bQ h.nlt he.size,fun k hk=>by
  obtain⟨A,l,c,h1,h2,h3⟩:=h.b k hk;exact⟨A,l,c,(he.cell (p:=⟨_,k,none⟩) h.blt).trans h1,h2.ext he,h3⟩,bQ h.blt he.size⟩
theorem OQ{k:Int}(h:8<=k):sF k=⟨#[]⟩:=by
 rw[sF,aU (by omega),List.getD_eq_getElem?_getD,xB (by simp[Jc];omega)];rfl
theorem Xx(k:Int):(sF k).size<=9:=by
 by_cases h:k<0
 ·rw[sF,bH h];decide
 ·by_cases h8:8<=k
  ·rw[OQ h8];decide
  ·obtain⟨n,rfl⟩:∃n:Nat,k=n:=⟨k.toNat,by omega⟩
   rw[sF,aU h];have:n=0∨n=1∨n=2∨n=3∨n=4∨n=5∨n=6∨n=7:=by omega
   rcases this with rfl|rfl|rfl|rfl|rfl|rfl|rfl|rfl<;>decide
theorem Gj(k:Int)(w:World)(hT:kN w):Calls prog 262 #[.int .i64 k] w fun e w'=>e=.returned (.string (sF k))/\w'=w:=by
 by_cases h:k<0
 ·have d1:decide (k<0)=true:=bJ h
  have hk:sF k=⟨#[]⟩:=by rw[sF,bH h]
  rw[hk];clear hk hT;go_enter func262,ntmps262
  go_wp2;go_ret;exact⟨rfl,rfl⟩
 have d1:decide (k<0)=false:=aY h;by_cases h8:8<=k
 ·have d2:decide (k≥8)=true:=bJ h8
  have d3:decide (8<=k)=true:=bJ h8;rw[OQ h8];clear hT;go_enter func262,ntmps262
  go_wp2;go_ret;exact⟨rfl,rfl⟩
 ·have d2:decide (k≥8)=false:=aY h8
  have d3:decide (8<=k)=false:=aY h8;obtain⟨n,rfl⟩:∃n:Nat,k=n:=⟨k.toNat,by omega⟩;have hn:n<8:=by omega
  have hc:=hT.n n hn;have hS:sF (n:Int)=Jc.getD n ⟨#[]⟩:=by rw[sF,aU h];rfl
  rw[<-hS]at hc;obtain⟨S,hS2⟩:=aH (sF (n:Int));rw[hS2]at hc⊢;clear hS hS2 hT h h8;go_enter func262,ntmps262
  go_wp2;go_ret;exact⟨rfl,rfl⟩
theorem Xy(A:Option Addr)(c:Nat)(l:List Int)(x:Int)(w:World)(hs:Sl fD w A l)(hn:l.length<=1000000):
 Calls prog 233 #[.slice A l.length c,.int .i64 x] w fun e w'=>∃z:Int,e=.returned (.int .i64 z)/\Ext w w':=by
 go_enter func233,ntmps233
 go_wp2
 go_loopw [5,8] (fun _ vk wr=>∃k:Nat,k<=l.length/\vk=.int .i64 (k:Nat)/\Ext w wr) (fun _ vk _=>l.length-(intOf vk).toNat)
 case atStart=>exact⟨0,bI _,rfl,Ext.refl _⟩
 case round=>
  obtain⟨k,hk,rfl,hext⟩:=hrel;by_cases hlt:k<l.length
  ·obtain⟨b,off,lI,hb,u0⟩:=Eo (hs.ext hext) hlt
   subst lI;obtain⟨y,hy⟩:=aH (l[k]);rw[hy]at u0;have d1:=eY k l.length;clear hy;cases he:(x==y)with
   |true=>
    go_wp2;go_ret;exact⟨_,rfl,hext⟩
   |false=>
    go_wp2;go_roundw
    case rel=>exact⟨k+1,by omega,by go_num,hext⟩
    case measure=>simp[intOf];omega
  ·have d1:=fT k l.length
   go_wp2;go_ret;exact⟨_,rfl,hext⟩
theorem Xz(A:Option Addr)(c:Nat)(l:List Int)(x:Int)(w:World)(hs:Sl fD w A l)(hn:l.length<=1000000):
 Calls prog 205 #[.slice A l.length c,.int .i64 x] w (lN w):=by
 have Hi:=ah (Xy A c l x w hs hn);clear hs;go_enter func205,ntmps205
 go_wp2_with fail
 refine(Hi.out).mono ?_;rintro e w2 ⟨z,rfl,hx2⟩;go_wp2;go_ret;exact⟨_,rfl,hx2⟩
theorem yS(k x:Int)(w:World)(hT:kN w):Calls prog 161 #[.int .i64 k,.int .i64 x] w (lN w):=by
 by_cases h:0<=k
 case neg=>
  have d1:decide (0<=k)=false:=aY h;have d2:decide (k≥0)=false:=aY h;clear hT;go_enter func161,ntmps161
  go_wp2;go_ret;exact⟨_,rfl,Ext.refl _⟩
 have d1:decide (0<=k)=true:=bJ h;have d2:decide (k≥0)=true:=bJ h;by_cases h8:k<8
 case neg=>
  have d3:decide (k<8)=false:=aY h8;clear hT;go_enter func161,ntmps161
  go_wp2;go_ret;exact⟨_,rfl,Ext.refl _⟩
 have d3:decide (k<8)=true:=bJ h8;obtain⟨n,rfl⟩:∃n:Nat,k=n:=⟨k.toNat,by omega⟩;have hn:n<8:=by omega
 obtain⟨A,l,c,hc,hs,hl⟩:=hT.b n hn;have Hi:=ah (Xz A c l x w hs (by omega));clear hT hs h h8;go_enter func161,ntmps161
 go_wp2_with fail
 refine(Hi.out).mono ?_;rintro e w2 ⟨z,rfl,hx2⟩;go_wp2;go_ret;exact⟨_,rfl,hx2⟩
section
variable {P:Program} {α:Type} {D:El P α} {w w':World} {v:Value} {xs:List α} {base lo hi m:Nat}
theorem Own.patch{g c k f:Nat}{vs:List Value}{r':α}(hown:Own D base w (.slice (some ⟨g,0,none⟩) xs.length c) xs)(hk:k<xs.length)(hr:D.E r'=(D.E xs[k]).take f++vs++(D.E xs[k]).drop (f+vs.length))(hf:f+vs.length<=D.m):
 ∃cur:Array Value,w.heap[g]? =some (.cells cur D.e (0,0))/\k*D.m+f+vs.length<=cur.size/\
  ∀w':World,w'.heap[g]? =some (.cells (cur.toList.take (k*D.m+f)++vs++cur.toList.drop (k*D.m+f+vs.length)).toArray D.e (0,0))->Own D base w' (.slice (some ⟨g,0,none⟩) xs.length c) (xs.set k r'):=by
 rcases hown.2 with⟨hv,h0⟩|⟨g',cap,cur,hv,hg,hh,hn,hc,hcs,ht⟩
 ·cases hv
 ·cases hv
  have hkm:k*D.m+D.m<=xs.length*D.m:=by rw[<-Nat.succ_mul];exact Nat.mul_le_mul_right _ hk
  have hcm:xs.length*D.m<=cur.size:=by rw[hcs];exact Nat.mul_le_mul_right _ hn
  refine⟨cur,hh,by omega,fun w' h6=> ?_⟩;have hl:(D.flat (xs.set k r')).length=xs.length*D.m:=by rw[D.aX,List.length_set]
  have hdec:xs.set k r'=xs.take k++r'::xs.drop (k+1):=by rw[List.set_eq_take_append_cons_drop,bH hk]
  have Le:xs=xs.take k++xs[k]::xs.drop (k+1):=by rw[<-iW hk,jl]
  have hlk:(D.flat (xs.take k)).length=k*D.m:=by rw[D.aX,fu,jF (by omega)]
  have hcurr:cur.toList=D.flat (xs.take k)++(D.E xs[k]++(D.flat (xs.drop (k+1))++cur.toList.drop (xs.length*D.m))):=by
   have e0:cur.toList=D.flat xs++cur.toList.drop (xs.length*D.m):=by
    conv=>lhs;rw[<-jl (xs.length*D.m) cur.toList,ht]
   have e1:D.flat xs=D.flat (xs.take k)++(D.E xs[k]++D.flat (xs.drop (k+1))):=by
    conv=>lhs;rw[Le,D.dF]
    simp only[El.flat,List.flatMap_cons]
   rw[e1]at e0
   conv=>lhs;rw[e0]
   simp only[dV]
  have hEl:(D.E xs[k]).length=D.m:=D.hE _
  have e2:cur.toList.take (k*D.m+f)=D.flat (xs.take k)++(D.E xs[k]).take f:=by
   rw[hcurr,<-hlk,List.take_length_add_append,Ee (by omega)]
  have e3:cur.toList.drop (k*D.m+f+vs.length)=(D.E xs[k]).drop (f+vs.length)++(D.flat (xs.drop (k+1))++cur.toList.drop (xs.length*D.m)):=by
   conv=>lhs;rw[hcurr]
   rw[Nat.add_assoc,<-hlk,List.drop_length_add_append,List.drop_append_of_le_length (by omega)]
  unfold Own World.ownsRow;rw[List.length_set];refine⟨hl,.inr ⟨g,c,_,rfl,hg,h6,hn,hc,?_,?_⟩⟩
  ·simp only[List.size_toArray,eu,fu,jV,lK]
   omega
  ·rw[List.toList_toArray,e2,e3]
   have e4:D.flat (xs.set k r')=D.flat (xs.take k)++D.E r'++D.flat (xs.drop (k+1)):=by
    rw[hdec,D.dF];simp[El.flat]
   have e5:D.flat (xs.take k)++(D.E xs[k]).take f++vs++((D.E xs[k]).drop (f+vs.length)++(D.flat (xs.drop (k+1))++cur.toList.drop (xs.length*D.m)))=D.flat (xs.set k r')++cur.toList.drop (xs.length*D.m):=by
    rw[e4,hr];simp only[dV]
   rw[e5,<-hl];exact List.take_left
end
theorem Wj{P:Program}{ρ:Operand->Value}{o:Oper}{w:World}{T:Value->World->Prop}(s f:Nat)(x:Operand)(ho:o.op=.fieldAddr s x f)(fs:Array Field)(hs:P.underlying s=some (.struct fs))(kF:Field)(hf:fs[f]? =some kF)(m:Nat)(hm:∀w,(sizeOf kF.type).run P w=.ok m w)(hm0:m≠0)
 (b off:Nat) (hx:ρ x=.pointer (some ⟨b,off,none⟩)) (h:T (.pointer (some ⟨b,off+kF.offset,none⟩)) w):bL P ρ o w T:=by
 have ea:((⟨b,off,none⟩:Addr).add kF.offset)=⟨b,off+kF.offset,none⟩:=by
  unfold Addr.add
  split
  ·rename_i h0;simp[h0]
  ·rfl
 refine eT (w':=w) (v:=.pointer (some ⟨b,off+kF.offset,none⟩)) ?_ (Ext.refl _) h;simp[execOp,ho,hx,Instr.fieldAt,run_underlying hs,hf,Instr.sureAddr,fieldPlace,hm,hm0,ea]
theorem XA(A:Option Addr)(c:Nat)(l:List aB)(w:World)(hs:Sl aj w A l)(hn:l.length<=1048576):
 Calls prog 171 #[.slice A l.length c] w (Dw aj w l):=by
 have hq:=fun W=>Lib.run_eql_slice_nil (P:=prog) W 28 30 A l.length c 0 0 underlying28;cases A with
 |none=>
  have h0:l=[]:=by
   cases l with
   |nil=>rfl
   |cons x l=>obtain⟨_,_,h,_⟩:=hs (by simp);cases h
  subst h0;simp only[List.length_nil]at hq;go_enter func171,ntmps171
  go_wp2;go_ret;exact⟨_,rfl,Own.nil _,Ext.refl _⟩
 |some ad=>
  go_enter func171,ntmps171
  go_wp2_with (at_builtin;refine fK aj rfl _ _ rfl c rfl (Own.made aj (aI _)) rfl (hs.ext ((Ext.refl _).alloc _)) (by simp;omega) (by simp) ?_;intro v' w1 hown' hb1 hg1)
  go_ret;exact⟨_,rfl,hown',((Ext.refl _).alloc _).trans' hb1⟩
theorem LA(A:Option Addr)(c:Nat)(l:List aJ)(w:World)(hs:Sl aQ w A l)(hn:l.length<=1048576):
 Calls prog 147 #[.slice A l.length c] w (Dw aQ w l):=by
 have hq:=fun W=>Lib.run_eql_slice_nil (P:=prog) W 27 48 A l.length c 0 0 underlying27;cases A with
 |none=>
  have h0:l=[]:=by
   cases l with
   |nil=>rfl
   |cons x l=>obtain⟨_,_,h,_⟩:=hs (by simp);cases h
  subst h0;simp only[List.length_nil]at hq;go_enter func147,ntmps147
  go_wp2;go_ret;exact⟨_,rfl,Own.nil _,Ext.refl _⟩
 |some ad=>
  go_enter func147,ntmps147
  go_wp2_with (at_builtin;refine fK aQ rfl _ _ rfl c rfl (Own.made aQ (aI _)) rfl (hs.ext ((Ext.refl _).alloc _)) (by simp;omega) (by simp) ?_;intro v' w1 hown' hb1 hg1)
  go_ret;exact⟨_,rfl,hown',((Ext.refl _).alloc _).trans' hb1⟩
theorem dI.LB{u:av}(h:dI u):iD (qm 1048576 1048576) u:=iD.mono (fun u h=>by
 obtain⟨a,i,n,k,l,hd,wd,kids⟩:=u;obtain⟨h1,h2,h3,h4,_⟩:=h;simp only[av.head,av.words,av.kids]at h2 h3 h4;exact⟨by omega,by omega,by omega⟩) u h.all
end Go.Proofs.YtgboomjahhnldaaGreatDoor
