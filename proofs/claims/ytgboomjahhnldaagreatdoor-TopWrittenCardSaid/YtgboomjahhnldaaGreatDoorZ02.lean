/- A part of the proof of TopWritten, printed small: Base Top. -/
import Derived.Test.YtgboomjahhnldaaGreatDoorProg
import Derived.Test.YtgboomjahhnldaaGreatDoorZ01
import Derived.WalkLawsBesides
import Derived.WalkSpells
import Derived.Lib.Hide
import Derived.Deep.QuietTactic
import Derived.BigQuiet
import Derived.Deep.Draws
import Derived.Laws.AppendOwnNone
import Derived.Test.YtgboomjahhnldaaGreatDoorRows
import Derived.WalkKit
import Derived.ProofKit
import Derived.OpenShut
import Derived.Deep.Slices
import Derived.JoinedCond
import Derived.Carry
set_option maxRecDepth 100000
set_option maxHeartbeats 25600000
set_option linter.all false
namespace Go.Proofs.YtgboomjahhnldaaGreatDoor
open Go.Proofs.Tryz Go.RowKit
structure El (P:Program) (α:Type) where
 t:TypeId
 e:TypeId
 m:Nat
 bytes:Nat
 z:Value
 E:α->List Value
 hE:∀x,(E x).length=m
 h1:∀x u,u∈E x->u.oneCell'=true
 ht:P.underlying t=some (.slice e)
 hi:(P.info? e).map (fun i=>(i.zero,i.size,i.bytes))=some (some z,m,bytes)
 hz:z.cells.size=m
 hm:0<m
 hb:bytes<=1024
 agg:Bool
 hagg:∀w,(isAgg e).run P w=.ok agg w
section
variable {P:Program} {α:Type} {D:El P α} {w w':World} {A:Option Addr} {v:Value} {base:Nat} {xs ys:List α}
def El.flat(D:El P α)(xs:List α):List Value:=xs.flatMap D.E
theorem El.aX(D:El P α)(xs:List α):(D.flat xs).length=xs.length*D.m:=by
 induction xs with
 |nil=>simp[El.flat]
 |cons x xs ih=>
  simp only[El.flat]at ih;simp only[El.flat,List.flatMap_cons,eu,ih,D.hE,iX,Nat.succ_mul];omega
theorem El.dF(D:El P α)(xs ys:List α):D.flat (xs++ys)=D.flat xs++D.flat ys:=by simp[El.flat]
theorem El.yP(D:El P α)(x:α):D.flat [x]=D.E x:=by simp[El.flat]
theorem El.vJ(D:El P α){xs:List α}:∀u∈D.flat xs,u.oneCell'=true:=by
 intro u hu;simp only[El.flat,List.mem_flatMap]at hu;obtain⟨x,_,hx⟩:=hu;exact D.h1 x u hx
theorem El.flat_get(D:El P α):∀(xs:List α) (k j:Nat) (x:α) (u:Value),xs[k]? =some x->(D.E x)[j]? =some u->(D.flat xs)[k*D.m+j]? =some u
 |[],k,j,x,u,hk,_=>by simp at hk
 |y::ys,0,j,x,u,hk,hj=>by
  simp only[List.getElem?_cons_zero,Option.some.injEq]at hk;subst hk;have hl:j<(D.E y).length:=(List.getElem?_eq_some_iff.1 hj).1;simp only[El.flat,List.flatMap_cons,Nat.zero_mul,bV];rw[Ef hl,hj]
 |y::ys,k+1,j,x,u,hk,hj=>by
  have:=El.flat_get D ys k j x u (by simpa using hk) hj;simp only[El.flat,List.flatMap_cons]at this⊢;rw[nJ (by rw[D.hE,Nat.succ_mul];omega),D.hE,<-this]
  congr 1
  rw[Nat.succ_mul];omega
def Sl(D:El P α)(w:World)(A:Option Addr)(xs:List α):Prop:=
 xs≠[]->∃b off,A=some ⟨b,off,none⟩/\b<w.heap.size/\∀j u,(D.flat xs)[j]? =some u->w.cell? ⟨b,off+j,none⟩=some u
theorem Sl.nil:Sl D w A []:=fun h=>absurd rfl h
theorem Sl.ext(h:Sl D w A xs)(he:Ext w w'):Sl D w' A xs:=fun hn=>by
 obtain⟨b,off,hA,hb,hc⟩:=h hn;exact⟨b,off,hA,bQ hb he.size,fun j u hu=>(he.cell (p:=⟨b,off+j,none⟩) hb).trans (hc j u hu)⟩
theorem Sl.at_(h:Sl D w A xs){k:Nat}(hk:k<xs.length):∃b off,A=some ⟨b,off,none⟩/\b<w.heap.size/\∀j u,(D.E xs[k])[j]? =some u->w.cell? ⟨b,off+k*D.m+j,none⟩=some u:=by
 obtain⟨b,off,hA,hb,hc⟩:=h (by intro e;subst e;simp at hk);refine⟨b,off,hA,hb,fun j u hu=> ?_⟩;have:=hc _ u (D.flat_get xs k j xs[k] u (fP hk) hu)
 rwa[<-Nat.add_assoc]at this
theorem Sl.take(h:Sl D w A xs)(k:Nat):Sl D w A (xs.take k):=fun hn=>by
 have hx:xs≠[]:=by intro e;subst e;simp at hn
 obtain⟨b,off,hA,hb,hc⟩:=h hx;refine⟨b,off,hA,hb,fun j u hu=>hc j u ?_⟩;rw[<-jl k xs,D.dF,Ef (List.getElem?_eq_some_iff.1 hu).1];exact hu
theorem Sl.drop(h:Sl D w A xs)(k cap:Nat)(hk:k<=xs.length)(hc:xs.length<=cap):Sl D w (if cap=k then A else A.map (·.add (k*D.m))) (xs.drop k):=fun hn=>by
 have hkl:k<xs.length:=by
  rcases gM k xs.length with h|h
  ·exact h
  ·exact absurd (mH h) hn
 obtain⟨b,off,hA,hb,hcell⟩:=h (by intro e;subst e;simp at hkl);rw[aU (by omega),hA];refine⟨b,off+k*D.m,?_,hb,fun j u hu=> ?_⟩
 ·simp only[Option.map_some,Addr.add]
  split
  ·rename_i h0;simp[h0]
  ·rfl
 ·have:(D.flat xs)[k*D.m+j]? =some u:=by
   rw[<-jl k xs,D.dF,nJ (by rw[D.aX,fu];rw[jF hk];omega),D.aX,fu,jF hk];rw[<-hu];congr 1;omega
  have:=hcell _ u this
  rwa[<-Nat.add_assoc]at this
def Own(D:El P α)(base:Nat)(w:World)(v:Value)(xs:List α):Prop:=w.ownsRow base D.e D.m v xs.length (D.flat xs)
theorem Own.nil(base:Nat):Own D base w (.slice none 0 0) []:=⟨by simp[El.flat],.inl ⟨rfl,rfl⟩⟩
theorem Own.form(h:Own D base w v xs):∃A c,v=.slice A xs.length c/\xs.length<=c/\Sl D w A xs:=by
 rcases h.2 with⟨hv,h0⟩|⟨g,cap,cur,hv,hg,hh,hn,hc,hs,ht⟩
 ·have:xs=[]:=kM h0
  subst this;exact⟨none,0,hv,aI _,Sl.nil⟩
 ·refine⟨some ⟨g,0,none⟩,cap,hv,hn,fun _=>⟨g,0,rfl,?_,fun j u hu=> ?_⟩⟩
  ·rcases gM g w.heap.size with hlt|hge
   ·exact hlt
   ·rw[ze hge]at hh;cases hh
  ·rw[bV]
   simp only[World.cell?,hh];have:(cur.toList.take (xs.length*D.m))[j]? =some u:=by rw[ht];exact hu
   rw[List.getElem?_take]at this
   split at this
   ·simpa using this
   ·cases this
theorem Own.ext(h:Own D base w v xs)(he:Ext w w'):Own D base w' v xs:=by
 refine⟨h.1,?_⟩;rcases h.2 with h2|⟨g,cap,cur,hv,hg,hh,r⟩
 ·exact .inl h2
 ·have hlt:g<w.heap.size:=by
   rcases gM g w.heap.size with hlt|hge
   ·exact hlt
   ·rw[ze hge]at hh;cases hh
  exact .inr ⟨g,cap,cur,hv,hg,(he.block hlt).trans hh,r⟩
theorem Own.mono{base base':Nat}(h:Own D base w v xs)(hb:base'<=base):Own D base' w v xs:=by
 refine⟨h.1,?_⟩;rcases h.2 with h2|⟨g,cap,cur,hv,hg,r⟩
 ·exact .inl h2
 ·exact .inr ⟨g,cap,cur,hv,by omega,r⟩
end
def bP:El prog ByteArray:={t:=37,e:=9,m:=1,bytes:=16,z:=.string ByteArray.empty,E:=fun s=>[.string s],hE:=fun _=>rfl,h1:=by simp[Value.oneCell'],ht:=by kernel_rfl,hi:=by kernel_rfl,hz:=rfl,hm:=by decide,hb:=by decide,agg:=false,hagg:=isAgg9}
def fD:El prog Int:={t:=103,e:=3,m:=1,bytes:=8,z:=.int .i64 0,E:=fun s=>[.int .i64 s],hE:=fun _=>rfl,h1:=by simp[Value.oneCell'],ht:=by kernel_rfl,hi:=by kernel_rfl,hz:=rfl,hm:=by decide,hb:=by decide,agg:=false,hagg:=isAgg3}
structure aJ where
 t:ByteArray
 a:Int
 i:Int
 k:Int
def aJ.cells(x:aJ):List Value:=[.string x.t,.int .i64 x.a,.int .i64 x.i,.int .i64 x.k]
def aQ:El prog aJ:={t:=27,e:=48,m:=4,bytes:=40,z:=.agg #[.string ByteArray.empty,.int .i64 0,.int .i64 0,.int .i64 0],E:=aJ.cells,hE:=fun _=>rfl,h1:=by simp[aJ.cells,Value.oneCell'],ht:=by kernel_rfl,hi:=by kernel_rfl,hz:=rfl,hm:=by decide,hb:=by decide,agg:=true,hagg:=isAgg48}
end Go.Proofs.YtgboomjahhnldaaGreatDoor
namespace Go.Proofs.YtgboomjahhnldaaGreatDoor
open Go.ChangeAt Go.ChangeShapes Go.Deep Go.Proofs.Tryz Go.RowKit Go.WideShapes
section
variable {H:Type} {enc:TypeId×Value->H} {P:Program} {W W':World}
theorem Fu(hl:laidOutB P=true):∀(ts:List TypeId) (vs:List Value) (ds:List (DataW H)) (ps:List MemPlace),(∀t∈ts,P.readableRec t=true/\t<P.types.size)->
 DataW.TrodAll enc P W 0 (fun _=>true) true ts vs ds ps->Ext W W'->(∀x∈ps,x.block<W.heap.size)->DataW.TrodAll enc P W' 0 (fun b=>decide (b<W.heap.size)) true ts vs ds ps
 |[],vs,ds,ps,_,h,_,_=>by
  obtain⟨rfl,rfl,rfl⟩:=trodAll_nil h;exact trodAll_mk0
 |t::ts,vs,ds,ps,hr,h,he,hlt=>by
  obtain⟨v,vs',d,ds',p,q,rfl,rfl,rfl,h1,h2⟩:=trodAll_cons h;exact trodAll_cons_mk (Below.trod hl (hr t (by simp)).1 (hr t (by simp)).2 h1 he (fun x hx=>hlt x (by simp[hx]))) (Fu hl ts vs' ds' q (fun t ht=>hr t (by simp[ht])) h2 he (fun x hx=>hlt x (by simp[hx])))
theorem ac8{f:Func}{s:ChangeSpec}{b:TypeId}{apart fresh handsOn:Bool}{args:Array Value}{ds gs:List (DataW H)}{before:List MemPlace}(hl:laidOutB P=true)(hr:f.params.toList.all (fun t=>P.readableRec t&&decide (t<P.types.size))=true)
 (hres:f.resultTypes= #[b]) (hb:P.underlying b=some .bool) (hv:s.vars=[]) (hs:s.fn H (ds++gs)={results:=[.lit (.bool true)],args:=ds}) (hW:DataW.Whole enc P f.params.toList s.vars apart W args.toList ds gs before) (he:Ext W W'):
 s.post enc P f apart fresh handsOn false W args (.bool true) W':=by
 have hlt:=hW.lt;obtain⟨p,q,hA,hV,rfl,hfz,hnd⟩:=id hW;rw[hv]at hV;obtain⟨rfl,rfl⟩:=trodVars_none hV;rw[kY]at hs;have e1:(s.fn H ds).results=[.lit (.bool true)]:=by rw[hs]
 have e2:(s.fn H ds).args=ds:=by rw[hs]
 have e3:(s.fn H ds).vars=[]:=by rw[hs]
 refine⟨ds,[],_,[],p,[],hW,?_,?_,?_,he.frame _,fun h=>by cases h⟩
 ·rw[kY,e1,hres]
  exact trodAll_mk1 (shut_bool hb _)
 ·rw[kY,e2]
  refine Fu hl _ _ _ _ (fun t ht=> ?_) hA he (fun x hx=>hlt x (by simp[hx]));have:=List.all_eq_true.1 hr t ht;simpa using this
 ·rw[kY,e3,hv]
  rfl
theorem El.cells{α:Type}(D:El P α):P.cellsOf D.e=D.m:=by
 have h:=D.hi;unfold Program.cellsOf;cases hi:P.info? D.e with
 |none=>rw[hi]at h;simp at h
 |some i=>
  rw[hi]at h;simp only[Option.map_some,Option.some.injEq,Prod.mk.injEq]at h;simp[h.2.1]
theorem oP{α:Type}{held:Bool}(D:El P α)(R:α->DataW H->Prop)(hRd:∀n cs d pl,cs.length=D.m->DataW.trod enc P W 0 (fun _=>true) held n D.e cs=some (d,pl)->∃x,cs=D.E x/\R x d)
 {n:Nat} {cs:List Value} {d:DataW H} {pl:List MemPlace} (h:DataW.trod enc P W 0 (fun _=>true) held n D.t cs=some (d,pl)):
 ∃(A:Option Addr) (c:Nat) (xs:List α) (ds sp:List (DataW H)),cs=[.slice A xs.length c]/\xs.length<=c/\c<=maxLen/\Sl D W A xs/\(d=.nil/\xs=[]/\ds=[]/\sp=[]/\A=none/\c=0∨d=.slice ds sp)/\ds.length=xs.length/\sp.length=c-xs.length/\∀(k:Nat) (x:α) (y:DataW H),xs[k]? =some x->ds[k]? =some y->R x y:=by
 rcases open_slice D.ht h with⟨rfl,hx⟩|⟨a,len,cap,m,n',Ds,Pl,rfl,-,hl,hm,hmm,hx,hel⟩
 ·simp only[Prod.mk.injEq]at hx
  exact⟨none,0,[],[],[],rfl,aI _,by decide,Sl.nil,.inl ⟨hx.1,rfl,rfl,rfl,rfl,rfl⟩,rfl,rfl,fun k x y h=>by simp at h⟩
 ·simp only[if_true]at hmm
  subst hmm
  have key:∀i,i<len->∃x,W.cells? 0 (a.add (i*P.cellsOf D.e)) (P.cellsOf D.e)=some (D.E x)/\R x (Ds i):=by
   intro i hi;obtain⟨cs',h1,h2⟩:=hel i (by omega);obtain⟨-,h3,-⟩:=World.cells?_some h1;obtain⟨x,rfl,hx'⟩:=hRd _ _ _ _ (by rw[h3,El.cells]) h2;exact⟨x,h1,hx'⟩
  simp only[Prod.mk.injEq]at hx;rcases Nat.eq_zero_or_pos len with h0|h0
  ·subst h0
   exact⟨some a,m,[],[],(List.range (m-0)).map fun j=>Ds (0+j),rfl,hl,hm,Sl.nil,.inr hx.1,rfl,by simp,fun k x y h=>by simp at h⟩
  ·obtain⟨x0,hx0,-⟩:=key 0 h0
   haveI:Inhabited α:=⟨x0⟩
   obtain⟨X,hX⟩:=choose_lt key;obtain⟨-,-,hc0⟩:=World.cells?_some hx0
   have hsp:a.spot=none:=by
    have h1:=hc0 0 (by rw[El.cells];exact D.hm);have hlen:=D.hE x0;have hm0:=D.hm;rw[fP (by omega)]at h1;have:=World.cell?_spot h1;simpa[Addr.add]using this
   obtain⟨b,off,spot⟩:=a;simp only at hsp;subst hsp
   have hcell:∀i,i<len->∀j u,(D.E (X i))[j]? =some u->W.cell? ⟨b,off+(i*D.m+j),none⟩=some u:=by
    intro i hi j u hu;have h1:=(hX i hi).1;obtain⟨-,h3,h4⟩:=World.cells?_some h1
    have hj:j<P.cellsOf D.e:=by
     have:=(List.getElem?_eq_some_iff.1 hu).1;omega
    have h5:=h4 j hj;rw[hu,El.cells,add_plain,add_plain,Nat.add_assoc]at h5;exact h5
   refine⟨some ⟨b,off,none⟩,m,(List.range len).map X,(List.range len).map Ds,(List.range (m-len)).map fun j=>Ds (len+j),by simp,by simpa using hl,hm,?_,.inr hx.1,by simp,by simp,?_⟩
   ·intro _
    refine⟨b,off,rfl,?_,?_⟩
    ·have hm0:=D.hm
     have hlen:=D.hE (X 0);have h6:=hcell 0 h0 0 _ (fP (by omega));unfold World.cell? at h6;simp only at h6;rcases gM b W.heap.size with hlt|hge
     ·exact hlt
     ·rw[ze hge]at h6;simp at h6
    ·intro j u hu
     have hm0:=D.hm
     have hjl:j<len*D.m:=by
      have:=(List.getElem?_eq_some_iff.1 hu).1;rw[D.aX]at this;simpa using this
     have hi:j/D.m<len:=Nat.div_lt_of_lt_mul (by rw[Nat.mul_comm];exact hjl);have hj:j=j/D.m*D.m+j%D.m:=by rw[Nat.mul_comm];exact(Nat.div_add_mod j D.m).symm
     have hjm:j%D.m<D.m:=Nat.mod_lt _ hm0;have hlen:=D.hE (X (j/D.m));have h7:=D.flat_get ((List.range len).map X) (j/D.m) (j%D.m) (X (j/D.m)) _ (by simp[hi]) (fP (by omega));rw[<-hj,hu]at h7;have h8:=hcell _ hi (j%D.m) u (by rw[fP (by omega),<-h7]);rw[<-hj]at h8;exact h8
   ·intro k x y hx1 hy1
    rw[List.getElem?_map]at hx1 hy1;cases hk:(List.range len)[k]? with
    |none=>rw[hk]at hx1;simp at hx1
    |some i=>
     rw[hk]at hx1 hy1;simp only[Option.map_some,Option.some.injEq]at hx1 hy1;subst hx1;subst hy1
     have:i<len:=by
      have:=List.mem_of_getElem? hk;simpa using this
     exact(hX i this).2
end
def ac9{H:Type}(s:ByteArray)(d:DataW H):Prop:=d=.lit (.string s.data.toList)/\s.size<=maxLen
def ada{H:Type}(n:Int)(d:DataW H):Prop:=d=.lit (.int .i64 n)/\-9223372036854775808<=n/\n<=9223372036854775807
theorem wf_i64{n:Int}(h:(Lit.int .i64 n).wf=true): -9223372036854775808<=n/\n<=9223372036854775807:=by
 simpa[Lit.wf,IntKind.min,IntKind.max,IntKind.signed,IntKind.bits]using h
section
variable {H:Type} {enc:TypeId×Value->H} {W:World}
theorem Zx:∀n cs (d:DataW H) pl,cs.length=bP.m->DataW.trod enc prog W 0 (fun _=>true) true n bP.e cs=some (d,pl)->∃x,cs=bP.E x/\ac9 x d:=by
 intro n cs d pl _ h;obtain⟨s,rfl,hx,hs⟩:=DataW.trod_string underlying9 h;simp only[Prod.mk.injEq]at hx;exact⟨s,rfl,hx.1,hs⟩
theorem Zy{held:Bool}:∀n cs (d:DataW H) pl,cs.length=fD.m->DataW.trod enc prog W 0 (fun _=>true) held n fD.e cs=some (d,pl)->∃x,cs=fD.E x/\ada x d:=by
 intro n cs d pl _ h;obtain⟨s,rfl,hx,hs⟩:=DataW.trod_int underlying3 h;simp only[Prod.mk.injEq]at hx;exact⟨s,rfl,hx.1,wf_i64 hs⟩
def Xf(x:aJ)(d:DataW H):Prop:=d=.agg [.lit (.string x.t.data.toList),.agg [.lit (.int .i64 x.a),.lit (.int .i64 x.i),.lit (.int .i64 x.k)]]/\x.t.size<=maxLen/\(-9223372036854775808<=x.a/\x.a<=9223372036854775807)/\(-9223372036854775808<=x.i/\x.i<=9223372036854775807)/\(-9223372036854775808<=x.k/\x.k<=9223372036854775807)
theorem ahI(n:Nat)(cs:List Value)(x:DataW H×List MemPlace)(h:DataW.trod enc prog W 0 (fun _=>true) true n 46 cs=some x):
 ∃a i k,cs=[.int .i64 a,.int .i64 i,.int .i64 k]/\x.1=.agg [.lit (.int .i64 a),.lit (.int .i64 i),.lit (.int .i64 k)]/\(-9223372036854775808<=a/\a<=9223372036854775807)/\(-9223372036854775808<=i/\i<=9223372036854775807)/\(-9223372036854775808<=k/\k<=9223372036854775807):=by
 obtain⟨xs,m,rfl,rfl,hlen,hxl,hf⟩:=DataW.trod_struct underlying46 h;have hc:prog.cellsOf 46=3:=by kernel_rfl
 have hi:prog.cellsOf 3=1:=by kernel_rfl
 rw[hc]at hlen
 match cs,hlen with
 |[c0,c1,c2],_=>
  match xs,hxl with
  |[x0,x1,x2],_=>
   have f0:DataW.trod enc prog W 0 (fun _=>true) true m 3 (([c0,c1,c2].drop 0).take (prog.cellsOf 3))=some x0:=hf 0 _ rfl;have f1:DataW.trod enc prog W 0 (fun _=>true) true m 3 (([c0,c1,c2].drop 1).take (prog.cellsOf 3))=some x1:=hf 1 _ rfl;have f2:DataW.trod enc prog W 0 (fun _=>true) true m 3 (([c0,c1,c2].drop 2).take (prog.cellsOf 3))=some x2:=hf 2 _ rfl;rw[hi]at f0 f1 f2;obtain⟨a,ha,rfl,wa⟩:=DataW.trod_int underlying3 f0;obtain⟨i,hi',rfl,wi⟩:=DataW.trod_int underlying3 f1;obtain⟨k,hk,rfl,wk⟩:=DataW.trod_int underlying3 f2;simp only[List.drop_zero,List.drop_succ_cons,List.take_succ_cons,List.take_zero,List.cons.injEq,and_true]at ha hi' hk;subst ha;subst hi';subst hk;exact⟨a,i,k,rfl,rfl,wf_i64 wa,wf_i64 wi,wf_i64 wk⟩
theorem V3:∀n cs (d:DataW H) pl,cs.length=aQ.m->DataW.trod enc prog W 0 (fun _=>true) true n aQ.e cs=some (d,pl)->∃x,cs=aQ.E x/\Xf x d:=by
 intro n cs d pl hcs h;obtain⟨xs,m,rfl,hx,hlen,hxl,hf⟩:=DataW.trod_struct underlying48 h;have hi:prog.cellsOf 9=1:=by kernel_rfl
 have hm:prog.cellsOf 46=3:=by kernel_rfl
 change cs.length=4 at hcs
 match cs,hcs with
 |[c0,c1,c2,c3],_=>
  match xs,hxl with
  |[x0,x1],_=>
   have f0:DataW.trod enc prog W 0 (fun _=>true) true m 9 (([c0,c1,c2,c3].drop 0).take (prog.cellsOf 9))=some x0:=hf 0 _ rfl;have f1:DataW.trod enc prog W 0 (fun _=>true) true m 46 (([c0,c1,c2,c3].drop 1).take (prog.cellsOf 46))=some x1:=hf 1 _ rfl;rw[hi]at f0;rw[hm]at f1;obtain⟨s,hs,rfl,ws⟩:=DataW.trod_string underlying9 f0;obtain⟨a,i,k,hc,hd,wa,wi,wk⟩:=ahI _ _ _ f1;simp only[List.drop_zero,List.drop_succ_cons,List.take_succ_cons,List.take_zero,List.cons.injEq,and_true]at hs hc;obtain⟨rfl,rfl,rfl⟩:=hc;subst hs;simp only[Prod.mk.injEq,gX,List.map_nil,hd]at hx;exact⟨⟨s,a,i,k⟩,rfl,hx.1,ws,wa,wi,wk⟩
end
theorem own:ownKnob prog.godebug=none:=by kernel_rfl
theorem laidOut:laidOutB prog=true:=by kernel_rfl
end Go.Proofs.YtgboomjahhnldaaGreatDoor
