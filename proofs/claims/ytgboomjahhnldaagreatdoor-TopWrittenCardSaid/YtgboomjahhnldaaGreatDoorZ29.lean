/- A part of the proof of TopWritten, printed small: TCoreP TTarget1. -/
import Derived.Test.YtgboomjahhnldaaGreatDoorZ09
import Derived.Test.YtgboomjahhnldaaGreatDoorZ28
import Derived.Test.YtgboomjahhnldaaGreatDoorZ26
import Derived.Test.YtgboomjahhnldaaGreatDoorZ15
set_option maxRecDepth 100000
set_option maxHeartbeats 25600000
set_option linter.all false
namespace Go.Proofs.YtgboomjahhnldaaGreatDoor
open Go.Proofs.Tryz Go.RowKit
structure gZ where
 id:bf
 kind:Int
 label:ByteArray
 head:List aJ
 words:List aJ
 kn:Nat
def av.core(u:av):gZ:=⟨u.id,u.kind,u.label,u.head,u.words,u.kids.length⟩
def dN(u:av):List gZ:=(bO u).map av.core
def iH(us:List av):List gZ:=(eO us).map av.core
theorem iP(u:av):dN u=u.core::iH u.kids:=by unfold dN iH;rw[jy,gX]
theorem PV:iH []=[]:=by unfold iH;rw[eO];rfl
theorem mY(u:av)(us:List av):iH (u::us)=dN u++iH us:=by unfold dN iH;rw[eO,List.map_append]
theorem Iw(us vs:List av):iH (us++vs)=iH us++iH vs:=by unfold iH;rw[uP,List.map_append]
theorem Iy(u:av):(dN u).length=cntF u:=by unfold dN;rw[jA,nW]
theorem zJ{u:av}{c:gZ}(h:c∈dN u):∃x∈bO u,x.core=c:=List.mem_map.1 h
theorem qG{u x:av}(h:x∈bO u):x.core∈dN u:=List.mem_map.2 ⟨x,h,rfl⟩
theorem Ce(u:av)(ks:List av):(u.dJ ks).core={u.core with kn:=ks.length}:=by cases u;rfl
theorem zZ(u:av)(ks:List av):(u.dJ ks).kids=ks:=by cases u;rfl
theorem abI(id:bf)(f:av->av)(u:av):fZ id f u=if u.id=id then f u else u.dJ (lD id f u.kids):=by cases u;rw[fZ];rfl
theorem PW(id:bf)(f:av->av):∀us:List av,(lD id f us).length=us.length
 |[]=>by rw[lD]
 |u::us=>by
  rw[lD]
  split
  ·rw[iX,iX,PW id f us]
  ·rw[iX,iX]
structure Pk (id:bf) (f:av->av) (c c':List gZ) (pre:List av):Prop where
 ex:∃x A B,x∈pre/\x.id=id/\c=A++dN x++B/\c'=A++dN (f x)++B
mutual
theorem zK(id:bf)(f:av->av):∀u,cZ id u≠[]->Pk id f (dN u) (dN (fZ id f u)) (bO u)
 |.mk a i n k l hd wd kids,h=>by
  rw[fZ];by_cases he:(⟨a,i,n⟩:bf)=id
  ·rw[bH he]
   exact⟨.mk a i n k l hd wd kids,[],[],by rw[bO];exact List.mem_cons_self ..,he,by simp,by simp⟩
  ·rw[aU he]
   rw[cZ,aU he]at h
   split at h
   ·exact absurd rfl h
   ·rename_i hw
    obtain⟨x,A,B,hx,hxi,h1,h2⟩:=MK id f kids hw;refine⟨x,av.core (.mk a i n k l hd wd kids)::A,B,by rw[bO];exact lV _ hx,hxi,?_,?_⟩
    ·rw[iP]
     show _::iH kids=_;rw[h1];rfl
    ·rw[iP]
     show av.core _::iH (lD id f kids)=_;rw[h2]
     have:av.core (.mk a i n k l hd wd (lD id f kids))=av.core (.mk a i n k l hd wd kids):=by
      show(⟨_,_,_,_,_,(lD id f kids).length⟩:gZ)=⟨_,_,_,_,_,kids.length⟩;rw[PW];rfl
     rw[this];rfl
theorem MK(id:bf)(f:av->av):∀us,gV id us≠[]->Pk id f (iH us) (iH (lD id f us)) (eO us)
 |[],h=>by rw[gV]at h;exact absurd rfl h
 |u::us,h=>by
  rw[gV]at h;rw[lD]
  split at h
  ·rename_i hu
   rw[bH hu];obtain⟨x,A,B,hx,hxi,h1,h2⟩:=MK id f us h;refine⟨x,dN u++A,B,by rw[eO];exact qh _ hx,hxi,?_,?_⟩
   ·rw[mY,h1];simp
   ·rw[mY,h2];simp
  ·rename_i hu
   rw[aU hu];obtain⟨x,A,B,hx,hxi,h1,h2⟩:=zK id f u h;refine⟨x,A,B++iH us,by rw[eO];exact nK _ hx,hxi,?_,?_⟩
   ·rw[mY,h1];simp
   ·rw[mY,h2];simp
end
mutual
theorem MN(id:bf)(f:av->av):∀u,cZ id u=[]->fZ id f u=u
 |.mk a i n k l hd wd kids,h=>by
  rw[cZ]at h;rw[fZ]
  split at h
  ·cases h
  ·rename_i he
   rw[aU he]
   split at h
   ·rename_i hw
    rw[MO id f kids hw]
   ·cases h
theorem MO(id:bf)(f:av->av):∀us,gV id us=[]->lD id f us=us
 |[],_=>by rw[lD]
 |u::us,h=>by
  rw[gV]at h;rw[lD]
  split at h
  ·rename_i hu
   rw[bH hu,MO id f us h]
  ·rename_i hu
   exact absurd h hu
end
mutual
theorem tF(id:bf):∀u,(∃x∈bO u,x.id=id)->cZ id u≠[]
 |.mk a i n k l hd wd kids,⟨x,hx,hi⟩=>by
  rw[cZ]
  split
  ·simp
  ·rename_i he
   rw[bO]at hx;rcases List.mem_cons.1 hx with rfl|hx
   ·exact absurd hi he
   ·rw[aU (PX id kids ⟨x,hx,hi⟩)]
    simp
theorem PX(id:bf):∀us,(∃x∈eO us,x.id=id)->gV id us≠[]
 |[],⟨x,hx,_⟩=>by rw[eO]at hx;cases hx
 |u::us,⟨x,hx,hi⟩=>by
  rw[eO]at hx;rw[gV]
  split
  ·rename_i hu
   rcases List.mem_append.1 hx with hx|hx
   ·exact absurd hu (tF id u ⟨x,hx,hi⟩)
   ·exact PX id us ⟨x,hx,hi⟩
  ·rename_i hu
   exact hu
end
mutual
theorem rC(id:bf):∀u x,(cZ id u).getLast? =some x->x.id=id/\x∈bO u
 |.mk a i n k l hd wd kids,x,h=>by
  rw[cZ]at h;rw[bO]
  split at h
  ·rename_i he
   simp only[List.getLast?_singleton,Option.some.injEq]at h;subst h;exact⟨he,List.mem_cons_self ..⟩
  ·split at h
   ·cases h
   ·rename_i hw
    obtain⟨y,ys,hy⟩:=List.exists_cons_of_ne_nil hw;rw[hy,List.getLast?_cons_cons,<-hy]at h;obtain⟨h1,h2⟩:=PY id kids x h;exact⟨h1,lV _ h2⟩
theorem PY(id:bf):∀us x,(gV id us).getLast? =some x->x.id=id/\x∈eO us
 |[],x,h=>by rw[gV]at h;cases h
 |u::us,x,h=>by
  rw[gV]at h;rw[eO]
  split at h
  ·obtain⟨h1,h2⟩:=PY id us x h
   exact⟨h1,qh _ h2⟩
  ·obtain⟨h1,h2⟩:=rC id u x h
   exact⟨h1,nK _ h2⟩
end
def kW(c:List gZ):List bf:=c.map gZ.id
theorem wZ{u x y:av}(h:(kW (dN u)).Nodup)(hx:x∈bO u)(hy:y∈bO u)(he:x.id=y.id):x=y:=by
 have hp:((bO u).map av.id).Nodup:=by
  have:kW (dN u)=(bO u).map av.id:=by
   unfold kW dN;rw[List.map_map];rfl
  rwa[this]at h
 have go:∀l:List av,(l.map av.id).Nodup->x∈l->y∈l->x=y:=by
  intro l
  induction l with
  |nil=>intro _ hx;cases hx
  |cons v l ih=>
   intro hn hx hy;rw[gX,List.nodup_cons]at hn;rcases List.mem_cons.1 hx with hx1|hx1
   ·rcases List.mem_cons.1 hy with hy1|hy1
    ·rw[hx1,hy1]
    ·exact absurd (List.mem_map.2 ⟨y,hy1,by rw[<-he,hx1]⟩) hn.1
   ·rcases List.mem_cons.1 hy with hy1|hy1
    ·exact absurd (List.mem_map.2 ⟨x,hx1,by rw[he,hy1]⟩) hn.1
    ·exact ih hn.2 hx1 hy1
 exact go _ hp hx hy
theorem Dp:∀(ks:List av) (j:Nat) (h:j<ks.length),(iH (ks.eraseIdx j)++dN ks[j]).Perm (iH ks)
 |k::ks,0,_=>by
  simp only[List.eraseIdx_cons_zero,List.getElem_cons_zero];rw[mY];exact List.perm_append_comm
 |k::ks,j+1,h=>by
  simp only[List.eraseIdx_cons_succ,List.getElem_cons_succ];rw[mY,mY,dV];exact(Dp ks j (by simpa using h)).append_left _
theorem abJ(ks:List av)(j:Nat)(z:av):(iH (ks.take j++z::ks.drop j)).Perm (iH ks++dN z):=by
 rw[Iw,mY];have e:iH ks=iH (ks.take j)++iH (ks.drop j):=by rw[<-Iw,jl]
 rw[e,dV];exact(List.perm_append_comm (l₁:=dN z)).append_left _
theorem PZ{α:Type}(l:List α)(j:Nat)(h:j<l.length):(l.eraseIdx j).length=l.length-1:=by
 rw[List.length_eraseIdx,bH h]
structure iI (R:gZ->Prop) (n:Nat) (c:List gZ):Prop where
 all:∀x∈c,R x
 ids:(kW c).Nodup
 len:c.length<=n
theorem iI.perm{R:gZ->Prop}{n:Nat}{c c':List gZ}(h:iI R n c)(hp:c'.Perm c):iI R n c':=
 ⟨fun x hx=>h.all x (hp.mem_iff.1 hx),(hp.map gZ.id).nodup_iff.2 h.ids,by rw[hp.length_eq];exact h.len⟩
theorem iI.mono{R:gZ->Prop}{m n:Nat}{c:List gZ}(h:iI R m c)(hm:m<=n):iI R n c:=⟨h.all,h.ids,bX h.len hm⟩
theorem iI.sub{R:gZ->Prop}{n:Nat}{c c':List gZ}(h:iI R n c)(hs:c'.Sublist c):iI R n c':=
 ⟨fun x hx=>h.all x (hs.subset hx),h.ids.sublist (hs.map gZ.id),bX hs.length_le h.len⟩
theorem iI.swap{R:gZ->Prop}{n:Nat}{A B:List gZ}{c c':gZ}(h:iI R n (A++c::B))(hi:c'.id=c.id)(hr:R c'):iI R n (A++c'::B):=by
 refine⟨fun x hx=> ?_,?_,?_⟩
 ·rcases List.mem_append.1 hx with hx|hx
  ·exact h.all x (nK _ hx)
  ·rcases List.mem_cons.1 hx with rfl|hx
   ·exact hr
   ·exact h.all x (qh _ (lV _ hx))
 ·have:=h.ids
  unfold kW at this⊢;simpa[hi]using this
 ·have:=h.len
  simpa using this
theorem iI.add{R:gZ->Prop}{m n:Nat}{c d:List gZ}(h:iI R m c)(k:iI R n d)(hd:∀x∈c,∀y∈d,x.id≠y.id):iI R (m+n) (c++d):=by
 refine⟨fun x hx=> ?_,?_,?_⟩
 ·rcases List.mem_append.1 hx with hx|hx
  ·exact h.all x hx
  ·exact k.all x hx
 ·unfold kW
  rw[List.map_append,List.nodup_append];refine⟨h.ids,k.ids,?_⟩;intro a ha b hb;obtain⟨x,hx,rfl⟩:=List.mem_map.1 ha;obtain⟨y,hy,rfl⟩:=List.mem_map.1 hb;exact hd x hx y hy
 ·have:=h.len
  have:=k.len;rw[eu];omega
theorem iI.aej{R:gZ->Prop}{n:Nat}{u:av}(h:iI R n (dN u))(id:bf)(f:av->av)(hf:∀x∈bO u,x.id=id->∃c',c'.id=x.id/\(R x.core->R c')/\dN (f x)=c'::iH x.kids):iI R n (dN (fZ id f u)):=by
 by_cases hw:cZ id u=[]
 ·rw[MN id f u hw];exact h
 ·obtain⟨x,A,B,hx,hxi,h1,h2⟩:=zK id f u hw
  obtain⟨c',hc,hr,hcf⟩:=hf x hx hxi;rw[h2,hcf];rw[h1,iP]at h;simp only[jE,dV]at h⊢;exact h.swap hc (hr (h.all _ (by simp)))
theorem iI.strike{R:gZ->Prop}{n:Nat}{u p:av}{j:Nat}(h:iI R n (dN u))(hp:p∈bO u)(hj:j<p.kids.length)(hR:∀c m,R c->m<=c.kn->R {c with kn:=m}):
 iI R n (dN (fZ p.id (fun x=>x.dJ (x.kids.eraseIdx j)) u))/\(kW (dN (fZ p.id (fun x=>x.dJ (x.kids.eraseIdx j)) u)++dN p.kids[j])).Perm (kW (dN u)):=by
 have hw:cZ p.id u≠[]:=tF _ u ⟨p,hp,rfl⟩;obtain⟨x,A,B,hx,hxi,h1,h2⟩:=zK p.id (fun x=>x.dJ (x.kids.eraseIdx j)) u hw;have hxp:=wZ h.ids hx hp hxi;subst hxp
 have e1:dN (x.dJ (x.kids.eraseIdx j))={x.core with kn:=x.kids.length-1}::iH (x.kids.eraseIdx j):=by
  rw[iP,Ce,zZ,PZ _ _ hj]
 have pm:=Dp x.kids j hj;have hxc:R x.core:=h.all _ (qG hp)
 have key:iI R n (A++{x.core with kn:=x.kids.length-1}::(iH (x.kids.eraseIdx j)++dN x.kids[j])++B):=by
  have h3:iI R n (A++x.core::(iH (x.kids.eraseIdx j)++dN x.kids[j]++B)):=by
   refine h.perm ?_;rw[h1,iP x];simp only[dV,jE];refine List.Perm.append_left _ (List.Perm.cons _ ?_);rw[<-dV];exact pm.append_right B
  have h4:=h3.swap (c':={x.core with kn:=x.kids.length-1}) rfl (hR _ _ hxc (Nat.sub_le _ _));simpa using h4
 refine⟨?_,?_⟩
 ·rw[h2]
  show iI R n (A++dN (x.dJ (x.kids.eraseIdx j))++B);rw[e1];refine key.sub ?_;simp only[dV,jE];refine(List.Sublist.refl _).append (List.Sublist.cons_cons _ ((List.Sublist.refl _).append ?_));exact List.sublist_append_right _ _
 ·rw[h2,h1]
  show(kW (A++dN (x.dJ (x.kids.eraseIdx j))++B++dN x.kids[j])).Perm _;rw[e1,iP x]
  have q:(kW (iH (x.kids.eraseIdx j))++kW (dN x.kids[j])).Perm (kW (iH x.kids)):=by
   have:=pm.map gZ.id;unfold kW
   rwa[List.map_append]at this
  unfold kW at q⊢;simp only[List.map_append,gX,dV,jE];refine List.Perm.append_left _ (List.Perm.cons _ ?_);rw[<-dV];refine List.Perm.trans ?_ (q.append_right _);rw[dV,dV];exact(List.perm_append_comm).append_left _
theorem iI.put{R:gZ->Prop}{m n:Nat}{u z:av}{id:bf}{j:Nat}(h:iI R m (dN u))(hz:iI R n (dN z))(hd:∀x∈dN u,∀y∈dN z,x.id≠y.id)(hR:∀c m,R c->R {c with kn:=m}):
 iI R (m+n) (dN (fZ id (fun x=>x.dJ (x.kids.take j++z::x.kids.drop j)) u)):=by
 by_cases hw:cZ id u=[]
 ·rw[MN _ _ u hw];exact h.mono (Nat.le_add_right _ _)
 ·obtain⟨x,A,B,hx,hxi,h1,h2⟩:=zK id (fun x=>x.dJ (x.kids.take j++z::x.kids.drop j)) u hw
  have hxc:R x.core:=h.all _ (qG hx);rw[h2];show iI R _ (A++dN (x.dJ (x.kids.take j++z::x.kids.drop j))++B);rw[iP,Ce,zZ];have h3:=h;rw[h1,iP,dV,jE]at h3;have h4:=h3.swap (c':={x.core with kn:=(x.kids.take j++z::x.kids.drop j).length}) rfl (hR _ _ hxc)
  have hd2:∀c∈(A++{x.core with kn:=(x.kids.take j++z::x.kids.drop j).length}::(iH x.kids++B)),∀y∈dN z,c.id≠y.id:=by
   intro c hc y hy;rcases List.mem_append.1 hc with hc|hc
   ·exact hd c (by rw[h1];simp[hc]) y hy
   ·rcases List.mem_cons.1 hc with rfl|hc
    ·exact hd x.core (qG hx) y hy
    ·exact hd c (by rw[h1,iP];rcases List.mem_append.1 hc with hc|hc<;>simp[hc]) y hy
  refine(h4.add hz hd2).perm ?_;simp only[dV,jE];refine List.Perm.append_left _ (List.Perm.cons _ ?_);refine((abJ x.kids j z).append_right B).trans ?_;rw[dV];exact(List.perm_append_comm).append_left _
mutual
theorem MP(id:bf):∀u (k:Nat) y,(cZ id u)[k]? =some y->cZ id y=(cZ id u).drop k
 |.mk a i n kd l hd wd kids,k,y,h=>by
  rw[cZ]at h⊢
  split at h
  ·rename_i he
   rw[bH he];cases k with
   |zero=>
    simp only[List.getElem?_cons_zero,Option.some.injEq]at h;subst h;rw[cZ,bH he];rfl
   |succ k=>simp at h
  ·rename_i he
   rw[aU he]
   split at h
   ·simp at h
   ·rename_i hw
    rw[aU hw];cases k with
    |zero=>
     simp only[List.getElem?_cons_zero,Option.some.injEq]at h;subst h;rw[cZ,aU he,aU hw];rfl
    |succ k=>
     rw[List.getElem?_cons_succ]at h;rw[List.drop_succ_cons];exact JV id kids k y h
theorem JV(id:bf):∀us (k:Nat) y,(gV id us)[k]? =some y->cZ id y=(gV id us).drop k
 |[],k,y,h=>by rw[gV]at h;simp at h
 |u::us,k,y,h=>by
  rw[gV]at h⊢
  split at h
  ·rename_i hu
   rw[bH hu];exact JV id us k y h
  ·rename_i hu
   rw[aU hu];exact MP id u k y h
end
theorem abK(id:bf)(u:av)(h:cZ id u≠[]):(cZ id u)[0]? =some u:=by
 rw[Bj]at h⊢
 split
 ·rfl
 ·rename_i he
  rw[aU he]at h
  split
  ·rename_i hw
   rw[bH hw]at h;exact absurd rfl h
  ·rfl
theorem TW(id:bf):∀(ks:List av) (o j:Nat),gI (nM id) ks o=((o+j:Nat):Int)->∃h:j<ks.length,gV id ks=cZ id ks[j]/\cZ id ks[j]≠[]
 |[],o,j,h=>by
  rw[gI]at h;omega
 |u::us,o,j,h=>by
  rw[gI]at h;rw[gV]
  split at h
  ·rename_i hu
   have hj:j=0:=by omega
   subst hj;rw[Gp]at hu;exact⟨by simp,by rw[aU hu];rfl,hu⟩
  ·rename_i hu
   rw[Gp]at hu
   have hu':cZ id u=[]:=by
    cases hw:cZ id u with
    |nil=>rfl
    |cons a b=>rw[hw]at hu;simp at hu
   rw[bH hu'];cases j with
   |zero=>
    exfalso
    have hge:∀(l:List av) (k:Nat),gI (nM id) l k= -1∨(k:Int)<=gI (nM id) l k:=by
     intro l
     induction l with
     |nil=>intro k;left;rfl
     |cons x l ih=>
      intro k;rw[gI]
      split
      ·right;omega
      ·rcases ih (k+1)with h|h
       ·exact .inl h
       ·exact .inr (by omega)
    rcases hge us (o+1)with h'|h'<;>omega
   |succ j=>
    obtain⟨h1,h2,h3⟩:=TW id us (o+1) j (by rw[h];congr 1;omega);exact⟨by simpa using h1,by simpa using h2,by simpa using h3⟩
theorem pF.kid{id:bf}{u p:av}{j:Nat}(h:pF id u p j):findF id u=some (p.kids[j]'h.lt)/\(p.kids[j]'h.lt).id=id:=by
 have h1:=MP id u _ _ h.at_
 have h2:(cZ id p).length=2:=by
  rw[h1,jV];have:=h.two;omega
 have hne:p.id≠id:=by
  intro he;rw[Bj,bH he]at h2;simp at h2
 rw[Bj,aU hne]at h1 h2
 split at h2
 ·simp at h2
 ·rename_i hw
  rw[aU hw]at h1;obtain⟨hj,h3,h4⟩:=TW id p.kids 0 j (by rw[h.idx];simp);have h5:(gV id p.kids).length=1:=by simpa using h2
  have h6:=abK id _ h4
  have h7:gV id p.kids=[p.kids[j]]:=by
   rw[h3]at h5⊢;obtain⟨y,hy⟩:=List.length_eq_one_iff.1 h5;rw[hy]at h6⊢;simpa using h6
  have hl:findF id u=some p.kids[j]:=by
   unfold findF
   have e:cZ id u=(cZ id u).take ((cZ id u).length-2)++[p,p.kids[j]]:=by
    rw[<-h7,h1,jl]
   rw[e];simp
  exact⟨hl,(rC id u _ hl).1⟩
theorem abL{R:gZ->Prop}{n:Nat}{u p:av}{j:Nat}(h:iI R n (dN u))(hp:p∈bO u)(hj:j<p.kids.length):∀y∈bO (fZ p.id (fun x=>x.dJ (x.kids.eraseIdx j)) u),∃z∈bO u,z.id=y.id/\(if z.id=p.id then y.kids.length=z.kids.length-1 else y.kids.length=z.kids.length):=by
 intro y hy;have hw:cZ p.id u≠[]:=tF _ u ⟨p,hp,rfl⟩;obtain⟨x,A,B,hx,hxi,h1,h2⟩:=zK p.id (fun x=>x.dJ (x.kids.eraseIdx j)) u hw;have hxp:=wZ h.ids hx hp hxi;subst hxp;have hc:=qG hy;rw[h2]at hc
 have e1:dN (x.dJ (x.kids.eraseIdx j))={x.core with kn:=x.kids.length-1}::iH (x.kids.eraseIdx j):=by
  rw[iP,Ce,zZ,PZ _ _ hj]
 have hc2:y.core∈A++({x.core with kn:=x.kids.length-1}::iH (x.kids.eraseIdx j))++B:=by rw[<-e1];exact hc
 have hsub:∀c∈iH (x.kids.eraseIdx j),c∈iH x.kids:=fun c hc=>(Dp x.kids j hj).mem_iff.1 (nK _ hc);have hnd:=h.ids;rw[h1,iP]at hnd
 have far:∀c,c∈A∨c∈iH x.kids∨c∈B->c.id≠x.core.id:=by
  intro c hc he;unfold kW at hnd;simp only[List.map_append,gX,dV,jE]at hnd;rw[List.nodup_append]at hnd;obtain⟨n1,n2,n3⟩:=hnd;rw[List.nodup_cons]at n2;rcases hc with hc|hc|hc
  ·exact n3 c.id (List.mem_map.2 ⟨c,hc,rfl⟩) x.core.id (List.mem_cons_self ..) he
  ·exact n2.1 (by rw[<-he];exact nK _ (List.mem_map.2 ⟨c,hc,rfl⟩))
  ·exact n2.1 (by rw[<-he];exact qh _ (List.mem_map.2 ⟨c,hc,rfl⟩))
 have stay:(y.core∈A∨y.core∈iH x.kids∨y.core∈B)->∃z∈bO u,z.id=y.id/\(if z.id=x.id then y.kids.length=z.kids.length-1 else y.kids.length=z.kids.length):=by
  intro hc
  have hm:y.core∈dN u:=by
   rw[h1,iP];rcases hc with hc|hc|hc<;>simp[hc]
  obtain⟨z,hz,he⟩:=zJ hm;have e2:z.id=y.id:=nI gZ.id he;have e3:z.kids.length=y.kids.length:=nI gZ.kn he;refine⟨z,hz,e2,?_⟩;rw[aU (by rw[e2];exact far _ hc)];exact e3.symm
 rcases List.mem_append.1 hc2 with hc|hc
 ·rcases List.mem_append.1 hc with hc|hc
  ·exact stay (.inl hc)
  ·rcases List.mem_cons.1 hc with hc|hc
   ·refine⟨x,hp,(nI gZ.id hc).symm,?_⟩
    rw[bH rfl];exact nI gZ.kn hc
   ·exact stay (.inr (.inl (hsub _ hc)))
 ·exact stay (.inr (.inr hc))
mutual
def pJ:av->List ByteArray
 |.mk _ _ _ _ _ hd wd kids=>hd.map aJ.t++wd.map aJ.t++lF kids
def lF:List av->List ByteArray
 |[]=>[]
 |u::us=>pJ u++lF us
end
theorem Cg(act item:Int):∀(m:Int) (l:List ByteArray),(gB act item m l).map aJ.t=l
 |_,[]=>rfl
 |m,s::l=>by rw[gB,gX,Cg act item (m+1) l]
theorem xg{act item:Int}:∀{m:Int} {l:List ByteArray} {x:aJ},x∈gB act item m l->x.a=act/\x.i=item/\x.t∈l
 |_,[],x,h=>by rw[gB]at h;cases h
 |m,s::l,x,h=>by
  rw[gB]at h;rcases List.mem_cons.1 h with rfl|h
  ·exact⟨rfl,rfl,List.mem_cons_self ..⟩
  ·obtain⟨h1,h2,h3⟩:=xg h
   exact⟨h1,h2,lV _ h3⟩
structure Stamped (act item:Int) (said:List ByteArray) (c:gZ):Prop where
 a:c.id.a=act
 i:c.id.i=item
 hd:∀x∈c.head,x.a=act/\x.i=item/\x.t∈said
 wd:∀x∈c.words,x.a=act/\x.i=item/\x.t∈said
theorem Stamped.mono{act item:Int}{s t:List ByteArray}{c:gZ}(h:Stamped act item s c)(hst:∀x∈s,x∈t):Stamped act item t c:=
 ⟨h.a,h.i,fun x hx=>⟨(h.hd x hx).1,(h.hd x hx).2.1,hst _ (h.hd x hx).2.2⟩,fun x hx=>⟨(h.wd x hx).1,(h.wd x hx).2.1,hst _ (h.wd x hx).2.2⟩⟩
def lg(act item:Int):Int->Nat->List bf
 |_,0=>[]
 |n,k+1=>⟨act,item,n⟩::lg act item (n+1) k
theorem JW(act item:Int):∀(k j:Nat) (n:Int),lg act item n (k+j)=lg act item n k++lg act item (n+k) j
 |0,j,n=>by simp[lg]
 |k+1,j,n=>by
  rw[Nat.succ_add,lg,lg,JW act item k j (n+1)];have:n+1+(k:Int)=n+((k+1:Nat):Int):=by omega
  rw[this];rfl
theorem JX{act item:Int}:∀{k:Nat} {n:Int} {x:bf},x∈lg act item n k->n<=x.n/\x.a=act
 |0,_,x,h=>by rw[lg]at h;cases h
 |k+1,n,x,h=>by
  rw[lg]at h;rcases List.mem_cons.1 h with rfl|h
  ·exact⟨Int.le_refl _,rfl⟩
  ·have:=JX h
   exact⟨by omega,this.2⟩
theorem F4(act item:Int):∀(k:Nat) (n:Int),(lg act item n k).Nodup
 |0,_=>by rw[lg];exact List.nodup_nil
 |k+1,n=>by
  rw[lg,List.nodup_cons];refine⟨fun h=> ?_,F4 act item k (n+1)⟩;have:=(JX h).1;simp only at this;omega
mutual
theorem Ba(act item:Int):∀(u:av) (n m:Int),(gK act item u n m).2.1=n+cntF u/\kW (dN (gK act item u n m).1)=lg act item n (cntF u)/\(∀c∈dN (gK act item u n m).1,Stamped act item (pJ u) c/\∃x∈bO u,c.label=x.label/\c.head.length=x.head.length/\c.words.length=x.words.length/\c.head.map aJ.t=x.head.map aJ.t/\c.words.map aJ.t=x.words.map aJ.t)
 |.mk _ _ _ k l hl wl kids,n,m=>by
  rw[gK];simp only;obtain⟨h1,h2,h3⟩:=JY act item kids (n+1) (m+hl.length+wl.length);refine⟨?_,?_,?_⟩
  ·rw[h1,cntF];omega
  ·rw[iP,cntF,Nat.add_comm 1,lg]
   unfold kW at h2⊢;rw[gX];show _::List.map gZ.id (iH (jP act item kids (n+1) (m+hl.length+wl.length)).1)=_;rw[h2];rfl
  ·intro c hc
   rw[iP]at hc;rcases List.mem_cons.1 hc with rfl|hc
   ·refine⟨⟨rfl,rfl,fun x hx=> ?_,fun x hx=> ?_⟩,_,by rw[bO];exact List.mem_cons_self ..,rfl,?_,?_,?_,?_⟩
    ·obtain⟨h1,h2,h3⟩:=xg hx
     exact⟨h1,h2,by rw[pJ];exact nK _ (nK _ h3)⟩
    ·obtain⟨h1,h2,h3⟩:=xg hx
     exact⟨h1,h2,by rw[pJ];exact nK _ (qh _ h3)⟩
    ·show(gB _ _ _ _).length=hl.length
     rw[kI,jA]
    ·show(gB _ _ _ _).length=wl.length
     rw[kI,jA]
    ·exact Cg _ _ _ _
    ·exact Cg _ _ _ _
   ·obtain⟨h4,x,h5,h6⟩:=h3 c hc
    refine⟨h4.mono fun y hy=> ?_,x,by rw[bO];exact lV _ h5,h6⟩;rw[pJ];exact qh _ hy
theorem JY(act item:Int):∀(us:List av) (n m:Int),(jP act item us n m).2.1=n+bZ us/\kW (iH (jP act item us n m).1)=lg act item n (bZ us)/\(∀c∈iH (jP act item us n m).1,Stamped act item (lF us) c/\∃x∈eO us,c.label=x.label/\c.head.length=x.head.length/\c.words.length=x.words.length/\c.head.map aJ.t=x.head.map aJ.t/\c.words.map aJ.t=x.words.map aJ.t)
 |[],n,m=>by
  rw[jP];refine⟨by rw[bZ];simp,by rw[PV,bZ];rfl,?_⟩;intro c hc;rw[PV]at hc;cases hc
 |u::us,n,m=>by
  rw[jP];simp only;obtain⟨a1,a2,a3⟩:=Ba act item u n m;obtain⟨b1,b2,b3⟩:=JY act item us (gK act item u n m).2.1 (gK act item u n m).2.2;refine⟨by rw[b1,a1,bZ];omega,?_,?_⟩
  ·rw[mY,bZ,JW,<-a1,<-a2,<-b2]
   unfold kW;rw[List.map_append]
  ·intro c hc
   rw[mY]at hc;rcases List.mem_append.1 hc with hc|hc
   ·obtain⟨h4,x,h5,h6⟩:=a3 c hc
    exact⟨h4.mono fun y hy=>(by rw[lF];exact nK _ hy),x,by rw[eO];exact nK _ h5,h6⟩
   ·obtain⟨h4,x,h5,h6⟩:=b3 c hc
    exact⟨h4.mono fun y hy=>(by rw[lF];exact qh _ hy),x,by rw[eO];exact qh _ h5,h6⟩
end
theorem Iz{P:Program}{ρ:Operand->Value}{o:Oper}{w:World}{T:Value->World->Prop}(g:FuncId)(hf:∀args w,(callFunc g args).run P w=.ok (.enter g args) w)(f:Operand)(xs:List Operand)(ts:Array TypeId)(ho:o.op=.call {callee:=.value f,args:=xs.toArray,argTypes:=ts})(hfn:ρ f=.func (.func g) #[] #[])
 (vs:List Value) (hv:Br ρ xs vs) (h:Calls P g vs.toArray w fun e w''=>∃v,e=.returned v/\Ext w w''/\T v w''):bL P ρ o w T:=by
 have hr:(execOp ρ o).run P w=.ok (.enter g vs.toArray) w:=by
  have:=hv.map;simp[execOp,ho,resolve,Deferred.ofValue,hfn,invoke,this,hf]
 unfold bL;rw[hr];exact h
theorem JZ(k:Int)(w:World):Calls prog 158 #[.int .i64 k] w fun e w'=>e=.returned (.bool (decide (0<=k)&&decide (k<=3)))/\w'=w:=by
 by_cases h1:0<=k
 ·have a1:decide (k≥0)=true:=bJ h1
  have a2:decide (0<=k)=true:=bJ h1;obtain⟨b,hb⟩:=aH (decide (k<=3));rw[a2,hb];clear a2;go_enter func158,ntmps158
  cases b<;>
  ·go_wp2
   go_ret;exact⟨rfl,rfl⟩
 ·have a1:decide (k≥0)=false:=aY h1
  have a2:decide (0<=k)=false:=aY h1;rw[a2];clear a2;go_enter func158,ntmps158
  go_wp2;go_ret;exact⟨rfl,rfl⟩
theorem aek(n:Nat)(w:World):Calls prog 227 #[.int .i64 (n:Nat)] w fun e w'=>e=.returned (.int .i64 ((0:Nat):Int))/\Ext w w':=by
 go_enter func227,ntmps227
 go_wp2;go_ret;exact⟨rfl,Ext.refl _⟩
theorem ael(n:Nat)(w:World):Calls prog 229 #[.int .i64 (n:Nat)] w fun e w'=>e=.returned (.int .i64 (n:Nat))/\Ext w w':=by
 go_enter func229,ntmps229
 go_wp2;go_ret;exact⟨rfl,Ext.refl _⟩
def aW(id:bf)(j:Int):List Value:=[.int .i64 id.a,.int .i64 id.i,.int .i64 id.n,.int .i64 j]
theorem TY(u x:av)(r:aB)(id:bf)(F:Nat)(g:Nat->Nat)(w:World)(hr:Reads w u r)(hok:dI u)(hx:findF id u=some x)(hFc:∀args w,(callFunc F args).run prog w=.ok (.enter F args) w)(hF:∀wq,Calls prog F #[.int .i64 (x.kids.length:Nat)] wq fun e w'=>e=.returned (.int .i64 (g x.kids.length:Nat))/\Ext wq w'):
 Calls prog 226 #[.agg r.cells.toArray,.agg id.cells.toArray,dZ F] w fun e w'=>e=.returned (.tuple #[.agg (aW id (g x.kids.length:Nat)).toArray,.int .i64 0])/\Ext w w':=by
 have Hf:=ah (fun wq (he:Ext w wq)=>by have h:=Ry u r id wq (Reads.ext he _ _ hr) hok;rw[hx]at h;exact h);have HFc:=ah hFc;obtain⟨n,hn⟩:=aH (x.kids.length);rw[hn]at hF⊢;have HF0:=ah hF;have Hn:=ah hn;clear hr hok hx hFc hF hn;go_enter func226,ntmps226
 go_upto_region 1 with(first|(refine aG aj (.tmp 0) rfl rfl r rfl fun wA aR bG bB aO=> ?_)|(refine aG aM (.tmp 1) rfl rfl id rfl fun wB eH ji hkB eG=> ?_))
 have j4:Ext wB (wB.alloc (.cells #[.int .i64 0,.int .i64 0,.int .i64 0,.int .i64 0] 201)):=(Ext.refl wB).alloc _
 have kL:(wB.alloc (.cells #[.int .i64 0,.int .i64 0,.int .i64 0,.int .i64 0] 201)).heap[w.heap.size+2]? =some (.cells #[.int .i64 0,.int .i64 0,.int .i64 0,.int .i64 0] 201 (0,0)):=by
  have h:=heap_alloc_new wB (.cells #[.int .i64 0,.int .i64 0,.int .i64 0,.int .i64 0] 201)
  rwa[ji,bG]at h
 obtain⟨wS,rD⟩:=aH (wB.alloc (.cells #[.int .i64 0,.int .i64 0,.int .i64 0,.int .i64 0] 201));rw[rD]at j4 kL⊢;have tH:=ah (aR.trans (eH.trans j4));have dO:=ah (fun W (he:Ext wS W)=>aO.ext (eH.trans (j4.trans he)) (ay bB));have iT:=ah (show∀W,Ext wS W->At W (w.heap.size+1) 0 (aM.E id)from fun W he=>by rw[<-bG];exact eG.ext (j4.trans he) (ay hkB));have CX:=ah kL;have tJ:=ah (show w.heap.size+2<wS.heap.size/\w.heap.size+1<wS.heap.size from⟨ay kL,by have:=ay kL;omega⟩);clear rD kL j4 aR bG bB aO eH ji hkB eG;have l8:=ah (Hf.out wS tH.out);clear Hf;go_wp2_with (first|((with_reducible refine au aj (.tmp 3) ?_ ?_ ?_ w.heap.size 0 ?_ r ?_ ?_);rfl;rfl;rfl;rfl;exact dO.out _ (Ext.refl _))|((with_reducible refine au aM (.tmp 4) ?_ ?_ ?_ (w.heap.size+1) 0 ?_ id ?_ ?_);rfl;rfl;rfl;rfl;exact iT.out _ (Ext.refl _)))
 refine l8.out.mono ?_;rintro e w2 ⟨hx2,rr,rfl,hrr⟩;have eD:=ah hx2;have FD:=ah (show rr.kn=n from by rw[hrr.j5.2.2.2.2.2.2.2.2.2.1,Hn.out]);clear hrr hx2 l8 Hn;go_upto_region 2 with(first|(refine aL aj rfl rfl fun wD gW oH kg=> ?_)|((refine aD aj (.tmp 8) (.tmp 14) ?_ ?_ w2 w2.heap.size ?_ rr ?_ _ _ kg ?_ gW (aI _) ?_);rfl;rfl;rfl;rfl;rfl;intro wE jT o9 jO pW Al))
 have hz:wS.heap.size<=w2.heap.size:=eD.out.size;have eU:=ah (eD.out.trans jT);have Ch:=ah (show∀wq,Ext wE wq->(aK [.int .i64 id.a,.int .i64 id.i,.int .i64 id.n]).p (.pointer (some ⟨w.heap.size+1,0,none⟩)) wq from fun wq he=>⟨w.heap.size+1,0,rfl,bQ tJ.out.2 (eU.out.trans he).size,fun j y hy=>iT.out wq (eU.out.trans he) j y hy⟩);have zL:=ah (show∀wq,Ext wE wq->(aK (aB.cells rr)).p (.pointer (some ⟨w2.heap.size,0,none⟩)) wq from fun wq he=>⟨w2.heap.size,0,rfl,bQ (ay jO) he.size,fun j y hy=>pW.ext he (ay jO) j y hy⟩);have HF:=HF0;have HkE:=ah (((eU.out).block tJ.out.1).trans CX.out);clear gW oH kg jT o9 jO pW Al HF0;refine iJ 7 (fun i=>match i with|0=>Ty.is (.agg #[.int .i64 id.a,.int .i64 id.i,.int .i64 id.n])|1=>Ty.is (dZ F)|2=>aK [.slice rr.kA rr.kn rr.kc]|3=>Ty.is (.slice rr.kA n rr.kc)|4=>Ty.is (.int .i64 (n:Nat))|5=>Ty.is (.int .i64 (g n:Nat))|6=>Ty.is (.agg #[.int .i64 id.a,.int .i64 id.i,.int .i64 id.n,.int .i64 (g n:Nat)])|_=>Ty.any) (by kernel_rfl) (by kernel_rfl) (by kernel_rfl) (by decide) rfl ?_;intro v;refine⟨?_,?_,?_,?_,?_,?_,?_,?_⟩
 ·exact fun wq hq _=>ak rfl (bU 26 (.tmp 4) rfl isAgg26 3 sizeOf26 [.int .i64 id.a,.int .i64 id.i,.int .i64 id.n] rfl (Ch.out _ hq) rfl)
 ·exact fun wq hq _=>ak rfl (aF (.tmp 2) rfl rfl rfl)
 ·exact fun wq hq _=>ak rfl (dB 30 5 (.tmp 8) rfl _ underlying30 _ rfl 1 sizeOf28 (by decide) [.int .i64 rr.a,.int .i64 rr.i,.int .i64 rr.n,.int .i64 rr.kind,.string rr.label,.slice rr.hA rr.hn rr.hc,.slice rr.wA rr.wn rr.wc,.slice rr.kA rr.kn rr.kc] ((zL.out _ hq)))
 ·rintro wq hq ⟨h0,-⟩
  change (aK [.slice rr.kA rr.kn rr.kc]).p (v 2) wq at h0;refine ak rfl ?_;rw[FD.out]at h0;exact bW 28 (.tmp 18) rfl isAgg28 (c:=.slice rr.kA n rr.kc) h0 rfl
 ·rintro wq hq ⟨h0,-⟩;exact ak rfl (Bg (.tmp 19) 28 _ underlying28 rfl _ _ _ h0 rfl)
 ·rintro wq hq ⟨h0,h1,-⟩
  change v 1=_ at h0;change v 4=_ at h1;refine ak rfl ?_;refine Iz F HFc.out (.tmp 17) [.tmp 20] _ rfl h0 [_] ⟨h1,trivial⟩ ?_;refine(HF.out wq).mono ?_;rintro e w' ⟨rfl,hx⟩;exact⟨_,rfl,hx,rfl⟩
 ·rintro wq hq ⟨h0,h1,-⟩
  change v 0=_ at h0;change v 5=_ at h1;refine ak rfl ?_;exact Cx 201 [(0,_),(1,_)] rfl [(0,.agg #[.int .i64 id.a,.int .i64 id.i,.int .i64 id.n]),(1,.int .i64 (g n:Nat))] ⟨⟨rfl,h0⟩,⟨rfl,h1⟩,trivial⟩ (fun w=>by go_simp) rfl
 ·intro wq hq hT
  have k6:=hT 6 (by decide);change v 6=_ at k6;clear hT;simp only[List.drop_succ_cons,List.drop_zero,gH,dK,List.set_cons_succ,List.set_cons_zero,Nat.reduceAdd];rw[k6];have hkq:=(hq.block (ay HkE.out)).trans HkE.out;have sP:=ah (tH.out.trans (eU.out.trans hq));go_wp2_with (refine aP rfl 201 (.tmp 6) (.tmp 22) rfl (w.heap.size+2) 0 (.agg (aW id (g n:Nat)).toArray) rfl rfl (aW id (g n:Nat)) rfl sizeOf201 (by simp[aW,Value.oneCell']) 201 _ hkq (by simp[aW]) ?_;intro w4 hw4 dP dQ dR hs4 eX)
  have hk4:w4.heap[w.heap.size+2]? =some (.cells (aW id (g n:Nat)).toArray 201 (0,0)):=by rw[eX];simp[aW]
  refine bodyPost_ret (fJ rfl isAgg201 (aW id (g n:Nat)) sizeOf201 _ _ (w.heap.size+2) _ rfl hk4) rfl ?_;exact⟨rfl,sP.out.put (by omega) hw4 dP dQ dR hs4⟩
end Go.Proofs.YtgboomjahhnldaaGreatDoor
