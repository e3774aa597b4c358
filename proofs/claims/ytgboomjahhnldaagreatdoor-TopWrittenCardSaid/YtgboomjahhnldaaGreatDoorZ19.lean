/- A part of the proof of TopWritten, printed small: SymCAc StabAc TActCmp. -/
import Derived.Test.YtgboomjahhnldaaGreatDoorZ18
import Derived.Test.YtgboomjahhnldaaGreatDoorZ16
import Derived.Test.YtgboomjahhnldaaGreatDoorZ12
set_option maxRecDepth 100000
set_option maxHeartbeats 25600000
set_option linter.all false
namespace Go.Proofs.YtgboomjahhnldaaGreatDoor.Ac
open Go.Proofs.Tryz
open Go.RowKit
section
variable {g:Nat} {lt:(bM×bn)->(bM×bn)->Bool} {S:(bM×bn)->Prop} {J:World->Prop} {fv:Value}
def Mc(g:Nat)(lt:(bM×bn)->(bM×bn)->Bool)(S:(bM×bn)->Prop)(J:World->Prop)(fv:Value)(N:Nat):Prop:=∀(cap n a m b:Nat) (A L R D:List (bM×bn)) (w:World),b-a<=N->n<=1048576->a=A.length->m=A.length+L.length->b=A.length+L.length+R.length->0<L.length->0<R.length->fA lt L->fA lt R->(∀y∈L++R,S y)->J w->Rw g cap n w (A++L++R++D)->
 Calls prog 57 #[.slice (some ⟨g,0,none⟩) n cap,.int .i64 (a:Nat),.int .i64 (m:Nat),.int .i64 (b:Nat),fv] w fun e w'=>e=.returned (.tuple #[])/\Kp g w w'/\∃M,fA lt M/\SO lt (L++R) M/\Rw g cap n w' (A++M++D)
structure Mid (lt:(bM×bn)->(bM×bn)->Bool) (S:(bM×bn)->Prop) (A L R:List (bM×bn)) (a m b mid s z:Nat) (L1 L2 R1 R2:List (bM×bn)):Prop where
 eL:L=L1++L2
 eR:R=R1++R2
 lA:a=A.length
 l1:a+L1.length=s
 l2:s+L2.length=m
 l3:m+R1.length=z
 l4:z+R2.length=b
 l5:s+R1.length=mid
 l6:mid+L2.length=z
 sL:fA lt (L1++L2)
 sR:fA lt (R1++R2)
 c1:∀r∈R1,∀l∈L2,lt r l=true
 c2:∀l∈L1,∀r∈R2,lt r l=false
 sS:∀y∈(L1++L2)++(R1++R2),S y
theorem aaQ(hw:Wk lt){A L R xs:List (bM×bn)}{a m b mid lo hi s z pp:Nat}(hL:fA lt L)(hR:fA lt R)(lA:a=A.length)(lL:L.length=m-a)(lR:R.length=b-m)(qP:a<m)(hmb:m<b)(hmid:mid=(a+b)/2)
 (gL:∀j (h:j<L.length),xs[a+j]? =some L[j]) (gR:∀i (h:i<R.length),xs[m+i]? =some R[i])
 (hp:pp+1=mid+m) (hs:s+z=mid+m) (h1:lo<=s) (h2:s<=hi) (hsm:s<=mid) (has:a<=s) (aix:s<=m) (heb:z<=b) (hmz:m<=z)
 (low:∀k,lo<=k->k<s->at2 (fun u v=> !lt u v) xs[pp-k]? xs[k]? =true) (high:∀k,s<=k->k<hi->at2 (fun u v=> !lt u v) xs[pp-k]? xs[k]? =false)
 (hc:(lo=mid+m-b/\hi=mid)∨(lo=a/\hi=m)) (hS:∀y∈L++R,S y):∃L1 L2 R1 R2,Mid lt S A L R a m b mid s z L1 L2 R1 R2:=by
 obtain⟨k1,k2⟩:=ahN hw hL hR lL lR qP hmb gL gR hp hs h1 h2 hsm has aix heb low high hc;refine⟨L.take (s-a),L.drop (s-a),R.take (z-m),R.drop (z-m),(jl _ _).symm,(jl _ _).symm,lA,by simp;omega,by simp;omega,by simp;omega,by simp;omega,by simp;omega,by simp;omega,by rw[jl];exact hL,by rw[jl];exact hR,k1,k2,?_⟩;rw[jl,jl];exact hS
variable {A L R D L1 L2 R1 R2:List (bM×bn)} {cap n a m b mid s z N:Nat}
def St6(lt:(bM×bn)->(bM×bn)->Bool)(g cap n:Nat)(A D L1 L2 R1 R2:List (bM×bn))(w:World):Prop:=∃M1,fA lt M1/\SO lt (L1++R1) M1/\Rw g cap n w (A++M1++(L2++R2++D))
theorem Mid.rotate(h:Mid lt S A L R a m b mid s z L1 L2 R1 R2)(fv:Value)(w:World)(hn:n<=1048576)(h1:s<m)(h2:s<mid)(hw:Rw g cap n w (A++L++R++D)):
 Calls prog 78 #[.slice (some ⟨g,0,none⟩) n cap,.int .i64 (s:Nat),.int .i64 (m:Nat),.int .i64 (z:Nat),fv] w fun e w'=>e=.returned (.tuple #[])/\Kp g w w'/\Rw g cap n w' (A++L1++R1++(L2++R2++D)):=by
 have e:A++L++R++D=(A++L1)++L2++R1++(R2++D):=by rw[h.eL,h.eR];simp only[dV]
 rw[e]at hw;have:=h.l1;have:=h.l2;have:=h.l3;have:=h.l5;have:=h.lA;refine(X9 g cap n s m z (A++L1) L2 R1 (R2++D) fv w hn (by simp;omega) (by simp;omega) (by simp;omega) (by omega) (by omega) hw).mono ?_;rintro e w' ⟨rfl,h3,h4⟩;refine⟨rfl,h3,?_⟩;simpa only[dV]using h4
theorem Mid.stay(h:Mid lt S A L R a m b mid s z L1 L2 R1 R2)(w:World)(h0:¬(s<m/\s<mid))(hw:Rw g cap n w (A++L++R++D)):Rw g cap n w (A++L1++R1++(L2++R2++D)):=by
 have:=h.l2;have:=h.l5
 have hor:L2=[]∨R1=[]:=by
  rcases gM s m with h3|h3
  ·exact .inr (kM (by omega))
  ·exact .inl (kM (by omega))
 rw[h.eL,h.eR]at hw;rcases hor with rfl|rfl<;>simpa only[dV,jW,kY]using hw
theorem Mid.left(h:Mid lt S A L R a m b mid s z L1 L2 R1 R2)(ih:Mc g lt S J fv N)(w:World)(hn:n<=1048576)(hN:b-a<=N+1)(hab:mid<b)(h1:a<s)(h2:s<mid)(hJ:J w)(hw:Rw g cap n w (A++L1++R1++(L2++R2++D))):
 Calls prog 57 #[.slice (some ⟨g,0,none⟩) n cap,.int .i64 (a:Nat),.int .i64 (s:Nat),.int .i64 (mid:Nat),fv] w fun e w'=>e=.returned (.tuple #[])/\Kp g w w'/\St6 lt g cap n A D L1 L2 R1 R2 w':=by
 have:=h.l1;have:=h.l2;have:=h.l3;have:=h.l4;have:=h.l5;have:=h.l6;have:=h.lA;refine(ih cap n a s mid A L1 R1 (L2++R2++D) w (by omega) hn h.lA (by omega) (by omega) (by omega) (by omega) h.sL.left h.sR.left (fun y hy=>h.sS y ?_) hJ hw);rcases List.mem_append.1 hy with hy|hy<;>simp[hy]
theorem Mid.af3(h:Mid lt S A L R a m b mid s z L1 L2 R1 R2)(w:World)(h0:¬(a<s/\s<mid))(hw:Rw g cap n w (A++L1++R1++(L2++R2++D))):St6 lt g cap n A D L1 L2 R1 R2 w:=by
 have:=h.l1;have:=h.l5;refine⟨L1++R1,?_,SO.refl _,by simpa only[dV]using hw⟩;rcases gM a s with h3|h3
 ·have:R1=[]:=kM (by omega)
  rw[this,kY];exact h.sL.left
 ·have:L1=[]:=kM (by omega)
  rw[this,jW];exact h.sR.left
theorem Mid.right(h:Mid lt S A L R a m b mid s z L1 L2 R1 R2)(hwk:Wk lt)(ih:Mc g lt S J fv N)(w:World)(hn:n<=1048576)(hN:b-a<=N+1)(hab:a<mid)(h1:s<m)(h2:z<b)(hJ:J w)(hw:St6 lt g cap n A D L1 L2 R1 R2 w):
 Calls prog 57 #[.slice (some ⟨g,0,none⟩) n cap,.int .i64 (mid:Nat),.int .i64 (z:Nat),.int .i64 (b:Nat),fv] w fun e w'=>e=.returned (.tuple #[])/\Kp g w w'/\∃M,fA lt M/\SO lt (L++R) M/\Rw g cap n w' (A++M++D):=by
 have:=h.l1;have:=h.l2;have:=h.l3;have:=h.l4;have:=h.l5;have:=h.l6;have:=h.lA;obtain⟨M1,q1,q2,q3⟩:=hw;have hl:=q2.perm.length_eq;simp only[eu]at hl;have e:A++M1++(L2++R2++D)=(A++M1)++L2++R2++D:=by simp only[dV]
 rw[e]at q3;refine(ih cap n mid z b (A++M1) L2 R2 D w (by omega) hn (by simp;omega) (by simp;omega) (by simp;omega) (by omega) (by omega) h.sL.right h.sR.right (fun y hy=>h.sS y ?_) hJ q3).mono ?_
 ·rcases List.mem_append.1 hy with hy|hy<;>simp[hy]
 ·rintro e w' ⟨rfl,h3,M2,k1,k2,k3⟩
  obtain⟨m1,m2⟩:=Jr hwk h.sL h.sR h.c1 h.c2 q2 k2 q1 k1;refine⟨rfl,h3,M1++M2,m1,by rw[h.eL,h.eR];exact m2,by simpa only[dV]using k3⟩
theorem Mid.aaR(h:Mid lt S A L R a m b mid s z L1 L2 R1 R2)(hwk:Wk lt)(w:World)(h0:¬(s<m/\z<b))(hw:St6 lt g cap n A D L1 L2 R1 R2 w):∃M,fA lt M/\SO lt (L++R) M/\Rw g cap n w (A++M++D):=by
 have:=h.l2;have:=h.l4;obtain⟨M1,q1,q2,q3⟩:=hw
 have hs2:fA lt (L2++R2):=by
  rcases gM s m with h3|h3
  ·have:R2=[]:=kM (by omega)
   rw[this,kY];exact h.sL.right
  ·have:L2=[]:=kM (by omega)
   rw[this,jW];exact h.sR.right
 obtain⟨m1,m2⟩:=Jr hwk h.sL h.sR h.c1 h.c2 q2 (SO.refl _) q1 hs2;exact⟨M1++(L2++R2),m1,by rw[h.eL,h.eR];exact m2,by simpa only[dV]using q3⟩
theorem vB(a b:Int)(h:a<b:=by omega):decide (a<b)=true:=bJ h
theorem vC(a b:Int)(h:¬a<b:=by omega):decide (a<b)=false:=aY h
theorem adN(C:EF g lt S J fv)(hw:Wk lt)(N:Nat)(ih:Mc g lt S J fv N):Mc g lt S J fv (N+1):=by
 intro cap n a m b A L R D w hN hn ha hm hb hL0 hR0 hL hR hS hJ hrow;by_cases hL1:L.length=1
 ·obtain⟨X,rfl⟩:=List.length_eq_one_iff.1 hL1
  have e:A++[X]++R++D=A++X::(R++D):=by simp
  rw[e]at hrow;exact ahV C hw cap n a m b A R D X w hn ha hm hb hR (fun y hy=>hS y (by simp[hy])) (hS X (by simp)) hJ hrow
 ·by_cases hR1:R.length=1
  ·obtain⟨Y,rfl⟩:=List.length_eq_one_iff.1 hR1
   have e:A++L++[Y]++D=A++L++Y::D:=by simp
   rw[e]at hrow;exact ahW C hw cap n a m b A L D Y w hn ha hm hb (by omega) hL (fun y hy=>hS y (by simp[hy])) (hS Y (by simp)) hJ hrow
  have d0:((m:Int)-(a:Int)==1)=false:=by simp;omega
  have d1:((b:Int)-(m:Int)==1)=false:=by simp;omega
  have hbn:b<=n:=by have:=hrow.len;simp at this;omega
  have qP:a<m:=by omega
  have hmb:m<b:=by omega
  have hab:a+2<=b:=by omega
  have lL:L.length=m-a:=by omega
  have lR:R.length=b-m:=by omega
  obtain⟨mid,hmid⟩:∃mid,mid=(a+b)/2:=⟨_,rfl⟩;have avS:((a:Int)+(b:Int))/2=((mid:Nat):Int):=by omega
  have af4:a<mid:=by omega
  have af5:mid<b:=by omega
  have avC:2*mid<=a+b/\a+b<=2*mid+1:=by omega
  obtain⟨pp,hpp⟩:∃pp,pp=mid+m-1:=⟨_,rfl⟩;have epp:(mid:Int)+(m:Int)-1=((pp:Nat):Int):=by omega
  have avT:pp+1=mid+m:=by omega
  obtain⟨xs,hxs⟩:=aH (A++L++R++D);have hxl:xs.length=n:=by rw[<-hxs];exact hrow.len
  have e1:xs=A++L++(R++D):=by rw[<-hxs];simp only[dV]
  have e2:xs=(A++L)++R++D:=hxs.symm
  have Yb:SI lt xs a m:=by
   have:=SI.of (A:=A) (R:=R++D) hL;rw[<-e1]at this;rw[ha,hm];exact this
  have Yc:SI lt xs m b:=by
   have:=SI.of (A:=A++L) (R:=D) hR;rw[<-e2,eu]at this;rw[hm,hb];exact this
  have gL:∀j (h:j<L.length),xs[a+j]? =some L[j]:=fun j h=>by rw[e1,ha];exact yQ A L (R++D) j h
  have gR:∀i (h:i<R.length),xs[m+i]? =some R[i]:=fun i h=>by rw[e2,hm,<-eu];exact yQ (A++L) R D i h
  have Gy:=ah (show∀k,a<=k->k<m->∃y,xs[k]? =some y/\S y from fun k h1 h2=>by
   have:=gL (k-a) (by omega);rw[show a+(k-a)=k from by omega]at this;exact⟨_,this,hS _ (nK _ (dW _))⟩)
  have HS2:=ah (show∀k,m<=k->k<b->∃y,xs[k]? =some y/\S y from fun k h1 h2=>by
   have:=gR (k-m) (by omega);rw[show m+(k-m)=k from by omega]at this;exact⟨_,this,hS _ (qh _ (dW _))⟩)
  have hrow':Rw g cap n w xs:=by rw[<-hxs];exact hrow
  have HA:=ah ha;have Hxs:=ah hxs;replace C:=ah C;have Hw:=ah hw;have HJ:=ah hJ;have LV:=ah ih;by_cases hmm:mid<m
  ·have hcl:True:=trivial
   obtain⟨lo,hlo⟩:∃lo,lo=mid+m-b:=⟨_,rfl⟩;have elo:(mid:Int)+(m:Int)-(b:Int)=((lo:Nat):Int):=by omega
   have hgt:=eY mid m;have hlo1:a<=lo:=by omega
   have hlo2:lo<=mid:=by omega
   have Hlo:=ah hlo;have rH:=ah (OL Hw.out Yb Yc (by omega) (lo:=lo) (hi:=mid) (pp:=pp) (by omega) (by omega) (fun c h1 h2=>by omega));have G8:=ah (show∀s,lo<=s->s<=mid->∃z,s+z=mid+m/\s<=mid/\a<=s/\s<=m/\z<=b/\m<=z from fun s h1 h2=>⟨mid+m-s,by omega,by omega,by omega,by omega,by omega,by omega⟩)
   have GI:=ah (show∀s z,s+z=mid+m->lo<=s->s<=mid->s<=mid->a<=s->s<=m->z<=b->m<=z->Bs (fun k=>at2 (fun u v=> !lt u v) xs[pp-k]? xs[k]?) lo mid s s->∃L1 L2 R1 R2,Mid lt S A L R a m b mid s z L1 L2 R1 R2 from fun s z h1 h2 h3 h4 h5 h6 h7 h8 hb=>
    aaQ Hw.out hL hR HA.out lL lR qP hmb hmid gL gR (by omega) h1 h2 h3 h4 h5 h6 h7 h8 hb.low hb.high (.inl ⟨Hlo.out,rfl⟩) hS)
   clear Yb Yc hlo;clear hw hL hR hS hJ hrow ha hm hb hxs hxl e1 e2 gL gR lL lR hmid hpp ih hL1 hR1 hL0 hR0 hcl;go_enter func57,ntmps57
   go_wp2
   go_loopw [20,21] (fun vi vj wr=>∃i j:Nat,lo<=i/\i<=j/\j<=mid/\vi=.int .i64 (i:Nat)/\vj=.int .i64 (j:Nat)/\Ext w wr/\Hid (Bs (fun k=>at2 (fun u v=> !lt u v) xs[pp-k]? xs[k]?) lo mid i j)) (fun vi vj _=>(intOf vj).toNat-(intOf vi).toNat)
   case atStart=>exact⟨lo,mid,aI _,by omega,aI _,by go_num,by go_num,Ext.refl _,ah (Bs.start (by omega))⟩
   case round=>
    obtain⟨i,j,Ma,hij,hjb,rfl,rfl,jf,hbs⟩:=hrel;by_cases hlt:i<j
    ·have d2:=eY i j
     obtain⟨h,hh⟩:∃h,h=(i+j)/2:=⟨_,rfl⟩;have eh:((i:Int)+(j:Int))/2=((h:Nat):Int):=by omega
     have hh1:i<=h:=by omega
     have V4:h<j:=by omega
     obtain⟨X,hX,sX⟩:=Gy.out h (by omega) (by omega);obtain⟨Y,hY,sY⟩:=HS2.out (pp-h) (by omega) (by omega);have hrw:=hrow'.ext jf;have HP:∀b,lt Y X=b->at2 (fun u v=> !lt u v) xs[pp-h]? xs[h]? = !b:=fun b hb=>by rw[hX,hY];simp only[at2,hb]
     have hph:pp-h<n:=by omega
     have hhp:h<=pp:=by omega
     clear hh;obtain⟨bb,r9⟩:=aH (lt Y X);have Hp:=ah (HP _ r9);have hbb:=ah r9;have Ai:=ah (C.out.keep _ _ HJ.out (Kp.dH jf));clear r9 HP;go_wp2_with fail
     refine iw (by kernel_rfl) (fun i=>match i with|0=>Ty.is (fv)|1=>Ty.is (.slice (some ⟨g,0,none⟩) n cap)|2=>Ty.is (.int .i64 ((pp:Nat):Int))|3=>Ty.is (.int .i64 ((h:Nat):Int))|4=>Ty.is (.int .i64 ((pp-h:Nat):Int))|5=>aK (bD.E Y)|6=>Ty.is (.agg (bD.E Y).toArray)|7=>Ty.is (.slice (some ⟨g,0,none⟩) n cap)|8=>Ty.is (.int .i64 ((h:Nat):Int))|9=>aK (bD.E X)|10=>Ty.is (.agg (bD.E X).toArray)|11=>CU bb|12=>Ty.is (.bool bb)|13=>Ty.is (.bool (!bb))|_=>Ty.any) (by kernel_rfl) rfl ?_;intro v;refine⟨?_,?_,?_,?_,?_,?_,?_,?_,?_,?_,?_,?_,?_,?_,?_⟩
     ·exact fun wq hq _=>ak rfl (aF (.tmp 4) rfl rfl rfl)
     ·exact fun wq hq _=>ak rfl (aF (.tmp 0) rfl rfl rfl)
     ·exact fun wq hq _=>ak rfl (aF (.tmp 22) rfl rfl rfl)
     ·exact fun wq hq _=>ak rfl (aF (.tmp 23) rfl rfl rfl)
     ·rintro wq hq ⟨h0,h1,-⟩;exact ak rfl (eF .sub 3 3 (.tmp 160) (.tmp 161) rfl _ _ h0 h1 (wP _ _ _ _ (by omega) (by omega) (by omega)) rfl)
     ·rintro wq hq ⟨h0,h1,-⟩;exact ak rfl (iU (.tmp 159) (.tmp 162) rfl h0 (pp-h) h1 (hrw.ext hq) hY)
     ·rintro wq hq ⟨h0,-⟩;exact ak rfl (jC (.tmp 163) rfl h0)
     ·exact fun wq hq _=>ak rfl (aF (.tmp 0) rfl rfl rfl)
     ·exact fun wq hq _=>ak rfl (aF (.tmp 23) rfl rfl rfl)
     ·rintro wq hq ⟨h0,h1,-⟩;exact ak rfl (iU (.tmp 165) (.tmp 166) rfl h0 (h) h1 (hrw.ext hq) hX)
     ·rintro wq hq ⟨h0,-⟩;exact ak rfl (jC (.tmp 167) rfl h0)
     ·rintro wq hq ⟨h0,h1,h2,-⟩;exact ak rfl (hbb.out▸wU C.out (.tmp 158) (.tmp 164) (.tmp 168) _ rfl h0 h1 h2 sY sX (C.out.keep _ _ Ai.out (Kp.dH hq)))
     ·rintro wq hq ⟨h0,-⟩;exact ak rfl (wV _ _ (.tmp 169) _ rfl _ h0 rfl)
     ·rintro wq hq ⟨h0,-⟩;exact ak rfl (I6 (.tmp 170) 4 rfl _ h0 rfl)
     ·intro wq hq hT
      have k13:=hT 13 (by decide);change v 13=_ at k13;clear hT;simp only[List.drop_succ_cons,List.drop_zero,gH,dK,List.set_cons_succ,List.set_cons_zero,Nat.reduceAdd];rw[k13];cases bb
      case true=>
       have vS:=ah (hbs.out.down (h:=h) rH.out (by omega) (by omega) Hp.out);have vT:=jf.trans hq;clear hY hX hrw hbs jf Hp;go_wp2;go_roundw
       case rel=>exact⟨i,h,by omega,by omega,by omega,by go_num,by go_num,vT,vS⟩
       case measure=>simp[intOf];omega
      case false=>
       have vS:=ah (hbs.out.up (h:=h) rH.out (by omega) (by omega) Hp.out);have vT:=jf.trans hq;clear hY hX hrw hbs jf Hp;go_wp2;go_roundw
       case rel=>exact⟨h+1,j,by omega,by omega,by omega,by go_num,by go_num,vT,vS⟩
       case measure=>simp[intOf];omega
    ·obtain rfl:i=j:=by omega
     have d2:=fT i i;have JG:=hbs.out;obtain⟨s,hs⟩:=aH (i);rw[hs]at JG Ma hjb d2⊢;obtain⟨z,hz,Yd,has,hsm,hzb,hmz⟩:=G8.out s Ma hjb;have ez:(mid:Int)+(m:Int)-(s:Int)=((z:Nat):Int):=by omega
     obtain⟨L1,L2,R1,R2,hM⟩:=GI.out s z hz Ma hjb Yd has hsm hzb hmz JG;have HM:=ah hM;have hsz:s+z=mid+m:=hz;have hrw:Rw g cap n wr (A++L++R++D):=by rw[Hxs.out];exact hrow'.ext jf
     have hkp:=Kp.dH (g:=g) jf;clear hbs JG hM jf hs hrow' GI G8 rH Gy HS2 hz
     by_cases hP:s<m<;>by_cases hQ:s<mid<;>by_cases hK:a<s<;>by_cases hT:z<b<;>first
      |(exfalso;omega)
      |((first|have f1:=vB s m|have f1:=vC s m)
        (first|have f2:=vB m z|have f2:=vC m z)
        (first|have f3:=vB a s|have f3:=vC a s)
        (first|have f4:=vB s mid|have f4:=vC s mid)
        (first|have f5:=vB mid z|have f5:=vC mid z)
        (first|have f6:=vB z b|have f6:=vC z b)
        (first
          |(have lY:=HM.out.stay _ (by omega) hrw
            clear hrw)
          |(have Hc:=ah (HM.out.rotate fv _ hn hP hQ hrw)
            clear hrw;go_wp2_with fail
            refine(Hc.out).mono ?_;rintro e5 w5 ⟨rfl,hk5,lY⟩;replace hkp:=hkp.trans hk5;clear hk5 Hc))
        have HJ5:=ah (C.out.keep _ _ HJ.out hkp)
        (first
          |(have sV:=HM.out.af3 _ (by omega) lY
            clear lY)
          |(have Hc:=ah (HM.out.left LV.out _ hn hN af5 hK hQ HJ5.out lY)
            clear lY;go_wp2_with fail
            refine(Hc.out).mono ?_;rintro e6 w6 ⟨rfl,qH,sV⟩;replace hkp:=hkp.trans qH;clear qH Hc))
        have HJ6:=ah (C.out.keep _ _ HJ.out hkp)
        (first
          |(have hr7:=HM.out.aaR Hw.out _ (by omega) sV
            clear sV)
          |(have Hc:=ah (HM.out.right Hw.out LV.out _ hn hN af4 hP hT HJ6.out sV)
            clear sV;go_wp2_with fail
            refine(Hc.out).mono ?_;rintro e7 w7 ⟨rfl,FR,hr7⟩;replace hkp:=hkp.trans FR;clear FR Hc))
        go_wp2
        (try simp only[Exit.inBlock,Exit.then])
        refine bodyPost_end (results_none rfl _ _ _) rfl ?_;exact⟨rfl,hkp,hr7⟩)
  ·have hcl:True:=trivial
   have hgt:=fT mid m;have rH:=ah (OL Hw.out Yb Yc (by omega) (lo:=a) (hi:=m) (pp:=pp) (by omega) (by omega) (fun c h1 h2=>by omega));have G8:=ah (show∀s,a<=s->s<=m->∃z,s+z=mid+m/\s<=mid/\a<=s/\s<=m/\z<=b/\m<=z from fun s h1 h2=>⟨mid+m-s,by omega,by omega,by omega,by omega,by omega,by omega⟩)
   have GI:=ah (show∀s z,s+z=mid+m->a<=s->s<=m->s<=mid->a<=s->s<=m->z<=b->m<=z->Bs (fun k=>at2 (fun u v=> !lt u v) xs[pp-k]? xs[k]?) a m s s->∃L1 L2 R1 R2,Mid lt S A L R a m b mid s z L1 L2 R1 R2 from fun s z h1 h2 h3 h4 h5 h6 h7 h8 hb=>
    aaQ Hw.out hL hR HA.out lL lR qP hmb hmid gL gR (by omega) h1 h2 h3 h4 h5 h6 h7 h8 hb.low hb.high (.inr ⟨rfl,rfl⟩) hS)
   clear Yb Yc;clear hw hL hR hS hJ hrow ha hm hb hxs hxl e1 e2 gL gR lL lR hmid hpp ih hL1 hR1 hL0 hR0 hcl;go_enter func57,ntmps57
   go_wp2
   go_loopw [20,21] (fun vi vj wr=>∃i j:Nat,a<=i/\i<=j/\j<=m/\vi=.int .i64 (i:Nat)/\vj=.int .i64 (j:Nat)/\Ext w wr/\Hid (Bs (fun k=>at2 (fun u v=> !lt u v) xs[pp-k]? xs[k]?) a m i j)) (fun vi vj _=>(intOf vj).toNat-(intOf vi).toNat)
   case atStart=>exact⟨a,m,aI _,by omega,aI _,by go_num,by go_num,Ext.refl _,ah (Bs.start (by omega))⟩
   case round=>
    obtain⟨i,j,Ma,hij,hjb,rfl,rfl,jf,hbs⟩:=hrel;by_cases hlt:i<j
    ·have d2:=eY i j
     obtain⟨h,hh⟩:∃h,h=(i+j)/2:=⟨_,rfl⟩;have eh:((i:Int)+(j:Int))/2=((h:Nat):Int):=by omega
     have hh1:i<=h:=by omega
     have V4:h<j:=by omega
     obtain⟨X,hX,sX⟩:=Gy.out h (by omega) (by omega);obtain⟨Y,hY,sY⟩:=HS2.out (pp-h) (by omega) (by omega);have hrw:=hrow'.ext jf;have HP:∀b,lt Y X=b->at2 (fun u v=> !lt u v) xs[pp-h]? xs[h]? = !b:=fun b hb=>by rw[hX,hY];simp only[at2,hb]
     have hph:pp-h<n:=by omega
     have hhp:h<=pp:=by omega
     clear hh;obtain⟨bb,r9⟩:=aH (lt Y X);have Hp:=ah (HP _ r9);have hbb:=ah r9;have Ai:=ah (C.out.keep _ _ HJ.out (Kp.dH jf));clear r9 HP;go_wp2_with fail
     refine iw (by kernel_rfl) (fun i=>match i with|0=>Ty.is (fv)|1=>Ty.is (.slice (some ⟨g,0,none⟩) n cap)|2=>Ty.is (.int .i64 ((pp:Nat):Int))|3=>Ty.is (.int .i64 ((h:Nat):Int))|4=>Ty.is (.int .i64 ((pp-h:Nat):Int))|5=>aK (bD.E Y)|6=>Ty.is (.agg (bD.E Y).toArray)|7=>Ty.is (.slice (some ⟨g,0,none⟩) n cap)|8=>Ty.is (.int .i64 ((h:Nat):Int))|9=>aK (bD.E X)|10=>Ty.is (.agg (bD.E X).toArray)|11=>CU bb|12=>Ty.is (.bool bb)|13=>Ty.is (.bool (!bb))|_=>Ty.any) (by kernel_rfl) rfl ?_;intro v;refine⟨?_,?_,?_,?_,?_,?_,?_,?_,?_,?_,?_,?_,?_,?_,?_⟩
     ·exact fun wq hq _=>ak rfl (aF (.tmp 4) rfl rfl rfl)
     ·exact fun wq hq _=>ak rfl (aF (.tmp 0) rfl rfl rfl)
     ·exact fun wq hq _=>ak rfl (aF (.tmp 22) rfl rfl rfl)
     ·exact fun wq hq _=>ak rfl (aF (.tmp 23) rfl rfl rfl)
     ·rintro wq hq ⟨h0,h1,-⟩;exact ak rfl (eF .sub 3 3 (.tmp 160) (.tmp 161) rfl _ _ h0 h1 (wP _ _ _ _ (by omega) (by omega) (by omega)) rfl)
     ·rintro wq hq ⟨h0,h1,-⟩;exact ak rfl (iU (.tmp 159) (.tmp 162) rfl h0 (pp-h) h1 (hrw.ext hq) hY)
     ·rintro wq hq ⟨h0,-⟩;exact ak rfl (jC (.tmp 163) rfl h0)
     ·exact fun wq hq _=>ak rfl (aF (.tmp 0) rfl rfl rfl)
     ·exact fun wq hq _=>ak rfl (aF (.tmp 23) rfl rfl rfl)
     ·rintro wq hq ⟨h0,h1,-⟩;exact ak rfl (iU (.tmp 165) (.tmp 166) rfl h0 (h) h1 (hrw.ext hq) hX)
     ·rintro wq hq ⟨h0,-⟩;exact ak rfl (jC (.tmp 167) rfl h0)
     ·rintro wq hq ⟨h0,h1,h2,-⟩;exact ak rfl (hbb.out▸wU C.out (.tmp 158) (.tmp 164) (.tmp 168) _ rfl h0 h1 h2 sY sX (C.out.keep _ _ Ai.out (Kp.dH hq)))
     ·rintro wq hq ⟨h0,-⟩;exact ak rfl (wV _ _ (.tmp 169) _ rfl _ h0 rfl)
     ·rintro wq hq ⟨h0,-⟩;exact ak rfl (I6 (.tmp 170) 4 rfl _ h0 rfl)
     ·intro wq hq hT
      have k13:=hT 13 (by decide);change v 13=_ at k13;clear hT;simp only[List.drop_succ_cons,List.drop_zero,gH,dK,List.set_cons_succ,List.set_cons_zero,Nat.reduceAdd];rw[k13];cases bb
      case true=>
       have vS:=ah (hbs.out.down (h:=h) rH.out (by omega) (by omega) Hp.out);have vT:=jf.trans hq;clear hY hX hrw hbs jf Hp;go_wp2;go_roundw
       case rel=>exact⟨i,h,by omega,by omega,by omega,by go_num,by go_num,vT,vS⟩
       case measure=>simp[intOf];omega
      case false=>
       have vS:=ah (hbs.out.up (h:=h) rH.out (by omega) (by omega) Hp.out);have vT:=jf.trans hq;clear hY hX hrw hbs jf Hp;go_wp2;go_roundw
       case rel=>exact⟨h+1,j,by omega,by omega,by omega,by go_num,by go_num,vT,vS⟩
       case measure=>simp[intOf];omega
    ·obtain rfl:i=j:=by omega
     have d2:=fT i i;have JG:=hbs.out;obtain⟨s,hs⟩:=aH (i);rw[hs]at JG Ma hjb d2⊢;obtain⟨z,hz,Yd,has,hsm,hzb,hmz⟩:=G8.out s Ma hjb;have ez:(mid:Int)+(m:Int)-(s:Int)=((z:Nat):Int):=by omega
     obtain⟨L1,L2,R1,R2,hM⟩:=GI.out s z hz Ma hjb Yd has hsm hzb hmz JG;have HM:=ah hM;have hsz:s+z=mid+m:=hz;have hrw:Rw g cap n wr (A++L++R++D):=by rw[Hxs.out];exact hrow'.ext jf
     have hkp:=Kp.dH (g:=g) jf;clear hbs JG hM jf hs hrow' GI G8 rH Gy HS2 hz
     by_cases hP:s<m<;>by_cases hQ:s<mid<;>by_cases hK:a<s<;>by_cases hT:z<b<;>first
      |(exfalso;omega)
      |((first|have f1:=vB s m|have f1:=vC s m)
        (first|have f2:=vB m z|have f2:=vC m z)
        (first|have f3:=vB a s|have f3:=vC a s)
        (first|have f4:=vB s mid|have f4:=vC s mid)
        (first|have f5:=vB mid z|have f5:=vC mid z)
        (first|have f6:=vB z b|have f6:=vC z b)
        (first
          |(have lY:=HM.out.stay _ (by omega) hrw
            clear hrw)
          |(have Hc:=ah (HM.out.rotate fv _ hn hP hQ hrw)
            clear hrw;go_wp2_with fail
            refine(Hc.out).mono ?_;rintro e5 w5 ⟨rfl,hk5,lY⟩;replace hkp:=hkp.trans hk5;clear hk5 Hc))
        have HJ5:=ah (C.out.keep _ _ HJ.out hkp)
        (first
          |(have sV:=HM.out.af3 _ (by omega) lY
            clear lY)
          |(have Hc:=ah (HM.out.left LV.out _ hn hN af5 hK hQ HJ5.out lY)
            clear lY;go_wp2_with fail
            refine(Hc.out).mono ?_;rintro e6 w6 ⟨rfl,qH,sV⟩;replace hkp:=hkp.trans qH;clear qH Hc))
        have HJ6:=ah (C.out.keep _ _ HJ.out hkp)
        (first
          |(have hr7:=HM.out.aaR Hw.out _ (by omega) sV
            clear sV)
          |(have Hc:=ah (HM.out.right Hw.out LV.out _ hn hN af4 hP hT HJ6.out sV)
            clear sV;go_wp2_with fail
            refine(Hc.out).mono ?_;rintro e7 w7 ⟨rfl,FR,hr7⟩;replace hkp:=hkp.trans FR;clear FR Hc))
        go_wp2
        (try simp only[Exit.inBlock,Exit.then])
        refine bodyPost_end (results_none rfl _ _ _) rfl ?_;exact⟨rfl,hkp,hr7⟩)
theorem WB(C:EF g lt S J fv)(hw:Wk lt):∀N,Mc g lt S J fv N
 |0=>by intro cap n a m b A L R D w hN hn ha hm hb hL0 hR0;omega
 |N+1=>adN C hw N (WB C hw N)
end
end Go.Proofs.YtgboomjahhnldaaGreatDoor.Ac
namespace Go.Proofs.YtgboomjahhnldaaGreatDoor.Ac
open Go.Proofs.Tryz
open Go.RowKit
section
variable {g:Nat} {lt:(bM×bn)->(bM×bn)->Bool} {S:(bM×bn)->Prop} {J:World->Prop} {fv:Value}
def adO(lt:(bM×bn)->(bM×bn)->Bool)(g cap n:Nat)(xs:List (bM×bn))(a:Nat)(w:World):Prop:=∃X Z,X.length=a/\Full lt 20 X/\SO lt xs (X++Z)/\Rw g cap n w (X++Z)
def NR(lt:(bM×bn)->(bM×bn)->Bool)(g cap n:Nat)(xs:List (bM×bn))(q:Nat)(w:World):Prop:=∃X Y,Full lt q X/\fA lt Y/\Y.length<q/\SO lt xs (X++Y)/\Rw g cap n w (X++Y)
def Sz(lt:(bM×bn)->(bM×bn)->Bool)(g cap n:Nat)(xs:List (bM×bn))(q a:Nat)(w:World):Prop:=∃X2 X Y,X2.length=a/\Full lt (2*q) X2/\Full lt q X/\fA lt Y/\Y.length<q/\SO lt xs (X2++(X++Y))/\Rw g cap n w (X2++(X++Y))
theorem Sz.end_{cap n q a:Nat}{xs:List (bM×bn)}{w:World}(h:Sz lt g cap n xs q a w)(h1:n<a+2*q)(h2:n<=a+q):NR lt g cap n xs (2*q) w:=by
 obtain⟨X2,X,Y,k1,k2,k3,k4,k5,k6,k7⟩:=h;have hl:=k7.len;simp only[eu]at hl;rcases k3.two with rfl|⟨l1,s1⟩|⟨c1,c2,X',rfl,l1,l2,_,_,_⟩
 ·exact⟨X2,Y,k2,k4,by omega,by simpa using k6,by simpa using k7⟩
 ·have:Y=[]:=kM (by omega)
  subst this;exact⟨X2,X,k2,s1,by omega,by simpa using k6,by simpa using k7⟩
 ·simp at hl;omega
theorem NR.fin{cap n q:Nat}{xs:List (bM×bn)}{w:World}(h:NR lt g cap n xs q w)(h1:n<=q):∃M,fA lt M/\SO lt xs M/\Rw g cap n w M:=by
 obtain⟨X,Y,k2,k4,k5,k6,k7⟩:=h;have hl:=k7.len;simp only[eu]at hl;rcases k2.two with rfl|⟨l1,s1⟩|⟨c1,c2,X',rfl,l1,l2,_,_,_⟩
 ·exact⟨Y,k4,by simpa using k6,by simpa using k7⟩
 ·have:Y=[]:=kM (by omega)
  subst this;exact⟨X,s1,by simpa using k6,by simpa using k7⟩
 ·simp at hl;omega
theorem Ye(C:EF g lt S J fv)(hw:Wk lt)(cap n:Nat)(xs:List (bM×bn))(w:World)(hn:n<=1048576)(hS:∀y∈xs,S y)(hJ:J w)(hrow:Rw g cap n w xs):
 Calls prog 42 #[.slice (some ⟨g,0,none⟩) n cap,.int .i64 (n:Nat),fv] w fun e w'=>e=.returned (.tuple #[])/\Kp g w w'/\∃M,fA lt M/\SO lt xs M/\Rw g cap n w' M:=by
 have h0:adO lt g cap n xs 0 w:=⟨[],xs,rfl,Full.nil,by simpa using SO.refl xs,by simpa using hrow⟩;have HS:=ah (show∀l,SO lt xs l->∀y∈l,S y from fun l h y hy=>hS y (h.perm.mem_iff.2 hy));have ajP:=ah (fun N=>WB C hw N);have Kr:=ah (fun a b A B D wq hn h1 h2 h3 h4 h5=>Vt C hw cap n a b A B D wq hn h1 h2 h3 h4 h5);have Hw:=ah hw;replace C:=ah C;have HJ:=ah hJ;clear hw hS hJ hrow;go_enter func42,ntmps42
 go_wp2
 go_loopw [7,8] (fun vi vj wr=>∃a:Nat,a<=n/\vi=.int .i64 (a:Nat)/\vj=.int .i64 ((a+20:Nat):Int)/\Kp g w wr/\adO lt g cap n xs a wr) (fun vi _ _=>n-(intOf vi).toNat)
 case atStart=>exact⟨0,bI _,rfl,by go_num,Kp.refl _ _,h0⟩
 case round=>
  clear h0;obtain⟨a,han,rfl,rfl,hkp,hst⟩:=hrel;have Ai:=ah (C.out.keep _ _ HJ.out hkp);by_cases hlt:a+20<=n
  ·have d1:decide (((a+20:Nat):Int)<=(n:Int))=true:=bJ (by omega)
   obtain⟨X,Z,k1,k2,k3,k4⟩:=hst;have hl:=k4.len;simp only[eu]at hl;have e1:X++Z=X++Z.take 20++Z.drop 20:=by simp
   rw[e1]at k3 k4;have Hc:=ah (Kr.out a (a+20) X (Z.take 20) (Z.drop 20) wr hn k1.symm (by simp;omega) (fun y hy=>HS.out _ k3 y (by rw[<-e1];exact qh _ (List.mem_of_mem_take hy))) Ai.out k4)
   have Hk:=ah (show∀w' M,fA lt M->SO lt (Z.take 20) M->Rw g cap n w' (X++M++Z.drop 20)->adO lt g cap n xs (a+20) w' from fun w' M q1 q2 q3=>by
    have hM:=q2.perm.length_eq;rw[fu,jF (by omega)]at hM;exact⟨X++M,Z.drop 20,by simp;omega,k2.snoc hM.symm q1,k3.trans (((SO.refl X).append q2).append (SO.refl _)),q3⟩)
   obtain⟨b,hb⟩:=aH (a+20);rw[hb]at Hc Hk d1 hlt⊢;have Hb:=ah hb;clear k1 k2 k3 k4 hl e1 hb;go_wp2_with fail
   refine(Hc.out).mono ?_;rintro e w2 ⟨rfl,hk2,M,q1,q2,q3⟩;have lT:=Hk.out w2 M q1 q2 q3;clear q1 q2 q3 Hc Hk;go_wp2;go_roundw
   case rel=>exact⟨b,hlt,rfl,by go_num,hkp.trans hk2,lT⟩
   case measure=>have:=Hb.out;simp[intOf];omega
  ·have d1:decide (((a+20:Nat):Int)<=(n:Int))=false:=aY (by omega)
   obtain⟨X,Z,k1,k2,k3,k4⟩:=hst;have hl:=k4.len;simp only[eu]at hl;have e1:X++Z=X++Z++[]:=by simp
   rw[e1]at k4;have Hc:=ah (Kr.out a n X Z [] wr hn k1.symm (by omega) (fun y hy=>HS.out _ k3 y (qh _ hy)) Ai.out k4)
   have Hk:=ah (show∀w' M,fA lt M->SO lt Z M->Rw g cap n w' (X++M++[])->NR lt g cap n xs 20 w' from fun w' M q1 q2 q3=>by
    have hM:=q2.perm.length_eq;exact⟨X,M,k2,q1,by omega,k3.trans ((SO.refl X).append q2),by simpa using q3⟩)
   clear k1 k2 k3 k4 hl e1;go_wp2_with fail
   refine(Hc.out).mono ?_;rintro e w2 ⟨rfl,hk2,M,q1,q2,q3⟩;have lT:=Hk.out w2 M q1 q2 q3;have xW:=hkp.trans hk2;clear q1 q2 q3 Hc Hk hkp hk2 Ai Kr;go_wp2
   go_loopw [6] (fun vq wr=>∃q:Nat,0<q/\q<=4194304/\vq=.int .i64 (q:Nat)/\Kp g w wr/\NR lt g cap n xs q wr) (fun vq _=>n-(intOf vq).toNat)
   case atStart=>exact⟨20,by omega,by omega,rfl,xW,lT⟩
   case round=>
    clear lT xW;obtain⟨q,hq0,hqn,rfl,hkq,hsq⟩:=hrel;by_cases avU:q<n
    ·have d2:=eY q n
     have ajQ:Sz lt g cap n xs q 0 wr:=by
      obtain⟨X,Y,k2,k4,k5,k6,k7⟩:=hsq;exact⟨[],X,Y,rfl,Full.nil,k2,k4,k5,by simpa using k6,by simpa using k7⟩
     clear hsq;go_wp2
     go_loopw [7,8] (fun vi vj wr=>∃a b:Nat,a<=n/\b<=10485760/\Hid (b=a+2*q)/\vi=.int .i64 (a:Nat)/\vj=.int .i64 (b:Nat)/\Kp g w wr/\Sz lt g cap n xs q a wr) (fun vi _ _=>n-(intOf vi).toNat)
     case atStart=>exact⟨0,2*q,bI _,by omega,ah (by omega),rfl,by go_num,hkq,ajQ⟩
     case round=>
      clear ajQ hkq;obtain⟨a,b,avV,hb1,Hb,rfl,rfl,hkp,hst⟩:=hrel;have hb2:=Hb.out;have hab:a<b:=by omega
      obtain⟨m,hm⟩:∃m,m=a+q:=⟨_,rfl⟩;have em:(a:Int)+(q:Int)=((m:Nat):Int):=by omega
      have hm1:m<b:=by omega
      have hm2:a<m:=by omega
      have Hm:=ah hm;have Ai:=ah (C.out.keep _ _ HJ.out hkp);by_cases hbn:b<=n
      ·have d3:decide ((b:Int)<=(n:Int))=true:=bJ (by omega)
       obtain⟨X2,X,Y,k1,k2,k3,k4,k5,k6,k7⟩:=hst;have hl:=k7.len;simp only[eu]at hl
       obtain⟨c1,c2,X',rfl,l1,l2,s1,s2,kf⟩:∃c1 c2 X',X=c1++c2++X'/\c1.length=q/\c2.length=q/\fA lt c1/\fA lt c2/\Full lt q X':=by
        rcases k3.two with rfl|⟨l1,s1⟩|h
        ·simp at hl;omega
        ·omega
        ·exact h
       have e1:X2++(c1++c2++X'++Y)=X2++c1++c2++(X'++Y):=by simp only[dV]
       rw[e1]at k6 k7;have Hc:=ah (ajP.out (b-a) cap n a m b X2 c1 c2 (X'++Y) wr (aI _) hn k1.symm (by omega) (by omega) (by omega) (by omega) s1 s2 (fun y hy=>HS.out _ k6 y (by rcases List.mem_append.1 hy with hy|hy<;>simp[hy])) Ai.out k7)
       have Hk:=ah (show∀w' M,fA lt M->SO lt (c1++c2) M->Rw g cap n w' (X2++M++(X'++Y))->Sz lt g cap n xs q b w' from fun w' M q1 q2 q3=>by
        have hM:=q2.perm.length_eq;simp only[eu]at hM;refine⟨X2++M,X',Y,by simp;omega,k2.snoc (by omega) q1,kf,k4,k5,k6.trans ?_,q3⟩;rw[show X2++c1++c2++(X'++Y)=X2++(c1++c2)++(X'++Y) by simp only[dV]];exact((SO.refl X2).append q2).append (SO.refl _))
       clear k1 k2 k3 k4 k5 k6 k7 hl e1 hm hb2;go_wp2_with fail
       refine(Hc.out).mono ?_;rintro e w2 ⟨rfl,hk2,M,q1,q2,q3⟩;have lT:=Hk.out w2 M q1 q2 q3;clear q1 q2 q3 Hc Hk;go_wp2;go_roundw
       case rel=>exact⟨b,b+2*q,hbn,by omega,ah rfl,rfl,by go_num,hkp.trans hk2,lT⟩
       case measure=>simp[intOf];omega
      ·have d3:decide ((b:Int)<=(n:Int))=false:=aY (by omega)
       by_cases hmn:m<n
       ·have d4:=eY m n
        obtain⟨X2,X,Y,k1,k2,k3,k4,k5,k6,k7⟩:=hst;have hl:=k7.len;simp only[eu]at hl
        obtain⟨l1,s1⟩:X.length=q/\fA lt X:=by
         rcases k3.two with rfl|h|⟨c1,c2,X',rfl,l1,l2,_,_,_⟩
         ·simp at hl;omega
         ·exact h
         ·simp at hl;omega
        have e1:X2++(X++Y)=X2++X++Y++[]:=by simp
        rw[e1]at k6 k7;have Hc:=ah (ajP.out (n-a) cap n a m n X2 X Y [] wr (aI _) hn k1.symm (by omega) (by omega) (by omega) (by omega) s1 k4 (fun y hy=>HS.out _ k6 y (by rcases List.mem_append.1 hy with hy|hy<;>simp[hy])) Ai.out k7)
        have Hk:=ah (show∀w' M,fA lt M->SO lt (X++Y) M->Rw g cap n w' (X2++M++[])->NR lt g cap n xs (2*q) w' from fun w' M q1 q2 q3=>by
         have hM:=q2.perm.length_eq;simp only[eu]at hM;refine⟨X2,M,k2,q1,by omega,k6.trans ?_,by simpa using q3⟩;rw[show X2++X++Y++[]=X2++(X++Y) by simp];exact(SO.refl X2).append q2)
        clear k1 k2 k3 k4 k5 k6 k7 hl e1 hm hb2;go_wp2_with fail
        refine(Hc.out).mono ?_;rintro e w2 ⟨rfl,hk2,M,q1,q2,q3⟩;have lT:=Hk.out w2 M q1 q2 q3;clear q1 q2 q3 Hc Hk;go_wp2;go_roundw
        case rel=>exact⟨2*q,by omega,by omega,by go_num,hkp.trans hk2,lT⟩
        case measure=>simp[intOf];omega
       ·have d4:=fT m n
        have lT:=hst.end_ (by omega) (by omega);clear hst hm hb2;go_wp2;go_roundw
        case rel=>exact⟨2*q,by omega,by omega,by go_num,hkp,lT⟩
        case measure=>simp[intOf];omega
    ·have d2:=fT q n
     obtain⟨M,q1,q2,q3⟩:=hsq.fin (by omega);have hfin:∃M,fA lt M/\SO lt xs M/\Rw g cap n wr M:=⟨M,q1,q2,q3⟩;clear q1 q2 q3 hsq;go_wp2
     (try simp only[Exit.inBlock,Exit.then])
     refine bodyPost_end (results_none rfl _ _ _) rfl ?_;exact⟨rfl,hkq,hfin⟩
theorem NS(C:EF g lt S J fv)(hw:Wk lt)(cap n:Nat)(xs:List (bM×bn))(w:World)(hn:n<=1048576)(hS:∀y∈xs,S y)(hJ:J w)(hrow:Rw g cap n w xs):
 Calls prog 33 #[.slice (some ⟨g,0,none⟩) n cap,fv] w fun e w'=>e=.returned (.tuple #[])/\Kp g w w'/\∃M,fA lt M/\SO lt xs M/\Rw g cap n w' M:=by
 have Hc:=ah (Ye C hw cap n xs w hn hS hJ hrow);clear C hw hS hJ hrow;go_enter func33,ntmps33
 go_wp2_with fail
 refine(Hc.out).mono ?_;rintro e w2 ⟨rfl,hk2,hM⟩;go_wp2
 (try simp only[Exit.inBlock,Exit.then])
 refine bodyPost_end (results_none rfl _ _ _) rfl ?_;exact⟨rfl,hk2,hM⟩
end
end Go.Proofs.YtgboomjahhnldaaGreatDoor.Ac
namespace Go.Proofs.YtgboomjahhnldaaGreatDoor
open Go.Proofs.Tryz Go.RowKit
def SA(a b:Int):Int:=if a≠0 then a else b
theorem aaU(A:Option Addr)(c:Nat)(a b:Int)(w:World)(hs:Sl fD w A [a,b]):Calls prog 35 #[.slice A 2 c] w fun e w'=>e=.returned (.int .i64 (SA a b))/\w'=w:=by
 obtain⟨blk,off,rfl,hb,h0⟩:=Eo hs (k:=0) (by simp);obtain⟨avW,off',he,-,h1⟩:=Eo hs (k:=1) (by simp);simp only[Option.some.injEq,Addr.mk.injEq]at he;obtain⟨rfl,rfl,-⟩:=he;simp only[List.getElem_cons_zero,List.getElem_cons_succ,Nat.add_zero]at h0 h1;obtain⟨z,hz⟩:=aH (SA a b);rw[hz];unfold SA at hz;by_cases ha:a=0
 ·rw[aU (by simp[ha])]at hz
  subst hz;have d1:(a !=0)=false:=by simp[ha]
  by_cases hb0:b=0
  ·have d2:(b !=0)=false:=by simp[hb0]
   clear ha;have Hb0:=ah hb0;clear hb0;go_enter func35,ntmps35
   go_wp2
   go_loopw [8] (fun vk wr=>∃k:Nat,k<=2/\vk=.int .i64 (k:Nat)/\Hid (wr=w)) (fun vk _=>2-(intOf vk).toNat)
   case atStart=>exact⟨0,by omega,rfl,ah rfl⟩
   case round=>
    obtain⟨k,hk,rfl,HW⟩:=hrel;have O4:=HW.out;subst O4;by_cases hlt:k<2
    ·have d3:=eY k 2
     have hck:wr.cell? ⟨blk,off+k,none⟩=some (.int .i64 (if k=0 then a else b)):=by
      rcases gM k 1 with h|h
      ·obtain rfl:k=0:=by omega
       simpa using h0
      ·obtain rfl:k=1:=by omega
       simpa using h1
     have d4:((if k=0 then a else b) !=0)=false:=by split<;>assumption
     generalize (if k=0 then a else b)=cv at hck d4;clear h0 h1;go_wp2;go_roundw
     case rel=>exact⟨k+1,by omega,by go_num,ah (by simp)⟩
     case measure=>simp[intOf];omega
    ·have d3:=fT k 2
     go_wp2;go_ret;exact⟨by rw[Hb0.out];rfl,rfl⟩
  ·have d2:(b !=0)=true:=by simp[hb0]
   clear ha hb0;go_enter func35,ntmps35
   go_wp2
   go_loopw [8] (fun vk wr=>∃k:Nat,k<=1/\vk=.int .i64 (k:Nat)/\Hid (wr=w)) (fun vk _=>2-(intOf vk).toNat)
   case atStart=>exact⟨0,by omega,rfl,ah rfl⟩
   case round=>
    obtain⟨k,hk,rfl,HW⟩:=hrel;have O4:=HW.out;subst O4;have d3:=eY k 2;by_cases hlt:k<1
    ·obtain rfl:k=0:=by omega
     go_wp2;go_roundw
     case rel=>exact⟨1,by omega,by go_num,ah (by simp)⟩
     case measure=>simp[intOf]
    ·obtain rfl:k=1:=by omega
     go_wp2;go_ret;exact⟨rfl,rfl⟩
 ·rw[bH ha]at hz
  subst hz;have d1:(a !=0)=true:=by simp[ha]
  clear ha;go_enter func35,ntmps35
  go_wp2
  go_loopw [8] (fun vk wr=>vk=.int .i64 0/\Hid (wr=w)) (fun vk _=>2-(intOf vk).toNat)
  case atStart=>exact⟨rfl,ah rfl⟩
  case round=>
   obtain⟨rfl,HW⟩:=hrel;have O4:=HW.out;subst O4;go_wp2;go_ret;exact⟨rfl,rfl⟩
def BR(x y:bM×bn):Bool:=decide (x.1.day<y.1.day∨(x.1.day=y.1.day/\x.1.number<y.1.number))
theorem ajR(x y:bM×bn):decide (SA (Lib.compareInt x.1.day y.1.day) (Lib.compareInt x.1.number y.1.number)<0)=BR x y:=by
 unfold SA Lib.compareInt BR;apply decide_eq_decide.2
 repeat' split
 all_goals omega
theorem aaV(x y:bM×bn)(w:World):Calls prog 34 #[.agg x.1.cells.toArray,.agg y.1.cells.toArray] w fun e w'=>∃z:Int,e=.returned (.int .i64 z)/\decide (z<0)=BR x y/\Ext w w':=by
 have hlt:=ajR x y;generalize BR x y=L at hlt⊢;obtain⟨x,gx⟩:=x;obtain⟨y,gy⟩:=y;have hc1:=fun w=>Tryz.cmp_Compare_int x.day y.day w;have hc2:=fun w=>Tryz.cmp_Compare_int x.number y.number w;dsimp only at*;have hbx:∀w1,Ext (w.alloc (.cells x.cells.toArray 67)) w1->At w1 w.heap.size 0 x.cells:=fun w1 he=>At.new _ _ _ he
 have hby:∀w1,Ext ((w.alloc (.cells x.cells.toArray 67)).alloc (.cells y.cells.toArray 67)) w1->At w1 (w.heap.size+1) 0 y.cells:=fun w1 he=>by
  have:=At.new (w:=w.alloc (.cells x.cells.toArray 67)) _ _ he;simpa using this
 have hx2:Ext w ((w.alloc (.cells x.cells.toArray 67)).alloc (.cells y.cells.toArray 67)):=((Ext.refl w).alloc _).alloc _;have hx1:Ext (w.alloc (.cells x.cells.toArray 67)) ((w.alloc (.cells x.cells.toArray 67)).alloc (.cells y.cells.toArray 67)):=(Ext.refl _).alloc _;obtain⟨xn,xt,xd,xk,xf,xe,xA,xN,xC⟩:=x;obtain⟨yn,yt,yd,yk,yf,ye,yA,yN,yC⟩:=y;simp only[bM.cells]at hbx hby hx2 hx1⊢;dsimp only at hc1 hc2 hlt;generalize Lib.compareInt xd yd=ca at hc1 hlt;generalize Lib.compareInt xn yn=cb at hc2 hlt;obtain⟨w2,hw2⟩:=aH ((w.alloc (.cells #[.int .i64 xn,.string xt,.int .i64 xd,.int .i64 xk,.int .i64 xf,.string xe,.slice xA xN xC] 67)).alloc (.cells #[.int .i64 yn,.string yt,.int .i64 yd,.int .i64 yk,.int .i64 yf,.string ye,.slice yA yN yC] 67));rw[hw2]at hby hx2 hx1;have zF:=ah hw2;have Hx:=ah (show∀wq,Ext w2 wq->(aK [.int .i64 xn,.string xt,.int .i64 xd,.int .i64 xk,.int .i64 xf,.string xe,.slice xA xN xC]).p (.pointer (some ⟨w.heap.size,0,none⟩)) wq from fun wq he=>⟨w.heap.size,0,rfl,(hbx wq (hx1.trans he)).lt (by simp),hbx wq (hx1.trans he)⟩);have Hy:=ah (show∀wq,Ext w2 wq->(aK [.int .i64 yn,.string yt,.int .i64 yd,.int .i64 yk,.int .i64 yf,.string ye,.slice yA yN yC]).p (.pointer (some ⟨w.heap.size+1,0,none⟩)) wq from fun wq he=>⟨w.heap.size+1,0,rfl,(hby wq he).lt (by simp),hby wq he⟩);have HC1:=ah hc1;have HC2:=ah hc2;clear hc1 hc2 hbx hby hw2;go_enter func34,ntmps34
 go_upto_region 1 with fail
 rw[zF.out];refine iw (by kernel_rfl) (fun i=>match i with|0=>aK [.int .i64 xd]|1=>Ty.is (.int .i64 xd)|2=>aK [.int .i64 yd]|3=>Ty.is (.int .i64 yd)|4=>Ty.is (.int .i64 ca)|5=>aK [.int .i64 xn]|6=>Ty.is (.int .i64 xn)|7=>aK [.int .i64 yn]|8=>Ty.is (.int .i64 yn)|9=>Ty.is (.int .i64 cb)|10=>sJ fD w2.heap.size [ca,cb]|11=>Ty.is (.int .i64 (SA ca cb))|12=>Ty.is (.int .i64 (SA ca cb))|_=>Ty.any) (by kernel_rfl) rfl ?_;intro v;refine⟨?_,?_,?_,?_,?_,?_,?_,?_,?_,?_,?_,?_,?_,?_⟩
 ·exact fun wq hq _=>ak rfl (dB 67 2 (.tmp 2) rfl _ underlying67 _ rfl 1 sizeOf3 (by decide) [.int .i64 xn,.string xt,.int .i64 xd,.int .i64 xk,.int .i64 xf,.string xe,.slice xA xN xC] ((Hx.out _ hq)))
 ·rintro wq hq ⟨h0,-⟩;exact ak rfl (bW 3 (.tmp 5) rfl isAgg3 (c:=.int .i64 xd) h0 rfl)
 ·exact fun wq hq _=>ak rfl (dB 67 2 (.tmp 3) rfl _ underlying67 _ rfl 1 sizeOf3 (by decide) [.int .i64 yn,.string yt,.int .i64 yd,.int .i64 yk,.int .i64 yf,.string ye,.slice yA yN yC] ((Hy.out _ hq)))
 ·rintro wq hq ⟨h0,-⟩;exact ak rfl (bW 3 (.tmp 7) rfl isAgg3 (c:=.int .i64 yd) h0 rfl)
 ·rintro wq hq ⟨h0,h1,-⟩
  change v 1=_ at h0;change v 3=_ at h1;refine ak rfl ?_;refine fC 36 call36 _ _ rfl rfl [_,_] ⟨h0,h1,trivial⟩ ?_;refine(HC1.out _).mono ?_;rintro e w' ⟨rfl,rfl⟩;exact⟨_,rfl,Ext.refl _,rfl⟩
 ·exact fun wq hq _=>ak rfl (dB 67 0 (.tmp 2) rfl _ underlying67 _ rfl 1 sizeOf3 (by decide) [.int .i64 xn,.string xt,.int .i64 xd,.int .i64 xk,.int .i64 xf,.string xe,.slice xA xN xC] ((Hx.out _ hq)))
 ·rintro wq hq ⟨h0,-⟩;exact ak rfl (bW 3 (.tmp 10) rfl isAgg3 (c:=.int .i64 xn) h0 rfl)
 ·exact fun wq hq _=>ak rfl (dB 67 0 (.tmp 3) rfl _ underlying67 _ rfl 1 sizeOf3 (by decide) [.int .i64 yn,.string yt,.int .i64 yd,.int .i64 yk,.int .i64 yf,.string ye,.slice yA yN yC] ((Hy.out _ hq)))
 ·rintro wq hq ⟨h0,-⟩;exact ak rfl (bW 3 (.tmp 12) rfl isAgg3 (c:=.int .i64 yn) h0 rfl)
 ·rintro wq hq ⟨h0,h1,h2,-⟩
  change v 6=_ at h0;change v 8=_ at h1;refine ak rfl ?_;refine fC 36 call36 _ _ rfl rfl [_,_] ⟨h0,h1,trivial⟩ ?_;refine(HC2.out _).mono ?_;rintro e w' ⟨rfl,rfl⟩;exact⟨_,rfl,Ext.refl _,rfl⟩
 ·rintro wq hq ⟨h0,h1,-⟩
  change v 4=_ at h0;change v 9=_ at h1;refine ak rfl ?_;exact Nw fD 2 [(0,_),(1,_)] rfl [(0,.int .i64 ca),(1,.int .i64 cb)] ⟨⟨rfl,h0⟩,⟨rfl,h1⟩,trivial⟩ _ hq.size _ rfl (by decide) (fun w=>by change (Instr.buildSlice 103 2 _).run _ w=_;go_simp;rfl)
 ·rintro wq hq ⟨h0,h1,-⟩
  change (sJ fD w2.heap.size [ca,cb]).p (v 10) wq at h0;refine ak rfl ?_;obtain⟨AA,cc,hv,-,hsl⟩:=Own.form (show Own fD w2.heap.size wq (v 10) [ca,cb]from h0);replace hv:v 10=.slice AA 2 cc:=hv;refine fC 35 call35 _ _ rfl rfl [_] ⟨hv,trivial⟩ ?_;refine(aaU AA cc ca cb _ hsl).mono ?_;rintro e w' ⟨rfl,rfl⟩;exact⟨_,rfl,Ext.refl _,rfl⟩
 ·rintro wq hq ⟨h0,h1,h2,h3,h4,h5,h6,h7,h8,h9,h10,h11,h12,CB,-⟩;exact ak rfl (jY (.tmp 16) rfl h0 rfl)
 ·intro wq hq hT
  have k12:=hT 12 (by decide);change v 12=_ at k12;clear hT;simp only[List.drop_succ_cons,List.drop_zero,gH,dK,List.set_cons_succ,List.set_cons_zero,Nat.reduceAdd];rw[k12];go_wp2;go_ret;exact⟨_,rfl,hlt,hx2.trans hq⟩
end Go.Proofs.YtgboomjahhnldaaGreatDoor
