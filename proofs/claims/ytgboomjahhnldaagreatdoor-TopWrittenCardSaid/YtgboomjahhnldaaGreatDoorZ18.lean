/- A part of the proof of TopWritten, printed small: SymAAc SymBAc. -/
import Derived.Test.YtgboomjahhnldaaGreatDoorZ17
set_option maxRecDepth 100000
set_option maxHeartbeats 25600000
set_option linter.all false
namespace Go.Proofs.YtgboomjahhnldaaGreatDoor.Ac
open Go.Proofs.Tryz
open Go.RowKit
section
variable {g:Nat} {lt:(bM×bn)->(bM×bn)->Bool} {S:(bM×bn)->Prop} {J:World->Prop} {fv:Value}
def QD(g cap n:Nat)(A R D:List (bM×bn))(x:bM×bn)(t:Nat)(w:World):Prop:=Rw g cap n w (A++R.take t++x::(R.drop t++D))
theorem ahV(C:EF g lt S J fv)(hw:Wk lt)(cap n a m b:Nat)(A R D:List (bM×bn))(X:bM×bn)(w:World)(hn:n<=1048576)(ha:a=A.length)(hm:m=A.length+1)(hb:b=A.length+1+R.length)(hR:fA lt R)(hS:∀y∈R,S y)(sX:S X)(hJ:J w)(hrow:Rw g cap n w (A++X::(R++D))):
 Calls prog 57 #[.slice (some ⟨g,0,none⟩) n cap,.int .i64 (a:Nat),.int .i64 (m:Nat),.int .i64 (b:Nat),fv] w fun e w'=>e=.returned (.tuple #[])/\Kp g w w'/\∃M,fA lt M/\SO lt ([X]++R) M/\Rw g cap n w' (A++M++D):=by
 have d1:((m:Int)-(a:Int)==1)=true:=by simp;omega
 have hbn:b<=n:=by have:=hrow.len;simp at this;omega
 have qP:a+1=m:=by omega
 have hmb:m<=b:=by omega
 obtain⟨xs,hxs⟩:=aH (A++X::(R++D));have hxl:xs.length=n:=by rw[<-hxs];exact hrow.len
 have e1:xs=(A++[X])++R++D:=by rw[<-hxs];simp
 have hSI:SI lt xs m b:=by
  have:=SI.of (A:=A++[X]) (R:=D) hR;rw[<-e1]at this;simp only[eu,iX,List.length_nil,bV]at this;rw[hm,hb];exact this
 have hX0:xs[a]? =some X:=by rw[<-hxs,ha,nJ (aI _),Nat.sub_self];rfl
 have HSR:=ah (show∀k,m<=k->k<b->∃y,xs[k]? =some y/\S y from fun k h1 h2=>by
  have:=yQ (A++[X]) R D (k-(A.length+1)) (by omega);rw[<-e1,show(A++[X]).length+(k-(A.length+1))=k from by simp;omega]at this;exact⟨_,this,hS _ (dW _)⟩)
 have rH:=ah (adi hw hSI (by omega) X)
 have o7:=ah (show∀i,Bs (fun k=>Bv (fun y=>lt y X) xs[k]?) m b i i->fA lt (R.take (i-m)++X::R.drop (i-m))/\SO lt ([X]++R) (R.take (i-m)++X::R.drop (i-m))from fun i hi=>by
  have lo:=Jb (A:=A++[X]) (L:=R) (R:=D) (lo:=m) (hi:=i) (b:=true) (f:=fun y=>lt y X) (by simp;omega) (by have:=hi.h3;simp;omega) (fun k h1 h2=>by rw[<-e1];exact hi.low k h1 h2);have hi':=Jb (A:=A++[X]) (L:=R) (R:=D) (lo:=i) (hi:=b) (b:=false) (f:=fun y=>lt y X) (by have:=hi.h1;simp;omega) (by simp;omega) (fun k h1 h2=>by rw[<-e1];exact hi.high k h1 h2);have e2:(A++[X]).length=m:=by simp;omega
  rw[e2,Nat.sub_self,List.drop_zero]at lo;rw[e2,gY (by omega)]at hi';have:=ZH hw (R1:=R.take (i-m)) (R2:=R.drop (i-m)) (x:=X) (by rw[jl];exact hR) lo hi'
  rwa[jl]at this)
 have hrow':Rw g cap n w xs:=by rw[<-hxs];exact hrow
 have HA:=ah ha;have HR:=ah (show R.length=b-m by omega);have Hxs:=ah hxs;replace C:=ah C;have HJ:=ah hJ;clear hw hR hS hJ hrow ha hm hb hSI e1 hxs hxl;go_enter func57,ntmps57
 go_wp2
 go_loopw [10,11] (fun vi vj wr=>∃i j:Nat,m<=i/\i<=j/\j<=b/\vi=.int .i64 (i:Nat)/\vj=.int .i64 (j:Nat)/\Ext w wr/\Hid (Bs (fun k=>Bv (fun y=>lt y X) xs[k]?) m b i j)) (fun vi vj _=>(intOf vj).toNat-(intOf vi).toNat)
 case atStart=>exact⟨m,b,aI _,hmb,aI _,rfl,rfl,Ext.refl _,ah (Bs.start hmb)⟩
 case round=>
  obtain⟨i,j,Ma,hij,hjb,rfl,rfl,jf,hbs⟩:=hrel;by_cases hlt:i<j
  ·have d2:=eY i j
   obtain⟨h,hh⟩:∃h,h=(i+j)/2:=⟨_,rfl⟩;have eh:((i:Int)+(j:Int))/2=((h:Nat):Int):=by omega
   have hh1:i<=h:=by omega
   have V4:h<j:=by omega
   obtain⟨Y,hY,sY⟩:=HSR.out h (by omega) (by omega);have hX:=hX0;have hrw:=hrow'.ext jf;have HP:∀b,lt Y X=b->Bv (fun y=>lt y X) xs[h]? =b:=fun b hb=>by rw[hY];exact hb
   clear hh;obtain⟨bb,r9⟩:=aH (lt Y X);have Hp:=ah (HP _ r9);have hbb:=ah r9;have Ai:=ah (C.out.keep _ _ HJ.out (Kp.dH jf));clear r9 HP;cases bb
   case true=>
    go_wp2_with fail
    refine iw (by kernel_rfl) (fun i=>match i with|0=>Ty.is (fv)|1=>Ty.is (.slice (some ⟨g,0,none⟩) n cap)|2=>Ty.is (.int .i64 ((h:Nat):Int))|3=>aK (bD.E Y)|4=>Ty.is (.agg (bD.E Y).toArray)|5=>Ty.is (.slice (some ⟨g,0,none⟩) n cap)|6=>Ty.is (.int .i64 (a:Nat))|7=>aK (bD.E X)|8=>Ty.is (.agg (bD.E X).toArray)|9=>CU true|10=>Ty.is (.bool true)|_=>Ty.any) (by kernel_rfl) rfl ?_;intro v;refine⟨?_,?_,?_,?_,?_,?_,?_,?_,?_,?_,?_,?_⟩
    ·exact fun wq hq _=>ak rfl (aF (.tmp 4) rfl rfl rfl)
    ·exact fun wq hq _=>ak rfl (aF (.tmp 0) rfl rfl rfl)
    ·exact fun wq hq _=>ak rfl (aF (.tmp 12) rfl rfl rfl)
    ·rintro wq hq ⟨h0,h1,-⟩;exact ak rfl (iU (.tmp 41) (.tmp 42) rfl h0 (h) h1 (hrw.ext hq) hY)
    ·rintro wq hq ⟨h0,-⟩;exact ak rfl (jC (.tmp 43) rfl h0)
    ·exact fun wq hq _=>ak rfl (aF (.tmp 0) rfl rfl rfl)
    ·exact fun wq hq _=>ak rfl (aF (.tmp 1) rfl rfl rfl)
    ·rintro wq hq ⟨h0,h1,-⟩;exact ak rfl (iU (.tmp 45) (.tmp 46) rfl h0 (a) h1 (hrw.ext hq) hX)
    ·rintro wq hq ⟨h0,-⟩;exact ak rfl (jC (.tmp 47) rfl h0)
    ·rintro wq hq ⟨h0,h1,h2,-⟩;exact ak rfl (hbb.out▸wU C.out (.tmp 40) (.tmp 44) (.tmp 48) _ rfl h0 h1 h2 sY sX (C.out.keep _ _ Ai.out (Kp.dH hq)))
    ·rintro wq hq ⟨h0,-⟩;exact ak rfl (wV _ _ (.tmp 49) _ rfl _ h0 rfl)
    ·intro wq hq hT
     have k10:=hT 10 (by decide);change v 10=_ at k10;clear hT;simp only[List.drop_succ_cons,List.drop_zero,gH,dK,List.set_cons_succ,List.set_cons_zero,Nat.reduceAdd];rw[k10];have vS:=ah (hbs.out.up rH.out (by omega) (by omega) Hp.out);have vT:=jf.trans hq;clear hY hX hrw hbs jf Hp;go_wp2;go_roundw
     case rel=>exact⟨h+1,j,by omega,by omega,by omega,by go_num,by go_num,vT,vS⟩
     case measure=>simp[intOf];omega
   case false=>
    go_wp2_with fail
    refine iw (by kernel_rfl) (fun i=>match i with|0=>Ty.is (fv)|1=>Ty.is (.slice (some ⟨g,0,none⟩) n cap)|2=>Ty.is (.int .i64 ((h:Nat):Int))|3=>aK (bD.E Y)|4=>Ty.is (.agg (bD.E Y).toArray)|5=>Ty.is (.slice (some ⟨g,0,none⟩) n cap)|6=>Ty.is (.int .i64 (a:Nat))|7=>aK (bD.E X)|8=>Ty.is (.agg (bD.E X).toArray)|9=>CU false|10=>Ty.is (.bool false)|_=>Ty.any) (by kernel_rfl) rfl ?_;intro v;refine⟨?_,?_,?_,?_,?_,?_,?_,?_,?_,?_,?_,?_⟩
    ·exact fun wq hq _=>ak rfl (aF (.tmp 4) rfl rfl rfl)
    ·exact fun wq hq _=>ak rfl (aF (.tmp 0) rfl rfl rfl)
    ·exact fun wq hq _=>ak rfl (aF (.tmp 12) rfl rfl rfl)
    ·rintro wq hq ⟨h0,h1,-⟩;exact ak rfl (iU (.tmp 41) (.tmp 42) rfl h0 (h) h1 (hrw.ext hq) hY)
    ·rintro wq hq ⟨h0,-⟩;exact ak rfl (jC (.tmp 43) rfl h0)
    ·exact fun wq hq _=>ak rfl (aF (.tmp 0) rfl rfl rfl)
    ·exact fun wq hq _=>ak rfl (aF (.tmp 1) rfl rfl rfl)
    ·rintro wq hq ⟨h0,h1,-⟩;exact ak rfl (iU (.tmp 45) (.tmp 46) rfl h0 (a) h1 (hrw.ext hq) hX)
    ·rintro wq hq ⟨h0,-⟩;exact ak rfl (jC (.tmp 47) rfl h0)
    ·rintro wq hq ⟨h0,h1,h2,-⟩;exact ak rfl (hbb.out▸wU C.out (.tmp 40) (.tmp 44) (.tmp 48) _ rfl h0 h1 h2 sY sX (C.out.keep _ _ Ai.out (Kp.dH hq)))
    ·rintro wq hq ⟨h0,-⟩;exact ak rfl (wV _ _ (.tmp 49) _ rfl _ h0 rfl)
    ·intro wq hq hT
     have k10:=hT 10 (by decide);change v 10=_ at k10;clear hT;simp only[List.drop_succ_cons,List.drop_zero,gH,dK,List.set_cons_succ,List.set_cons_zero,Nat.reduceAdd];rw[k10];have vS:=ah (hbs.out.down rH.out (by omega) (by omega) Hp.out);have vT:=jf.trans hq;clear hY hX hrw hbs jf Hp;go_wp2;go_roundw
     case rel=>exact⟨i,h,by omega,by omega,by omega,by go_num,by go_num,vT,vS⟩
     case measure=>simp[intOf];omega
  ·obtain rfl:i=j:=by omega
   have d2:=fT i i;obtain⟨q1,q2⟩:=o7.out i hbs.out;have Q:=ah (And.intro q1 q2)
   have hs0:QD g cap n A R D X 0 wr:=by
    unfold QD;rw[List.take_zero,List.drop_zero,kY,Hxs.out];exact hrow'.ext jf
   have EG:=Kp.dH (g:=g) jf;clear hbs q1 q2 jf hrow' o7 rH HSR HJ hX0;go_wp2
   go_loopw [13] (fun vk wr=>∃t:Nat,t<=i-m/\a+t<n/\a+t<=i-1/\vk=.int .i64 ((a+t:Nat):Int)/\Kp g w wr/\QD g cap n A R D X t wr) (fun vk _=>n-(intOf vk).toNat)
   case atStart=>exact⟨0,bI _,by omega,by omega,by go_num,EG,hs0⟩
   case round=>
    clear hs0 EG;obtain⟨t,ht,avQ,avR,rfl,hkp,hst⟩:=hrel;by_cases hlt2:a+t+1<i
    ·have d3:decide (((a+t:Nat):Int)<(i:Int)-1)=true:=bJ (by omega)
     have Sw:t<R.length:=by have:=HR.out;omega
     obtain⟨k,hk⟩:=aH (a+t);have hka:k=(A++R.take t).length:=by have:=HA.out;simp;omega
     obtain⟨xk,hxk⟩:=aH (A++R.take t++X::(R.drop t++D));have G7:xk=(A++R.take t)++X::R[t]::(R.drop (t+1)++D):=by rw[<-hxk,iW Sw];simp only[jE]
     have hrw:Rw g cap n wr xk:=by rw[<-hxk];exact hst
     obtain⟨Z,Sy⟩:=aH (R[t]);rw[Sy]at G7;have hX:xk[k]? =some X:=by rw[G7,hka,nJ (aI _),Nat.sub_self];rfl
     have hZ:xk[k+1]? =some Z:=by rw[G7,hka,nJ (by omega),Nat.add_sub_cancel_left];rfl
     have KD:=ah (show(xk.set k Z).set (k+1) X=A++R.take (t+1)++X::(R.drop (t+1)++D) by
      rw[G7,hka,Kj,jk Sw,Sy];simp only[dV,jE,jW])
     have EH:=ah (show∀W,Rw g cap n W (A++R.take (t+1)++X::(R.drop (t+1)++D))->QD g cap n A R D X (t+1) W from fun W hW=>hW);have Hk:=ah hk;have hkn:k+1<n:=by omega
     rw[hk]at d3⊢;clear hst hxk G7 hka Sy hk Sw;go_wp2_with fail
     refine oO 16 15 [0,1,5,6,7,8,9,10,11,12,13,14] (fun i=>match i with|0=>.slice (some ⟨g,0,none⟩) n cap|1=>.int .i64 ((k:Nat):Int)|2=>.slice (some ⟨g,0,none⟩) n cap|3=>.int .i64 ((k:Nat):Int)|4=>.int .i64 ((k+1:Nat):Int)|5=>.slice (some ⟨g,0,none⟩) n cap|6=>.int .i64 ((k:Nat):Int)|7=>.int .i64 ((k+1:Nat):Int)|8=>.pointer (some ⟨g,(k+1)*7,none⟩)|9=>.agg (bD.E Z).toArray|10=>.slice (some ⟨g,0,none⟩) n cap|11=>.int .i64 ((k:Nat):Int)|12=>.pointer (some ⟨g,(k)*7,none⟩)|13=>.agg (bD.E X).toArray|14=>.pointer (some ⟨g,(k)*7,none⟩)|15=>undef|_=>undef) (by kernel_rfl) (by kernel_rfl) (by kernel_rfl) (by kernel_rfl) (by decide) (by decide) rfl ?_;intro W hW;obtain⟨W1,hk1,ho1,hs1⟩:=(hrw.ext hW).store (k) (by omega) Z;refine⟨W1,bY (by decide) (fun _=>dS (.tmp 0) rfl rfl),bY (by decide) (fun _=>dS (.tmp 13) rfl rfl),bY (by decide) (fun _=>dS (.tmp 0) rfl rfl),bY (by decide) (fun _=>dS (.tmp 13) rfl rfl),bY (by decide) (fun _=>qC .add _ _ (.tmp 64) _ rfl _ _ rfl rfl (Bh _ _ _ _ (by omega) (by omega) (by omega))),bY (by decide) (fun _=>dS (.tmp 0) rfl rfl),bY (by decide) (fun _=>dS (.tmp 13) rfl rfl),bY (by decide) (fun _=>qC .add _ _ (.tmp 67) _ rfl _ _ rfl rfl (Bh _ _ _ _ (by omega) (by omega) (by omega))),bY (by decide) (fun _=>(jB bD (.tmp 66) (.tmp 68) rfl n rfl (k+1) rfl (by omega))),oD (by decide) (by decide) (qY bD rfl (.tmp 69) rfl (k+1) rfl ((hrw.ext hW).o) _ (hZ)),bY (by decide) (fun _=>dS (.tmp 0) rfl rfl),?_⟩;refine⟨bY (by decide) (fun _=>dS (.tmp 13) rfl rfl),bY (by decide) (fun _=>(jB bD (.tmp 71) (.tmp 72) rfl n rfl (k) rfl (by omega))),oD (by decide) (by decide) (qY bD rfl (.tmp 73) rfl (k) rfl ((hrw.ext hW).o) _ (hX)),bY (by decide) (fun _=>(jB bD (.tmp 61) (.tmp 62) rfl n rfl (k) rfl (by omega))),wu rfl (hs1 _ _ (.tmp 75) (.tmp 70) rfl rfl rfl),?_⟩;refine lJ.nil ?_;simp only[List.drop_succ_cons,List.drop_zero,gH,dK,List.set_cons_succ,List.set_cons_zero,Nat.reduceAdd];refine jG rfl (jB bD (.tmp 63) (.tmp 65) rfl n rfl (k+1) rfl (by omega)) ?_;obtain⟨W2,hk2,ho2,hs2⟩:=ho1.store (k+1) (by omega) X;refine jG rfl (hs2 _ _ (.tmp 76) (.tmp 74) rfl rfl rfl) ?_;have hrw2:Rw g cap n W2 ((xk.set k Z).set (k+1) X):=ho2;rw[KD.out]at hrw2;have xW:Kp g w W2:=hkp.trans ((Kp.dH hW).trans (hk1.trans hk2));have lT:=EH.out W2 hrw2;clear hs1 hs2 hk1 hk2 ho1 ho2 hX hZ hrw hkp KD EH hrw2;go_wp2;go_roundw
     case rel=>have hk:=Hk.out;exact⟨t+1,by omega,by omega,by omega,by go_num,xW,lT⟩
     case measure=>have hk:=Hk.out;simp[intOf];omega
    ·have d3:decide (((a+t:Nat):Int)<(i:Int)-1)=false:=aY (by omega)
     have hti:t=i-m:=by omega
     rw[hti]at hst
     have Ya:Rw g cap n wr (A++(R.take (i-m)++X::R.drop (i-m))++D):=by
      have hst':Rw g cap n wr _:=hst;simpa only[dV,jE]using hst'
     clear hst hti;go_wp2
     (try simp only[Exit.inBlock,Exit.then])
     refine bodyPost_ret (results_none rfl _ _ _) rfl ?_;exact⟨rfl,hkp,_,Q.out.1,Q.out.2,Ya⟩
end
end Go.Proofs.YtgboomjahhnldaaGreatDoor.Ac
namespace Go.Proofs.YtgboomjahhnldaaGreatDoor.Ac
open Go.Proofs.Tryz
open Go.RowKit
section
variable {g:Nat} {lt:(bM×bn)->(bM×bn)->Bool} {S:(bM×bn)->Prop} {J:World->Prop} {fv:Value}
def QE(g cap n:Nat)(A L D:List (bM×bn))(y:bM×bn)(t:Nat)(w:World):Prop:=Rw g cap n w (A++L.take t++y::(L.drop t++D))
theorem ahW(C:EF g lt S J fv)(hw:Wk lt)(cap n a m b:Nat)(A L D:List (bM×bn))(Y:bM×bn)(w:World)(hn:n<=1048576)(ha:a=A.length)(hm:m=A.length+L.length)(hb:b=A.length+L.length+1)(h1:1<L.length)(hL:fA lt L)(hS:∀y∈L,S y)(sY:S Y)(hJ:J w)(hrow:Rw g cap n w (A++L++Y::D)):
 Calls prog 57 #[.slice (some ⟨g,0,none⟩) n cap,.int .i64 (a:Nat),.int .i64 (m:Nat),.int .i64 (b:Nat),fv] w fun e w'=>e=.returned (.tuple #[])/\Kp g w w'/\∃M,fA lt M/\SO lt (L++[Y]) M/\Rw g cap n w' (A++M++D):=by
 have d0:((m:Int)-(a:Int)==1)=false:=by simp;omega
 have d1:((b:Int)-(m:Int)==1)=true:=by simp;omega
 have hbn:b<=n:=by have:=hrow.len;simp at this;omega
 have qP:a<m:=by omega
 have hmb:m<b:=by omega
 obtain⟨xs,hxs⟩:=aH (A++L++Y::D);have hxl:xs.length=n:=by rw[<-hxs];exact hrow.len
 have hSI:SI lt xs a m:=by
  have:=SI.of (A:=A) (R:=Y::D) hL;rw[hxs]at this;rw[ha,hm];exact this
 have hY0:xs[m]? =some Y:=by rw[<-hxs,hm,<-eu,nJ (aI _),Nat.sub_self];rfl
 have HSR:=ah (show∀k,a<=k->k<m->∃y,xs[k]? =some y/\S y from fun k h1 h2=>by
  have:=yQ A L (Y::D) (k-A.length) (by omega);rw[hxs,show A.length+(k-A.length)=k from by omega]at this;exact⟨_,this,hS _ (dW _)⟩)
 have rH:=ah (adj hw hSI (by omega) Y)
 have o7:=ah (show∀i,Bs (fun k=>Bv (fun z=> !lt Y z) xs[k]?) a m i i->fA lt (L.take (i-a)++Y::L.drop (i-a))/\SO lt (L++[Y]) (L.take (i-a)++Y::L.drop (i-a))from fun i hi=>by
  have lo:=Jb (A:=A) (L:=L) (R:=Y::D) (lo:=a) (hi:=i) (b:=true) (f:=fun z=> !lt Y z) (by omega) (by have:=hi.h3;omega) (fun k h1 h2=>by rw[hxs];exact hi.low k h1 h2);have hi':=Jb (A:=A) (L:=L) (R:=Y::D) (lo:=i) (hi:=m) (b:=false) (f:=fun z=> !lt Y z) (by have:=hi.h1;omega) (by omega) (fun k h1 h2=>by rw[hxs];exact hi.high k h1 h2);rw[<-ha,Nat.sub_self,List.drop_zero]at lo;rw[<-ha,gY (by omega)]at hi';have:=Ki hw (B1:=L.take (i-a)) (B2:=L.drop (i-a)) (x:=Y) (by rw[jl];exact hL) (fun y hy=>by simpa using lo y hy) (fun y hy=>by simpa using hi' y hy)
  rwa[jl]at this)
 have hrow':Rw g cap n w xs:=by rw[<-hxs];exact hrow
 have HA:=ah ha;have HR:=ah (show L.length=m-a by omega);have Hxs:=ah hxs;replace C:=ah C;have HJ:=ah hJ;clear hw hL hS hJ hrow ha hm hb hSI hxs hxl h1;go_enter func57,ntmps57
 go_wp2
 go_loopw [14,15] (fun vi vj wr=>∃i j:Nat,a<=i/\i<=j/\j<=m/\vi=.int .i64 (i:Nat)/\vj=.int .i64 (j:Nat)/\Ext w wr/\Hid (Bs (fun k=>Bv (fun z=> !lt Y z) xs[k]?) a m i j)) (fun vi vj _=>(intOf vj).toNat-(intOf vi).toNat)
 case atStart=>exact⟨a,m,aI _,by omega,aI _,rfl,rfl,Ext.refl _,ah (Bs.start (by omega))⟩
 case round=>
  obtain⟨i,j,Ma,hij,hjb,rfl,rfl,jf,hbs⟩:=hrel;by_cases hlt:i<j
  ·have d2:=eY i j
   obtain⟨h,hh⟩:∃h,h=(i+j)/2:=⟨_,rfl⟩;have eh:((i:Int)+(j:Int))/2=((h:Nat):Int):=by omega
   have hh1:i<=h:=by omega
   have V4:h<j:=by omega
   obtain⟨X,hX,sX⟩:=HSR.out h (by omega) (by omega);have hY:=hY0;have hrw:=hrow'.ext jf;have HP:∀b,lt Y X=b->Bv (fun z=> !lt Y z) xs[h]? = !b:=fun b hb=>by rw[hX];simp only[Bv,hb]
   clear hh;obtain⟨bb,r9⟩:=aH (lt Y X);have Hp:=ah (HP _ r9);have hbb:=ah r9;have Ai:=ah (C.out.keep _ _ HJ.out (Kp.dH jf));clear r9 HP;cases bb
   case true=>
    go_wp2_with fail
    refine iw (by kernel_rfl) (fun i=>match i with|0=>Ty.is (fv)|1=>Ty.is (.slice (some ⟨g,0,none⟩) n cap)|2=>Ty.is (.int .i64 (m:Nat))|3=>aK (bD.E Y)|4=>Ty.is (.agg (bD.E Y).toArray)|5=>Ty.is (.slice (some ⟨g,0,none⟩) n cap)|6=>Ty.is (.int .i64 ((h:Nat):Int))|7=>aK (bD.E X)|8=>Ty.is (.agg (bD.E X).toArray)|9=>CU true|10=>Ty.is (.bool true)|11=>Ty.is (.bool false)|_=>Ty.any) (by kernel_rfl) rfl ?_;intro v;refine⟨?_,?_,?_,?_,?_,?_,?_,?_,?_,?_,?_,?_,?_⟩
    ·exact fun wq hq _=>ak rfl (aF (.tmp 4) rfl rfl rfl)
    ·exact fun wq hq _=>ak rfl (aF (.tmp 0) rfl rfl rfl)
    ·exact fun wq hq _=>ak rfl (aF (.tmp 2) rfl rfl rfl)
    ·rintro wq hq ⟨h0,h1,-⟩;exact ak rfl (iU (.tmp 93) (.tmp 94) rfl h0 (m) h1 (hrw.ext hq) hY)
    ·rintro wq hq ⟨h0,-⟩;exact ak rfl (jC (.tmp 95) rfl h0)
    ·exact fun wq hq _=>ak rfl (aF (.tmp 0) rfl rfl rfl)
    ·exact fun wq hq _=>ak rfl (aF (.tmp 16) rfl rfl rfl)
    ·rintro wq hq ⟨h0,h1,-⟩;exact ak rfl (iU (.tmp 97) (.tmp 98) rfl h0 (h) h1 (hrw.ext hq) hX)
    ·rintro wq hq ⟨h0,-⟩;exact ak rfl (jC (.tmp 99) rfl h0)
    ·rintro wq hq ⟨h0,h1,h2,-⟩;exact ak rfl (hbb.out▸wU C.out (.tmp 92) (.tmp 96) (.tmp 100) _ rfl h0 h1 h2 sY sX (C.out.keep _ _ Ai.out (Kp.dH hq)))
    ·rintro wq hq ⟨h0,-⟩;exact ak rfl (wV _ _ (.tmp 101) _ rfl _ h0 rfl)
    ·rintro wq hq ⟨h0,-⟩;exact ak rfl (I6 (.tmp 102) 4 rfl _ h0 rfl)
    ·intro wq hq hT
     have k11:=hT 11 (by decide);change v 11=_ at k11;clear hT;simp only[List.drop_succ_cons,List.drop_zero,gH,dK,List.set_cons_succ,List.set_cons_zero,Nat.reduceAdd];rw[k11];have vS:=ah (hbs.out.down rH.out (by omega) (by omega) Hp.out);have vT:=jf.trans hq;clear hY hX hrw hbs jf Hp;go_wp2;go_roundw
     case rel=>exact⟨i,h,by omega,by omega,by omega,by go_num,by go_num,vT,vS⟩
     case measure=>simp[intOf];omega
   case false=>
    go_wp2_with fail
    refine iw (by kernel_rfl) (fun i=>match i with|0=>Ty.is (fv)|1=>Ty.is (.slice (some ⟨g,0,none⟩) n cap)|2=>Ty.is (.int .i64 (m:Nat))|3=>aK (bD.E Y)|4=>Ty.is (.agg (bD.E Y).toArray)|5=>Ty.is (.slice (some ⟨g,0,none⟩) n cap)|6=>Ty.is (.int .i64 ((h:Nat):Int))|7=>aK (bD.E X)|8=>Ty.is (.agg (bD.E X).toArray)|9=>CU false|10=>Ty.is (.bool false)|11=>Ty.is (.bool true)|_=>Ty.any) (by kernel_rfl) rfl ?_;intro v;refine⟨?_,?_,?_,?_,?_,?_,?_,?_,?_,?_,?_,?_,?_⟩
    ·exact fun wq hq _=>ak rfl (aF (.tmp 4) rfl rfl rfl)
    ·exact fun wq hq _=>ak rfl (aF (.tmp 0) rfl rfl rfl)
    ·exact fun wq hq _=>ak rfl (aF (.tmp 2) rfl rfl rfl)
    ·rintro wq hq ⟨h0,h1,-⟩;exact ak rfl (iU (.tmp 93) (.tmp 94) rfl h0 (m) h1 (hrw.ext hq) hY)
    ·rintro wq hq ⟨h0,-⟩;exact ak rfl (jC (.tmp 95) rfl h0)
    ·exact fun wq hq _=>ak rfl (aF (.tmp 0) rfl rfl rfl)
    ·exact fun wq hq _=>ak rfl (aF (.tmp 16) rfl rfl rfl)
    ·rintro wq hq ⟨h0,h1,-⟩;exact ak rfl (iU (.tmp 97) (.tmp 98) rfl h0 (h) h1 (hrw.ext hq) hX)
    ·rintro wq hq ⟨h0,-⟩;exact ak rfl (jC (.tmp 99) rfl h0)
    ·rintro wq hq ⟨h0,h1,h2,-⟩;exact ak rfl (hbb.out▸wU C.out (.tmp 92) (.tmp 96) (.tmp 100) _ rfl h0 h1 h2 sY sX (C.out.keep _ _ Ai.out (Kp.dH hq)))
    ·rintro wq hq ⟨h0,-⟩;exact ak rfl (wV _ _ (.tmp 101) _ rfl _ h0 rfl)
    ·rintro wq hq ⟨h0,-⟩;exact ak rfl (I6 (.tmp 102) 4 rfl _ h0 rfl)
    ·intro wq hq hT
     have k11:=hT 11 (by decide);change v 11=_ at k11;clear hT;simp only[List.drop_succ_cons,List.drop_zero,gH,dK,List.set_cons_succ,List.set_cons_zero,Nat.reduceAdd];rw[k11];have vS:=ah (hbs.out.up rH.out (by omega) (by omega) Hp.out);have vT:=jf.trans hq;clear hY hX hrw hbs jf Hp;go_wp2;go_roundw
     case rel=>exact⟨h+1,j,by omega,by omega,by omega,by go_num,by go_num,vT,vS⟩
     case measure=>simp[intOf];omega
  ·obtain rfl:i=j:=by omega
   have d2:=fT i i;obtain⟨q1,q2⟩:=o7.out i hbs.out;have Q:=ah (And.intro q1 q2)
   have hs0:QE g cap n A L D Y (m-a) wr:=by
    unfold QE;rw[gY (by have:=HR.out;omega),List.drop_of_length_le (by have:=HR.out;omega),jW,Hxs.out];exact hrow'.ext jf
   have EG:=Kp.dH (g:=g) jf;clear hbs q1 q2 jf hrow' o7 rH HSR HJ hY0;go_wp2
   go_loopw [17] (fun vk wr=>∃t:Nat,i-a<=t/\t<=m-a/\vk=.int .i64 ((a+t:Nat):Int)/\Kp g w wr/\QE g cap n A L D Y t wr) (fun vk _=>(intOf vk).toNat)
   case atStart=>exact⟨m-a,by omega,by omega,by go_num,EG,hs0⟩
   case round=>
    clear hs0 EG;obtain⟨t,hti,htm,rfl,hkp,hst⟩:=hrel;by_cases hlt2:i<a+t
    ·have d3:=eY i ((a+t:Nat):Int)
     have Sw:t-1<L.length:=by have:=HR.out;omega
     obtain⟨k,hk⟩:=aH (a+t);have hka:k-1=(A++L.take (t-1)).length:=by have:=HA.out;simp;omega
     obtain⟨xk,hxk⟩:=aH (A++L.take t++Y::(L.drop t++D));have et:t=(t-1)+1:=by omega
     have etk:L.take t=L.take (t-1)++[L[t-1]]:=(nI (L.take ·) et).trans (jk Sw);have G7:xk=(A++L.take (t-1))++L[t-1]::Y::(L.drop t++D):=by rw[<-hxk,etk];simp only[dV,jE,jW]
     have hrw:Rw g cap n wr xk:=by rw[<-hxk];exact hst
     obtain⟨Z,Sy⟩:=aH (L[t-1]);rw[Sy]at G7;have ek:k=(A++L.take (t-1)).length+1:=by omega
     have hZ:xk[k-1]? =some Z:=by rw[G7,hka,nJ (aI _),Nat.sub_self];rfl
     have hY:xk[k]? =some Y:=by rw[G7,ek,nJ (by omega),Nat.add_sub_cancel_left];rfl
     have KD:=ah (show(xk.set k Z).set (k-1) Y=A++L.take (t-1)++Y::(L.drop (t-1)++D) by
      rw[List.set_comm _ _ (by omega),G7,hka,ek,Kj,iW Sw,Sy,<-et];simp only[dV,jE])
     have EH:=ah (show∀W,Rw g cap n W (A++L.take (t-1)++Y::(L.drop (t-1)++D))->QE g cap n A L D Y (t-1) W from fun W hW=>hW);have Hk:=ah hk;have hkn:k<n:=by omega
     have hk1:1<=k:=by omega
     have hik:i<k:=by omega
     rw[hk]at d3⊢;clear hst hxk G7 hka Sy hk Sw et etk ek;go_wp2_with fail
     refine oO 16 15 [0,1,5,6,7,8,9,10,11,12,13,14] (fun i=>match i with|0=>.slice (some ⟨g,0,none⟩) n cap|1=>.int .i64 ((k:Nat):Int)|2=>.slice (some ⟨g,0,none⟩) n cap|3=>.int .i64 ((k:Nat):Int)|4=>.int .i64 ((k-1:Nat):Int)|5=>.slice (some ⟨g,0,none⟩) n cap|6=>.int .i64 ((k:Nat):Int)|7=>.int .i64 ((k-1:Nat):Int)|8=>.pointer (some ⟨g,(k-1)*7,none⟩)|9=>.agg (bD.E Z).toArray|10=>.slice (some ⟨g,0,none⟩) n cap|11=>.int .i64 ((k:Nat):Int)|12=>.pointer (some ⟨g,(k)*7,none⟩)|13=>.agg (bD.E Y).toArray|14=>.pointer (some ⟨g,(k)*7,none⟩)|15=>undef|_=>undef) (by kernel_rfl) (by kernel_rfl) (by kernel_rfl) (by kernel_rfl) (by decide) (by decide) rfl ?_;intro W hW;obtain⟨W1,hk1,ho1,hs1⟩:=(hrw.ext hW).store (k) (by omega) Z;refine⟨W1,bY (by decide) (fun _=>dS (.tmp 0) rfl rfl),bY (by decide) (fun _=>dS (.tmp 17) rfl rfl),bY (by decide) (fun _=>dS (.tmp 0) rfl rfl),bY (by decide) (fun _=>dS (.tmp 17) rfl rfl),bY (by decide) (fun _=>qC .sub _ _ (.tmp 116) _ rfl _ _ rfl rfl (wP _ _ _ _ (by omega) (by omega) (by omega))),bY (by decide) (fun _=>dS (.tmp 0) rfl rfl),bY (by decide) (fun _=>dS (.tmp 17) rfl rfl),bY (by decide) (fun _=>qC .sub _ _ (.tmp 119) _ rfl _ _ rfl rfl (wP _ _ _ _ (by omega) (by omega) (by omega))),bY (by decide) (fun _=>(jB bD (.tmp 118) (.tmp 120) rfl n rfl (k-1) rfl (by omega))),oD (by decide) (by decide) (qY bD rfl (.tmp 121) rfl (k-1) rfl ((hrw.ext hW).o) _ (hZ)),bY (by decide) (fun _=>dS (.tmp 0) rfl rfl),?_⟩;refine⟨bY (by decide) (fun _=>dS (.tmp 17) rfl rfl),bY (by decide) (fun _=>(jB bD (.tmp 123) (.tmp 124) rfl n rfl (k) rfl (by omega))),oD (by decide) (by decide) (qY bD rfl (.tmp 125) rfl (k) rfl ((hrw.ext hW).o) _ (hY)),bY (by decide) (fun _=>(jB bD (.tmp 113) (.tmp 114) rfl n rfl (k) rfl (by omega))),wu rfl (hs1 _ _ (.tmp 127) (.tmp 122) rfl rfl rfl),?_⟩;refine lJ.nil ?_;simp only[List.drop_succ_cons,List.drop_zero,gH,dK,List.set_cons_succ,List.set_cons_zero,Nat.reduceAdd];refine jG rfl (jB bD (.tmp 115) (.tmp 117) rfl n rfl (k-1) rfl (by omega)) ?_;obtain⟨W2,hk2,ho2,hs2⟩:=ho1.store (k-1) (by omega) Y;refine jG rfl (hs2 _ _ (.tmp 128) (.tmp 126) rfl rfl rfl) ?_;have hrw2:Rw g cap n W2 ((xk.set k Z).set (k-1) Y):=ho2;rw[KD.out]at hrw2;have xW:Kp g w W2:=hkp.trans ((Kp.dH hW).trans (hk1.trans hk2));have lT:=EH.out W2 hrw2;clear hs1 hs2 hk1 hk2 ho1 ho2 hY hZ hrw hkp KD EH hrw2;go_wp2;go_roundw
     case rel=>have hk:=Hk.out;exact⟨t-1,by omega,by omega,by go_num,xW,lT⟩
     case measure=>have hk:=Hk.out;simp[intOf];omega
    ·have d3:=fT i ((a+t:Nat):Int)
     have hti:t=i-a:=by omega
     rw[hti]at hst
     have Ya:Rw g cap n wr (A++(L.take (i-a)++Y::L.drop (i-a))++D):=by
      have hst':Rw g cap n wr _:=hst;simpa only[dV,jE]using hst'
     clear hst hti;go_wp2
     (try simp only[Exit.inBlock,Exit.then])
     refine bodyPost_ret (results_none rfl _ _ _) rfl ?_;exact⟨rfl,hkp,_,Q.out.1,Q.out.2,Ya⟩
end
end Go.Proofs.YtgboomjahhnldaaGreatDoor.Ac
