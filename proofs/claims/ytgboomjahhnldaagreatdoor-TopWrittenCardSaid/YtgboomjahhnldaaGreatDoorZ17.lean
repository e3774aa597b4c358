/- A part of the proof of TopWritten, printed small: InsAc SwapAc RotAc. -/
import Derived.Test.YtgboomjahhnldaaGreatDoorZ16
set_option maxRecDepth 100000
set_option maxHeartbeats 25600000
set_option linter.all false
namespace Go.Proofs.YtgboomjahhnldaaGreatDoor.Ac
open Go.Proofs.Tryz
open Go.RowKit
section
variable (lt:(bM×bn)->(bM×bn)->Bool) (g cap n:Nat) (A B D:List (bM×bn))
def G6(t:Nat)(w:World):Prop:=∃M,fA lt M/\SO lt (B.take t) M/\Rw g cap n w (A++M++(B.drop t++D))
def zu(t j:Nat)(x:bM×bn)(w:World):Prop:=∃B1 B2 xs,fA lt (B1++B2)/\SO lt (B.take t) (B1++B2)/\(∀y∈B2,lt x y=true)/\j=A.length+B1.length/\xs=A++B1++x::(B2++(B.drop (t+1)++D))/\Rw g cap n w xs
end
theorem zu.of{lt:(bM×bn)->(bM×bn)->Bool}{g cap n:Nat}{A B D:List (bM×bn)}{t:Nat}{w:World}(ht:t<B.length)(h:G6 lt g cap n A B D t w):zu lt g cap n A B D t (A.length+t) B[t] w:=by
 obtain⟨M,h1,h2,h3⟩:=h;have hl:=h2.perm.length_eq;simp at hl;refine⟨M,[],_,by simpa using h1,by simpa using h2,by simp,by omega,rfl,?_⟩;rw[iW ht]at h3;simpa only[dV,jE,jW]using h3
theorem zu.fin{lt:(bM×bn)->(bM×bn)->Bool}(hw:Wk lt){A B D B1 B2 xs:List (bM×bn)}{t:Nat}(ht:t<B.length)(h1:fA lt (B1++B2))(h2:SO lt (B.take t) (B1++B2))(h3:∀y∈B2,lt B[t] y=true)(h5:xs=A++B1++B[t]::(B2++(B.drop (t+1)++D)))(h6:∀y∈B1,lt B[t] y=false):
 ∃M,fA lt M/\SO lt (B.take (t+1)) M/\xs=A++M++(B.drop (t+1)++D):=by
 obtain⟨k1,k2⟩:=Ki hw h1 h6 h3;refine⟨B1++B[t]::B2,k1,?_,by rw[h5];simp only[dV,jE]⟩;rw[jk ht];exact(h2.append (SO.refl [B[t]])).trans k2
theorem zu.last{lt:(bM×bn)->(bM×bn)->Bool}(hw:Wk lt){B1 B2:List (bM×bn)}{x y:bM×bn}(h1:fA lt (B1++[y]++B2))(h:lt x y=false):∀z∈B1++[y],lt x z=false:=adg hw h1.left h
theorem Vt{g:Nat}{lt:(bM×bn)->(bM×bn)->Bool}{S:(bM×bn)->Prop}{J:World->Prop}{fv:Value}(C:EF g lt S J fv)(hw:Wk lt)(cap n a b:Nat)(A B D:List (bM×bn))(w:World)(hn:n<=1048576)(ha:a=A.length)(hb:b=A.length+B.length)(hS:∀x∈B,S x)(hJ:J w)(hrow:Rw g cap n w (A++B++D)):
 Calls prog 56 #[.slice (some ⟨g,0,none⟩) n cap,.int .i64 (a:Nat),.int .i64 (b:Nat),fv] w fun e w'=>e=.returned (.tuple #[])/\Kp g w w'/\∃M,fA lt M/\SO lt B M/\Rw g cap n w' (A++M++D):=by
 have h0:G6 lt g cap n A B D 1 w:=by
  refine⟨B.take 1,?_,SO.refl _,by rw[show A++B.take 1++(B.drop 1++D)=A++(B.take 1++B.drop 1)++D from by simp only[dV],jl];exact hrow⟩;cases B with
  |nil=>exact List.Pairwise.nil
  |cons x r=>simp;exact fA.one x
 have hbn:b<=n:=by have:=hrow.len;simp at this;omega
 have Hw:=ah hw;replace C:=ah C;have HS:=ah hS;have HJ:=ah hJ;have Hab:=ah (And.intro ha hb);have hab:a<=b:=by omega
 clear hw hS hJ hrow ha hb;go_enter func56,ntmps56
 go_wp2
 go_loopw [8] (fun vi wr=>∃t:Nat,1<=t/\(t<=b-a∨t=1)/\vi=.int .i64 ((a+t:Nat):Int)/\Kp g w wr/\G6 lt g cap n A B D t wr) (fun vi _=>b-(intOf vi).toNat)
 case atStart=>exact⟨1,by omega,.inr rfl,by go_num,Kp.refl _ _,h0⟩
 case round=>
  clear h0;obtain⟨t,ht1,ht2,rfl,EG,hout⟩:=hrel;by_cases hlt:a+t<b
  ·have Sr:t<B.length:=by have:=Hab.out;omega
   have Ht3:=ah (show t+1<=b-a by omega);have d1:=eY ((a+t:Nat):Int) b;have Sv:=zu.of Sr hout;rw[<-Hab.out.1]at Sv;obtain⟨X,hBX⟩:=aH (B[t]);rw[hBX]at Sv;have HBX:=ah hBX;have sX:S X:=by rw[<-hBX];exact HS.out _ (dW Sr)
   obtain⟨i0,hi0⟩:=aH (a+t);rw[hi0]at Sv hlt d1⊢;have Hi0:=ah hi0;have hi1:a<i0:=by omega
   clear hout hBX hi0;go_wp2
   go_loopw [9] (fun vj wr=>∃j:Nat,a<=j/\j<=i0/\vj=.int .i64 (j:Nat)/\Kp g w wr/\zu lt g cap n A B D t j X wr) (fun vj _=>(intOf vj).toNat)
   case atStart=>exact⟨i0,by omega,by omega,rfl,EG,Sv⟩
   case round=>
    clear Sv EG;obtain⟨j,hja,hji,rfl,hkp,B1,B2,xs,q1,q2,q3,q4,q5,hrw⟩:=hrel;have hJ:=ah (C.out.keep _ _ HJ.out hkp);by_cases ari:a<j
    ·have hgt:=eY a j
     rcases List.eq_nil_or_concat B1 with rfl|⟨B0,Y,rfl⟩
     ·exfalso
      have:=Hab.out.1;simp at q4;omega
     rw[List.concat_eq_append]at q1 q2 q4 q5
     have hYB:Y∈B:=by
      have:Y∈B.take t:=q2.perm.mem_iff.2 (by simp);exact List.mem_of_mem_take this
     have sY:S Y:=HS.out Y hYB;have hj1:j-1=(A++B0).length/\j=(A++B0).length+1:=by simp at q4;simp;omega
     have e5:xs=(A++B0)++Y::X::(B2++(B.drop (t+1)++D)):=by rw[q5];simp only[dV,jE,jW]
     have hX:xs[j]? =some X:=by rw[e5,hj1.2,nJ (by omega),Nat.add_sub_cancel_left];rfl
     have hY:xs[j-1]? =some Y:=by rw[e5,hj1.1,nJ (aI _),Nat.sub_self];rfl
     have hjn:j<n:=by rw[<-hrw.len];exact(List.getElem?_eq_some_iff.1 hX).1
     have AX:=ah (show lt X Y=true->∀W,Rw g cap n W ((xs.set j Y).set (j-1) X)->zu lt g cap n A B D t (j-1) X W from fun hlt W hW=>by
      refine⟨B0,Y::B2,_,by simpa using q1,by simpa using q2,fun y hy=> ?_,by simp at hj1;omega,?_,hW⟩
      ·rcases List.mem_cons.1 hy with rfl|hy
       ·exact hlt
       ·exact q3 y hy
      ·have hsw:=Kj (A++B0) (B2++(B.drop (t+1)++D)) Y X
       have hcm:(xs.set j Y).set (j-1) X=(xs.set (j-1) X).set j Y:=by rw[List.set_comm _ _ (by omega)]
       rw[hcm,e5,hj1.1,show j=(A++B0).length+1 from hj1.2];rw[hsw];simp only[dV,jE])
     have o7:=ah (show lt X Y=false->_ from fun hlt=>zu.fin (A:=A) (D:=D) (xs:=xs) Hw.out Sr q1 q2 (by rw[HBX.out];exact q3) (by rw[HBX.out];exact q5) (by rw[HBX.out];exact zu.last Hw.out (by simpa using q1) hlt));clear q1 q2 q3 q4 q5 hYB hj1 e5;obtain⟨bb,r9⟩:=aH (lt X Y);have hbb:=ah r9;clear r9;cases bb
     case true=>
      replace AX:=ah (AX.out hbb.out);go_wp2_with fail
      refine iw (by kernel_rfl) (fun i=>match i with|0=>Ty.is (.int .i64 (j:Nat))|1=>Ty.is (.int .i64 (a:Nat))|2=>Ty.is (.bool true)|3=>Ty.is (.bool true)|4=>fQ (true=true) (Ty.is (fv))|5=>fQ (true=true) (Ty.is (.slice (some ⟨g,0,none⟩) n cap))|6=>fQ (true=true) (Ty.is (.int .i64 (j:Nat)))|7=>fQ (true=true) (aK (bD.E X))|8=>fQ (true=true) (Ty.is (.agg (bD.E X).toArray))|9=>fQ (true=true) (Ty.is (.slice (some ⟨g,0,none⟩) n cap))|10=>fQ (true=true) (Ty.is (.int .i64 (j:Nat)))|11=>fQ (true=true) (Ty.is (.int .i64 ((j-1:Nat):Int)))|12=>fQ (true=true) (aK (bD.E Y))|13=>fQ (true=true) (Ty.is (.agg (bD.E Y).toArray))|14=>fQ (true=true) (CU true)|15=>fQ (true=true) (Ty.is (.bool true))|16=>Ty.is (.bool true)|_=>Ty.any) (by kernel_rfl) rfl ?_;intro v;refine⟨?_,?_,?_,?_,?_,?_,?_,?_,?_,?_,?_,?_,?_,?_,?_,?_,?_,?_⟩
      ·exact fun wq hq _=>ak rfl (aF (.tmp 9) rfl rfl rfl)
      ·exact fun wq hq _=>ak rfl (aF (.tmp 1) rfl rfl rfl)
      ·rintro wq hq ⟨h0,h1,-⟩;exact ak rfl (eF .gtr 3 3 (.tmp 18) (.tmp 19) rfl _ _ h0 h1 (fun w=>by rw[rV,hgt]) rfl)
      ·rintro wq hq ⟨h0,-⟩;exact ak rfl (aF (.tmp 20) rfl h0 rfl)
      ·rintro wq hq ⟨h0,-⟩
       change v 3=_ at h0;refine bg 3 true (true) rfl (aV rfl h0) (fun hg=> ?_) (fun hg=> ?_)
       ·refine bL.gd (p:=true=true) (T:=Ty.is (fv)) ?_
        exact aF (.tmp 3) rfl rfl rfl
       ·intro hn;rw[hn]at hg;cases hg
      ·rintro wq hq ⟨h0,-⟩
       change v 3=_ at h0;refine bg 3 true (true) rfl (aV rfl h0) (fun hg=> ?_) (fun hg=> ?_)
       ·refine bL.gd (p:=true=true) (T:=Ty.is (.slice (some ⟨g,0,none⟩) n cap)) ?_
        exact aF (.tmp 0) rfl rfl rfl
       ·intro hn;rw[hn]at hg;cases hg
      ·rintro wq hq ⟨h0,-⟩
       change v 3=_ at h0;refine bg 3 true (true) rfl (aV rfl h0) (fun hg=> ?_) (fun hg=> ?_)
       ·refine bL.gd (p:=true=true) (T:=Ty.is (.int .i64 (j:Nat))) ?_
        exact aF (.tmp 9) rfl rfl rfl
       ·intro hn;rw[hn]at hg;cases hg
      ·rintro wq hq ⟨h0,h1,h2,-⟩
       change (true=true)->v 5=_ at h0;change (true=true)->v 6=_ at h1;change v 3=_ at h2;refine bg 3 true (true) rfl (aV rfl h2) (fun hg=> ?_) (fun hg=> ?_)
       ·refine bL.gd (p:=true=true) (T:=aK (bD.E X)) ?_
        replace h0:=h0 hg;replace h1:=h1 hg;exact iU (.tmp 23) (.tmp 24) rfl h0 j h1 (hrw.ext hq) hX
       ·intro hn;rw[hn]at hg;cases hg
      ·rintro wq hq ⟨h0,h1,-⟩
       change (true=true)->(aK (bD.E X)).p (v 7) wq at h0;change v 3=_ at h1;refine bg 3 true (true) rfl (aV rfl h1) (fun hg=> ?_) (fun hg=> ?_)
       ·refine bL.gd (p:=true=true) (T:=Ty.is (.agg (bD.E X).toArray)) ?_
        replace h0:=h0 hg;exact jC (.tmp 25) rfl h0
       ·intro hn;rw[hn]at hg;cases hg
      ·rintro wq hq ⟨h0,-⟩
       change v 3=_ at h0;refine bg 3 true (true) rfl (aV rfl h0) (fun hg=> ?_) (fun hg=> ?_)
       ·refine bL.gd (p:=true=true) (T:=Ty.is (.slice (some ⟨g,0,none⟩) n cap)) ?_
        exact aF (.tmp 0) rfl rfl rfl
       ·intro hn;rw[hn]at hg;cases hg
      ·rintro wq hq ⟨h0,-⟩
       change v 3=_ at h0;refine bg 3 true (true) rfl (aV rfl h0) (fun hg=> ?_) (fun hg=> ?_)
       ·refine bL.gd (p:=true=true) (T:=Ty.is (.int .i64 (j:Nat))) ?_
        exact aF (.tmp 9) rfl rfl rfl
       ·intro hn;rw[hn]at hg;cases hg
      ·rintro wq hq ⟨h0,h1,-⟩
       change (true=true)->v 10=_ at h0;change v 3=_ at h1;refine bg 3 true (true) rfl (aV rfl h1) (fun hg=> ?_) (fun hg=> ?_)
       ·refine bL.gd (p:=true=true) (T:=Ty.is (.int .i64 ((j-1:Nat):Int))) ?_
        replace h0:=h0 hg;exact eF .sub 3 3 (.tmp 28) _ rfl _ _ h0 rfl (wP _ _ _ _ (by omega) (by omega) (by omega)) rfl
       ·intro hn;rw[hn]at hg;cases hg
      ·rintro wq hq ⟨h0,h1,h2,-⟩
       change (true=true)->v 9=_ at h0;change (true=true)->v 11=_ at h1;change v 3=_ at h2;refine bg 3 true (true) rfl (aV rfl h2) (fun hg=> ?_) (fun hg=> ?_)
       ·refine bL.gd (p:=true=true) (T:=aK (bD.E Y)) ?_
        replace h0:=h0 hg;replace h1:=h1 hg;exact iU (.tmp 27) (.tmp 29) rfl h0 (j-1) h1 (hrw.ext hq) hY
       ·intro hn;rw[hn]at hg;cases hg
      ·rintro wq hq ⟨h0,h1,-⟩
       change (true=true)->(aK (bD.E Y)).p (v 12) wq at h0;change v 3=_ at h1;refine bg 3 true (true) rfl (aV rfl h1) (fun hg=> ?_) (fun hg=> ?_)
       ·refine bL.gd (p:=true=true) (T:=Ty.is (.agg (bD.E Y).toArray)) ?_
        replace h0:=h0 hg;exact jC (.tmp 30) rfl h0
       ·intro hn;rw[hn]at hg;cases hg
      ·rintro wq hq ⟨h0,h1,h2,h3,h4,-⟩
       change (true=true)->v 4=_ at h0;change (true=true)->v 8=_ at h1;change (true=true)->v 13=_ at h2;change v 3=_ at h3;refine bg 3 true (true) rfl (aV rfl h3) (fun hg=> ?_) (fun hg=> ?_)
       ·refine bL.gd (p:=true=true) (T:=CU true) ?_
        replace h0:=h0 hg;replace h1:=h1 hg;replace h2:=h2 hg;exact hbb.out▸wU C.out (.tmp 22) (.tmp 26) (.tmp 31) _ rfl h0 h1 h2 sX sY (C.out.keep _ _ hJ.out (Kp.dH hq))
       ·intro hn;rw[hn]at hg;cases hg
      ·rintro wq hq ⟨h0,h1,-⟩
       change (true=true)->(CU true).p (v 14) wq at h0;change v 3=_ at h1;refine bg 3 true (true) rfl (aV rfl h1) (fun hg=> ?_) (fun hg=> ?_)
       ·refine bL.gd (p:=true=true) (T:=Ty.is (.bool true)) ?_
        replace h0:=h0 hg;exact wV _ _ (.tmp 32) _ rfl _ h0 rfl
       ·intro hn;rw[hn]at hg;cases hg
      ·rintro wq hq ⟨h0,h1,-⟩;exact ak rfl (I7 (.tmp 21) (.tmp 33) rfl rfl _ _ h0 (fun hgd=>h1 hgd) rfl)
      ·intro wq hq hT
       have k16:=hT 16 (by decide);change v 16=_ at k16;clear hT;simp only[List.drop_succ_cons,List.drop_zero,gH,dK,List.set_cons_succ,List.set_cons_zero,Nat.reduceAdd];rw[k16];have X8:Rw g cap n wq xs:=hrw.ext hq;go_wp2_with fail
       refine oO 16 15 [0,1,5,6,7,8,9,10,11,12,13,14] (fun i=>match i with|0=>.slice (some ⟨g,0,none⟩) n cap|1=>.int .i64 ((j:Nat):Int)|2=>.slice (some ⟨g,0,none⟩) n cap|3=>.int .i64 ((j:Nat):Int)|4=>.int .i64 ((j-1:Nat):Int)|5=>.slice (some ⟨g,0,none⟩) n cap|6=>.int .i64 ((j:Nat):Int)|7=>.int .i64 ((j-1:Nat):Int)|8=>.pointer (some ⟨g,(j-1)*7,none⟩)|9=>.agg (bD.E Y).toArray|10=>.slice (some ⟨g,0,none⟩) n cap|11=>.int .i64 ((j:Nat):Int)|12=>.pointer (some ⟨g,(j)*7,none⟩)|13=>.agg (bD.E X).toArray|14=>.pointer (some ⟨g,(j)*7,none⟩)|15=>undef|_=>undef) (by kernel_rfl) (by kernel_rfl) (by kernel_rfl) (by kernel_rfl) (by decide) (by decide) rfl ?_;intro W hW;obtain⟨W1,hk1,ho1,hs1⟩:=(X8.ext hW).store (j) (by omega) Y;refine⟨W1,bY (by decide) (fun _=>dS (.tmp 0) rfl rfl),bY (by decide) (fun _=>dS (.tmp 9) rfl rfl),bY (by decide) (fun _=>dS (.tmp 0) rfl rfl),bY (by decide) (fun _=>dS (.tmp 9) rfl rfl),bY (by decide) (fun _=>qC .sub _ _ (.tmp 40) _ rfl _ _ rfl rfl (wP _ _ _ _ (by omega) (by omega) (by omega))),bY (by decide) (fun _=>dS (.tmp 0) rfl rfl),bY (by decide) (fun _=>dS (.tmp 9) rfl rfl),bY (by decide) (fun _=>qC .sub _ _ (.tmp 43) _ rfl _ _ rfl rfl (wP _ _ _ _ (by omega) (by omega) (by omega))),bY (by decide) (fun _=>(jB bD (.tmp 42) (.tmp 44) rfl n rfl (j-1) rfl (by omega))),oD (by decide) (by decide) (qY bD rfl (.tmp 45) rfl (j-1) rfl ((X8.ext hW).o) _ (hY)),bY (by decide) (fun _=>dS (.tmp 0) rfl rfl),?_⟩;refine⟨bY (by decide) (fun _=>dS (.tmp 9) rfl rfl),bY (by decide) (fun _=>(jB bD (.tmp 47) (.tmp 48) rfl n rfl (j) rfl (by omega))),oD (by decide) (by decide) (qY bD rfl (.tmp 49) rfl (j) rfl ((X8.ext hW).o) _ (hX)),bY (by decide) (fun _=>(jB bD (.tmp 37) (.tmp 38) rfl n rfl (j) rfl (by omega))),wu rfl (hs1 _ _ (.tmp 51) (.tmp 46) rfl rfl rfl),?_⟩;refine lJ.nil ?_;simp only[List.drop_succ_cons,List.drop_zero,gH,dK,List.set_cons_succ,List.set_cons_zero,Nat.reduceAdd];refine jG rfl (jB bD (.tmp 39) (.tmp 41) rfl n rfl (j-1) rfl (by omega)) ?_;obtain⟨W2,hk2,ho2,hs2⟩:=ho1.store (j-1) (by omega) X;refine jG rfl (hs2 _ _ (.tmp 52) (.tmp 50) rfl rfl rfl) ?_;have hrw2:Rw g cap n W2 ((xs.set j Y).set (j-1) X):=ho2;have xW:Kp g w W2:=hkp.trans ((Kp.dH hq).trans ((Kp.dH hW).trans (hk1.trans hk2)));have lT:=AX.out W2 hrw2;clear hs1 hs2 hk1 hk2 ho1 ho2 hX hY hrw X8 hkp AX o7;go_wp2;go_roundw
       case rel=>exact⟨j-1,by omega,by omega,by go_num,xW,lT⟩
       case measure=>simp[intOf];omega
     case false=>
      go_wp2_with fail
      refine iw (by kernel_rfl) (fun i=>match i with|0=>Ty.is (.int .i64 (j:Nat))|1=>Ty.is (.int .i64 (a:Nat))|2=>Ty.is (.bool true)|3=>Ty.is (.bool true)|4=>fQ (true=true) (Ty.is (fv))|5=>fQ (true=true) (Ty.is (.slice (some ⟨g,0,none⟩) n cap))|6=>fQ (true=true) (Ty.is (.int .i64 (j:Nat)))|7=>fQ (true=true) (aK (bD.E X))|8=>fQ (true=true) (Ty.is (.agg (bD.E X).toArray))|9=>fQ (true=true) (Ty.is (.slice (some ⟨g,0,none⟩) n cap))|10=>fQ (true=true) (Ty.is (.int .i64 (j:Nat)))|11=>fQ (true=true) (Ty.is (.int .i64 ((j-1:Nat):Int)))|12=>fQ (true=true) (aK (bD.E Y))|13=>fQ (true=true) (Ty.is (.agg (bD.E Y).toArray))|14=>fQ (true=true) (CU false)|15=>fQ (true=true) (Ty.is (.bool false))|16=>Ty.is (.bool false)|_=>Ty.any) (by kernel_rfl) rfl ?_;intro v;refine⟨?_,?_,?_,?_,?_,?_,?_,?_,?_,?_,?_,?_,?_,?_,?_,?_,?_,?_⟩
      ·exact fun wq hq _=>ak rfl (aF (.tmp 9) rfl rfl rfl)
      ·exact fun wq hq _=>ak rfl (aF (.tmp 1) rfl rfl rfl)
      ·rintro wq hq ⟨h0,h1,-⟩;exact ak rfl (eF .gtr 3 3 (.tmp 18) (.tmp 19) rfl _ _ h0 h1 (fun w=>by rw[rV,hgt]) rfl)
      ·rintro wq hq ⟨h0,-⟩;exact ak rfl (aF (.tmp 20) rfl h0 rfl)
      ·rintro wq hq ⟨h0,-⟩
       change v 3=_ at h0;refine bg 3 true (true) rfl (aV rfl h0) (fun hg=> ?_) (fun hg=> ?_)
       ·refine bL.gd (p:=true=true) (T:=Ty.is (fv)) ?_
        exact aF (.tmp 3) rfl rfl rfl
       ·intro hn;rw[hn]at hg;cases hg
      ·rintro wq hq ⟨h0,-⟩
       change v 3=_ at h0;refine bg 3 true (true) rfl (aV rfl h0) (fun hg=> ?_) (fun hg=> ?_)
       ·refine bL.gd (p:=true=true) (T:=Ty.is (.slice (some ⟨g,0,none⟩) n cap)) ?_
        exact aF (.tmp 0) rfl rfl rfl
       ·intro hn;rw[hn]at hg;cases hg
      ·rintro wq hq ⟨h0,-⟩
       change v 3=_ at h0;refine bg 3 true (true) rfl (aV rfl h0) (fun hg=> ?_) (fun hg=> ?_)
       ·refine bL.gd (p:=true=true) (T:=Ty.is (.int .i64 (j:Nat))) ?_
        exact aF (.tmp 9) rfl rfl rfl
       ·intro hn;rw[hn]at hg;cases hg
      ·rintro wq hq ⟨h0,h1,h2,-⟩
       change (true=true)->v 5=_ at h0;change (true=true)->v 6=_ at h1;change v 3=_ at h2;refine bg 3 true (true) rfl (aV rfl h2) (fun hg=> ?_) (fun hg=> ?_)
       ·refine bL.gd (p:=true=true) (T:=aK (bD.E X)) ?_
        replace h0:=h0 hg;replace h1:=h1 hg;exact iU (.tmp 23) (.tmp 24) rfl h0 j h1 (hrw.ext hq) hX
       ·intro hn;rw[hn]at hg;cases hg
      ·rintro wq hq ⟨h0,h1,-⟩
       change (true=true)->(aK (bD.E X)).p (v 7) wq at h0;change v 3=_ at h1;refine bg 3 true (true) rfl (aV rfl h1) (fun hg=> ?_) (fun hg=> ?_)
       ·refine bL.gd (p:=true=true) (T:=Ty.is (.agg (bD.E X).toArray)) ?_
        replace h0:=h0 hg;exact jC (.tmp 25) rfl h0
       ·intro hn;rw[hn]at hg;cases hg
      ·rintro wq hq ⟨h0,-⟩
       change v 3=_ at h0;refine bg 3 true (true) rfl (aV rfl h0) (fun hg=> ?_) (fun hg=> ?_)
       ·refine bL.gd (p:=true=true) (T:=Ty.is (.slice (some ⟨g,0,none⟩) n cap)) ?_
        exact aF (.tmp 0) rfl rfl rfl
       ·intro hn;rw[hn]at hg;cases hg
      ·rintro wq hq ⟨h0,-⟩
       change v 3=_ at h0;refine bg 3 true (true) rfl (aV rfl h0) (fun hg=> ?_) (fun hg=> ?_)
       ·refine bL.gd (p:=true=true) (T:=Ty.is (.int .i64 (j:Nat))) ?_
        exact aF (.tmp 9) rfl rfl rfl
       ·intro hn;rw[hn]at hg;cases hg
      ·rintro wq hq ⟨h0,h1,-⟩
       change (true=true)->v 10=_ at h0;change v 3=_ at h1;refine bg 3 true (true) rfl (aV rfl h1) (fun hg=> ?_) (fun hg=> ?_)
       ·refine bL.gd (p:=true=true) (T:=Ty.is (.int .i64 ((j-1:Nat):Int))) ?_
        replace h0:=h0 hg;exact eF .sub 3 3 (.tmp 28) _ rfl _ _ h0 rfl (wP _ _ _ _ (by omega) (by omega) (by omega)) rfl
       ·intro hn;rw[hn]at hg;cases hg
      ·rintro wq hq ⟨h0,h1,h2,-⟩
       change (true=true)->v 9=_ at h0;change (true=true)->v 11=_ at h1;change v 3=_ at h2;refine bg 3 true (true) rfl (aV rfl h2) (fun hg=> ?_) (fun hg=> ?_)
       ·refine bL.gd (p:=true=true) (T:=aK (bD.E Y)) ?_
        replace h0:=h0 hg;replace h1:=h1 hg;exact iU (.tmp 27) (.tmp 29) rfl h0 (j-1) h1 (hrw.ext hq) hY
       ·intro hn;rw[hn]at hg;cases hg
      ·rintro wq hq ⟨h0,h1,-⟩
       change (true=true)->(aK (bD.E Y)).p (v 12) wq at h0;change v 3=_ at h1;refine bg 3 true (true) rfl (aV rfl h1) (fun hg=> ?_) (fun hg=> ?_)
       ·refine bL.gd (p:=true=true) (T:=Ty.is (.agg (bD.E Y).toArray)) ?_
        replace h0:=h0 hg;exact jC (.tmp 30) rfl h0
       ·intro hn;rw[hn]at hg;cases hg
      ·rintro wq hq ⟨h0,h1,h2,h3,h4,-⟩
       change (true=true)->v 4=_ at h0;change (true=true)->v 8=_ at h1;change (true=true)->v 13=_ at h2;change v 3=_ at h3;refine bg 3 true (true) rfl (aV rfl h3) (fun hg=> ?_) (fun hg=> ?_)
       ·refine bL.gd (p:=true=true) (T:=CU false) ?_
        replace h0:=h0 hg;replace h1:=h1 hg;replace h2:=h2 hg;exact hbb.out▸wU C.out (.tmp 22) (.tmp 26) (.tmp 31) _ rfl h0 h1 h2 sX sY (C.out.keep _ _ hJ.out (Kp.dH hq))
       ·intro hn;rw[hn]at hg;cases hg
      ·rintro wq hq ⟨h0,h1,-⟩
       change (true=true)->(CU false).p (v 14) wq at h0;change v 3=_ at h1;refine bg 3 true (true) rfl (aV rfl h1) (fun hg=> ?_) (fun hg=> ?_)
       ·refine bL.gd (p:=true=true) (T:=Ty.is (.bool false)) ?_
        replace h0:=h0 hg;exact wV _ _ (.tmp 32) _ rfl _ h0 rfl
       ·intro hn;rw[hn]at hg;cases hg
      ·rintro wq hq ⟨h0,h1,-⟩;exact ak rfl (I7 (.tmp 21) (.tmp 33) rfl rfl _ _ h0 (fun hgd=>h1 hgd) rfl)
      ·intro wq hq hT
       have k16:=hT 16 (by decide);change v 16=_ at k16;clear hT;simp only[List.drop_succ_cons,List.drop_zero,gH,dK,List.set_cons_succ,List.set_cons_zero,Nat.reduceAdd];rw[k16];have hfin:=o7.out hbb.out;obtain⟨M',hf1,hf2,hf3⟩:=hfin;have hrw2:Rw g cap n wq xs:=hrw.ext hq;rw[hf3]at hrw2;have xW:Kp g w wq:=hkp.trans (Kp.dH hq);have hfs:G6 lt g cap n A B D (t+1) wq:=⟨M',hf1,hf2,hrw2⟩;clear hX hY hrw hkp hf1 hf2 hf3 hrw2 AX o7;go_wp2;go_roundw
       case rel=>
        have hi0:=Hi0.out;exact⟨t+1,by omega,.inl Ht3.out,by go_num,xW,hfs⟩
       case measure=>have hi0:=Hi0.out;simp[intOf];omega
    ·have QU:j=a:=by omega
     have hgt:=fT a j;have hB1:B1=[]:=kM (by have:=Hab.out.1;omega);subst hB1;have o7:=ah (zu.fin (A:=A) (D:=D) (xs:=xs) Hw.out Sr q1 q2 (by rw[HBX.out];exact q3) (by rw[HBX.out];exact q5) (by simp));clear q1 q2 q3 q4 q5 QU ari;go_wp2_with fail
     refine iw (by kernel_rfl) (fun i=>match i with|0=>Ty.is (.int .i64 (j:Nat))|1=>Ty.is (.int .i64 (a:Nat))|2=>Ty.is (.bool false)|3=>Ty.is (.bool false)|4=>fQ (false=true) (Ty.any)|5=>fQ (false=true) (Ty.any)|6=>fQ (false=true) (Ty.any)|7=>fQ (false=true) (Ty.any)|8=>fQ (false=true) (Ty.any)|9=>fQ (false=true) (Ty.any)|10=>fQ (false=true) (Ty.any)|11=>fQ (false=true) (Ty.any)|12=>fQ (false=true) (Ty.any)|13=>fQ (false=true) (Ty.any)|14=>fQ (false=true) (Ty.any)|15=>fQ (false=true) (Ty.any)|16=>Ty.is (.bool false)|_=>Ty.any) (by kernel_rfl) rfl ?_;intro v;refine⟨?_,?_,?_,?_,?_,?_,?_,?_,?_,?_,?_,?_,?_,?_,?_,?_,?_,?_⟩
     ·exact fun wq hq _=>ak rfl (aF (.tmp 9) rfl rfl rfl)
     ·exact fun wq hq _=>ak rfl (aF (.tmp 1) rfl rfl rfl)
     ·rintro wq hq ⟨h0,h1,-⟩;exact ak rfl (eF .gtr 3 3 (.tmp 18) (.tmp 19) rfl _ _ h0 h1 (fun w=>by rw[rV,hgt]) rfl)
     ·rintro wq hq ⟨h0,-⟩;exact ak rfl (aF (.tmp 20) rfl h0 rfl)
     ·rintro wq hq ⟨h0,-⟩
      change v 3=_ at h0;refine bg 3 true (false) rfl (aV rfl h0) (fun hg=> ?_) (fun hg=> ?_)
      ·refine bL.gd (p:=false=true) (T:=Ty.any) ?_
       cases hg
      ·intro hn;rw[hn]at hg;cases hg
     ·rintro wq hq ⟨h0,-⟩
      change v 3=_ at h0;refine bg 3 true (false) rfl (aV rfl h0) (fun hg=> ?_) (fun hg=> ?_)
      ·refine bL.gd (p:=false=true) (T:=Ty.any) ?_
       cases hg
      ·intro hn;rw[hn]at hg;cases hg
     ·rintro wq hq ⟨h0,-⟩
      change v 3=_ at h0;refine bg 3 true (false) rfl (aV rfl h0) (fun hg=> ?_) (fun hg=> ?_)
      ·refine bL.gd (p:=false=true) (T:=Ty.any) ?_
       cases hg
      ·intro hn;rw[hn]at hg;cases hg
     ·rintro wq hq ⟨h0,h1,h2,-⟩
      change v 3=_ at h2;refine bg 3 true (false) rfl (aV rfl h2) (fun hg=> ?_) (fun hg=> ?_)
      ·refine bL.gd (p:=false=true) (T:=Ty.any) ?_
       cases hg
      ·intro hn;rw[hn]at hg;cases hg
     ·rintro wq hq ⟨h0,h1,-⟩
      change v 3=_ at h1;refine bg 3 true (false) rfl (aV rfl h1) (fun hg=> ?_) (fun hg=> ?_)
      ·refine bL.gd (p:=false=true) (T:=Ty.any) ?_
       cases hg
      ·intro hn;rw[hn]at hg;cases hg
     ·rintro wq hq ⟨h0,-⟩
      change v 3=_ at h0;refine bg 3 true (false) rfl (aV rfl h0) (fun hg=> ?_) (fun hg=> ?_)
      ·refine bL.gd (p:=false=true) (T:=Ty.any) ?_
       cases hg
      ·intro hn;rw[hn]at hg;cases hg
     ·rintro wq hq ⟨h0,-⟩
      change v 3=_ at h0;refine bg 3 true (false) rfl (aV rfl h0) (fun hg=> ?_) (fun hg=> ?_)
      ·refine bL.gd (p:=false=true) (T:=Ty.any) ?_
       cases hg
      ·intro hn;rw[hn]at hg;cases hg
     ·rintro wq hq ⟨h0,h1,-⟩
      change v 3=_ at h1;refine bg 3 true (false) rfl (aV rfl h1) (fun hg=> ?_) (fun hg=> ?_)
      ·refine bL.gd (p:=false=true) (T:=Ty.any) ?_
       cases hg
      ·intro hn;rw[hn]at hg;cases hg
     ·rintro wq hq ⟨h0,h1,h2,-⟩
      change v 3=_ at h2;refine bg 3 true (false) rfl (aV rfl h2) (fun hg=> ?_) (fun hg=> ?_)
      ·refine bL.gd (p:=false=true) (T:=Ty.any) ?_
       cases hg
      ·intro hn;rw[hn]at hg;cases hg
     ·rintro wq hq ⟨h0,h1,-⟩
      change v 3=_ at h1;refine bg 3 true (false) rfl (aV rfl h1) (fun hg=> ?_) (fun hg=> ?_)
      ·refine bL.gd (p:=false=true) (T:=Ty.any) ?_
       cases hg
      ·intro hn;rw[hn]at hg;cases hg
     ·rintro wq hq ⟨h0,h1,h2,h3,h4,-⟩
      change v 3=_ at h3;refine bg 3 true (false) rfl (aV rfl h3) (fun hg=> ?_) (fun hg=> ?_)
      ·refine bL.gd (p:=false=true) (T:=Ty.any) ?_
       cases hg
      ·intro hn;rw[hn]at hg;cases hg
     ·rintro wq hq ⟨h0,h1,-⟩
      change v 3=_ at h1;refine bg 3 true (false) rfl (aV rfl h1) (fun hg=> ?_) (fun hg=> ?_)
      ·refine bL.gd (p:=false=true) (T:=Ty.any) ?_
       cases hg
      ·intro hn;rw[hn]at hg;cases hg
     ·rintro wq hq ⟨h0,h1,-⟩;exact ak rfl (I7 (.tmp 21) (.tmp 33) rfl rfl false true h0 (fun hgd=>by cases hgd) rfl)
     ·intro wq hq hT
      have k16:=hT 16 (by decide);change v 16=_ at k16;clear hT;simp only[List.drop_succ_cons,List.drop_zero,gH,dK,List.set_cons_succ,List.set_cons_zero,Nat.reduceAdd];rw[k16];have hfin:=o7.out;obtain⟨M',hf1,hf2,hf3⟩:=hfin;have hrw2:Rw g cap n wq xs:=hrw.ext hq;rw[hf3]at hrw2;have xW:Kp g w wq:=hkp.trans (Kp.dH hq);have hfs:G6 lt g cap n A B D (t+1) wq:=⟨M',hf1,hf2,hrw2⟩;clear hrw hkp hf1 hf2 hf3 hrw2 o7;go_wp2;go_roundw
      case rel=>
       have hi0:=Hi0.out;exact⟨t+1,by omega,.inl Ht3.out,by go_num,xW,hfs⟩
      case measure=>have hi0:=Hi0.out;simp[intOf];omega
  ·have d1:=fT ((a+t:Nat):Int) b
   obtain⟨M,q1,q2,q3⟩:=hout;have Sr:B.length<=t:=by have:=Hab.out;omega
   rw[gY Sr]at q2;rw[List.drop_of_length_le Sr,jW]at q3;go_wp2
   (try simp only[Exit.inBlock,Exit.then])
   refine bodyPost_end (results_none rfl _ _ _) rfl ?_;exact⟨rfl,EG,M,q1,q2,q3⟩
end Go.Proofs.YtgboomjahhnldaaGreatDoor.Ac
namespace Go.Proofs.YtgboomjahhnldaaGreatDoor.Ac
open Go.Proofs.Tryz
open Go.RowKit
def uU{α:Type}(P X Y Z S:List α)(t:Nat):List α:=P++Z.take t++X.drop t++Y++X.take t++Z.drop t++S
theorem Qr(g cap n pa pb k:Nat)(P X Y Z S:List (bM×bn))(fv:Value)(w:World)(hn:n<=1048576)(ZG:X.length=Z.length)(ha:pa=P.length)(hb:pb=P.length+X.length+Y.length)(hk:k=X.length)(hw:Rw g cap n w (P++X++Y++Z++S)):
 Calls prog 148 #[.slice (some ⟨g,0,none⟩) n cap,.int .i64 (pa:Nat),.int .i64 (pb:Nat),.int .i64 (k:Nat),fv] w fun e w'=>e=.returned (.tuple #[])/\Kp g w w'/\Rw g cap n w' (P++Z++Y++X++S):=by
 have h0:Rw g cap n w (uU P X Y Z S 0):=by unfold uU;simpa using hw
 have hlen:pa+k<=n/\pb+k<=n:=by
  have:=hw.len;simp at this;omega
 have aaM:∀t,t<k->∃x z,(uU P X Y Z S t)[pa+t]? =some x/\(uU P X Y Z S t)[pb+t]? =some z/\((uU P X Y Z S t).set (pa+t) z).set (pb+t) x=uU P X Y Z S (t+1):=fun t ht=>by
  subst ha hb hk;exact Xi ZG ht
 have hend:uU P X Y Z S k=P++Z++Y++X++S:=by
  unfold uU;rw[gY (by omega),List.drop_of_length_le (by omega),gY (by omega),List.drop_of_length_le (by omega)];simp
 have ajJ:=ah aaM;have adM:=ah hend;obtain⟨hl1,hl2⟩:=hlen;clear aaM hend hw ha hb hk ZG;go_enter func148,ntmps148
 go_wp2
 go_loopw [10] (fun vk wr=>∃t:Nat,t<=k/\vk=.int .i64 (t:Nat)/\Kp g w wr/\Rw g cap n wr (uU P X Y Z S t)) (fun vk _=>k-(intOf vk).toNat)
 case atStart=>exact⟨0,bI _,rfl,Kp.refl _ _,h0⟩
 case round=>
  obtain⟨t,ht,rfl,hkp,hrw⟩:=hrel;by_cases hlt:t<k
  ·have d1:=eY t k
   obtain⟨x,z,hx,hz,hset⟩:=ajJ.out t hlt;go_wp2_with fail
   refine oO 22 21 [0,1,2,3,8,9,10,11,12,13,14,15,16,17,18,19,20] (fun i=>match i with|0=>.slice (some ⟨g,0,none⟩) n cap|1=>.int .i64 ((pa:Nat):Int)|2=>.int .i64 ((t:Nat):Int)|3=>.int .i64 ((pa+t:Nat):Int)|4=>.slice (some ⟨g,0,none⟩) n cap|5=>.int .i64 ((pb:Nat):Int)|6=>.int .i64 ((t:Nat):Int)|7=>.int .i64 ((pb+t:Nat):Int)|8=>.slice (some ⟨g,0,none⟩) n cap|9=>.int .i64 ((pb:Nat):Int)|10=>.int .i64 ((t:Nat):Int)|11=>.int .i64 ((pb+t:Nat):Int)|12=>.pointer (some ⟨g,(pb+t)*7,none⟩)|13=>.agg (bD.E z).toArray|14=>.slice (some ⟨g,0,none⟩) n cap|15=>.int .i64 ((pa:Nat):Int)|16=>.int .i64 ((t:Nat):Int)|17=>.int .i64 ((pa+t:Nat):Int)|18=>.pointer (some ⟨g,(pa+t)*7,none⟩)|19=>.agg (bD.E x).toArray|20=>.pointer (some ⟨g,(pa+t)*7,none⟩)|21=>undef|_=>undef) (by kernel_rfl) (by kernel_rfl) (by kernel_rfl) (by kernel_rfl) (by decide) (by decide) rfl ?_;intro W hW;obtain⟨W1,hk1,ho1,hs1⟩:=(hrw.ext hW).store (pa+t) (by omega) z;refine⟨W1,bY (by decide) (fun _=>dS (.tmp 0) rfl rfl),bY (by decide) (fun _=>dS (.tmp 1) rfl rfl),bY (by decide) (fun _=>dS (.tmp 10) rfl rfl),bY (by decide) (fun _=>qC .add _ _ (.tmp 17) (.tmp 18) rfl _ _ rfl rfl (Bh _ _ _ _ (by omega) (by omega) (by omega))),bY (by decide) (fun _=>dS (.tmp 0) rfl rfl),bY (by decide) (fun _=>dS (.tmp 2) rfl rfl),bY (by decide) (fun _=>dS (.tmp 10) rfl rfl),bY (by decide) (fun _=>qC .add _ _ (.tmp 21) (.tmp 22) rfl _ _ rfl rfl (Bh _ _ _ _ (by omega) (by omega) (by omega))),bY (by decide) (fun _=>dS (.tmp 0) rfl rfl),bY (by decide) (fun _=>dS (.tmp 2) rfl rfl),bY (by decide) (fun _=>dS (.tmp 10) rfl rfl),?_⟩;refine⟨bY (by decide) (fun _=>qC .add _ _ (.tmp 25) (.tmp 26) rfl _ _ rfl rfl (Bh _ _ _ _ (by omega) (by omega) (by omega))),bY (by decide) (fun _=>(jB bD (.tmp 24) (.tmp 27) rfl n rfl (pb+t) rfl (by omega))),oD (by decide) (by decide) (qY bD rfl (.tmp 28) rfl (pb+t) rfl ((hrw.ext hW).o) _ (hz)),bY (by decide) (fun _=>dS (.tmp 0) rfl rfl),bY (by decide) (fun _=>dS (.tmp 1) rfl rfl),bY (by decide) (fun _=>dS (.tmp 10) rfl rfl),bY (by decide) (fun _=>qC .add _ _ (.tmp 31) (.tmp 32) rfl _ _ rfl rfl (Bh _ _ _ _ (by omega) (by omega) (by omega))),bY (by decide) (fun _=>(jB bD (.tmp 30) (.tmp 33) rfl n rfl (pa+t) rfl (by omega))),oD (by decide) (by decide) (qY bD rfl (.tmp 34) rfl (pa+t) rfl ((hrw.ext hW).o) _ (hx)),bY (by decide) (fun _=>(jB bD (.tmp 16) (.tmp 19) rfl n rfl (pa+t) rfl (by omega))),wu rfl (hs1 _ _ (.tmp 36) (.tmp 29) rfl rfl rfl),?_⟩;refine lJ.nil ?_;simp only[List.drop_succ_cons,List.drop_zero,gH,dK,List.set_cons_succ,List.set_cons_zero,Nat.reduceAdd];refine jG rfl (jB bD (.tmp 20) (.tmp 23) rfl n rfl (pb+t) rfl (by omega)) ?_;obtain⟨W2,hk2,ho2,hs2⟩:=ho1.store (pb+t) (by omega) x;refine jG rfl (hs2 _ _ (.tmp 37) (.tmp 35) rfl rfl rfl) ?_;have hrw2:Rw g cap n W2 (uU P X Y Z S (t+1)):=by rw[<-hset];exact ho2
   have xW:Kp g w W2:=hkp.trans ((Kp.dH hW).trans (hk1.trans hk2));clear hs1 hs2 hk1 hk2 ho1 ho2 hset hx hz hrw hkp;go_wp2;go_roundw
   case rel=>exact⟨t+1,by omega,by go_num,xW,hrw2⟩
   case measure=>simp[intOf];omega
  ·have hkt:t=k:=by omega
   have d1:=fT t k;rw[hkt,adM.out]at hrw;clear hkt;go_wp2
   (try simp only[Exit.inBlock,Exit.then])
   refine bodyPost_end (results_none rfl _ _ _) rfl ?_;exact⟨rfl,hkp,hrw⟩
end Go.Proofs.YtgboomjahhnldaaGreatDoor.Ac
namespace Go.Proofs.YtgboomjahhnldaaGreatDoor.Ac
open Go.Proofs.Tryz
open Go.RowKit
theorem Qs(g cap n:Nat)(za zb zk:Int)(P X Y Z S:List (bM×bn))(fv:Value)(w:World)(hn:n<=1048576)(ZG:X.length=Z.length)(ha:za=(P.length:Nat))(hb:zb=(P.length+X.length+Y.length:Nat))(hk:zk=(X.length:Nat))(hw:Rw g cap n w (P++X++Y++Z++S)):
 Calls prog 148 #[.slice (some ⟨g,0,none⟩) n cap,.int .i64 za,.int .i64 zb,.int .i64 zk,fv] w fun e w'=>e=.returned (.tuple #[])/\Kp g w w'/\Rw g cap n w' (P++Z++Y++X++S):=by
 subst ha hb hk;exact Qr g cap n _ _ _ P X Y Z S fv w hn ZG rfl rfl rfl hw
structure QC (g cap n m:Nat) (R:List (bM×bn)) (i j:Nat) (w:World):Prop where
 ex:∃P U V S,U.length=i/\V.length=j/\P.length+i=m/\R=P++V++U++S/\Rw g cap n w (P++U++V++S)
theorem X9(g cap n s m b:Nat)(A U V D:List (bM×bn))(fv:Value)(w:World)(hn:n<=1048576)(hs:s=A.length)(hm:m=A.length+U.length)(hb:b=A.length+U.length+V.length)(hU:0<U.length)(hV:0<V.length)(hw:Rw g cap n w (A++U++V++D)):
 Calls prog 78 #[.slice (some ⟨g,0,none⟩) n cap,.int .i64 (s:Nat),.int .i64 (m:Nat),.int .i64 (b:Nat),fv] w fun e w'=>e=.returned (.tuple #[])/\Kp g w w'/\Rw g cap n w' (A++V++U++D):=by
 obtain⟨R,hR⟩:=aH (A++V++U++D);rw[hR];have hbn:b<=n:=by have:=hw.len;simp at this;omega
 have h0:QC g cap n m R (m-s) (b-m) w:=⟨A,U,V,D,by omega,by omega,by omega,hR.symm,hw⟩;have hsm:s<m:=by omega
 have hmb:m<b:=by omega
 clear hs hm hb hU hV hw hR;have AX:=ah Qs;go_enter func78,ntmps78
 go_wp2
 go_loopw [10,11] (fun vi vj wr=>∃i j:Nat,0<i/\0<j/\i<=m/\m+j<=n/\vi=.int .i64 (i:Nat)/\vj=.int .i64 (j:Nat)/\Kp g w wr/\QC g cap n m R i j wr) (fun vi vj _=>(intOf vi).toNat+(intOf vj).toNat)
 case atStart=>exact⟨m-s,b-m,by omega,by omega,by omega,by omega,by go_num,by go_num,Kp.refl _ _,h0⟩
 case round=>
  obtain⟨i,j,hi,hj,him,hjn,rfl,rfl,hkp,hst⟩:=hrel;obtain⟨P,U,V,S,hUi,hVj,hPm,hRe,hrw⟩:=hst;by_cases hij:i=j
  ·subst hij
   have d1:((i:Int) !=(i:Int))=false:=by simp
   have hc:=AX.out g cap n ((m:Int)-(i:Int)) (m:Int) (i:Int) P U [] V S fv wr hn (by omega) (by omega) (by simp;omega) (by omega) (by simpa using hrw);have HRe:=ah hRe;have Hc:=ah hc;clear hc hRe hrw hUi hVj hPm;go_wp2_with fail
   refine(Hc.out).mono ?_;rintro e w' ⟨rfl,hk',hr'⟩;have hr2:Rw g cap n w' R:=by rw[HRe.out];simpa using hr'
   clear hr';go_wp2
   (try simp only[Exit.inBlock,Exit.then])
   refine bodyPost_end (results_none rfl _ _ _) rfl ?_;exact⟨rfl,hkp.trans hk',hr2⟩
  ·have d1:((i:Int) !=(j:Int))=true:=by simp;omega
   have hlt:¬i>j->i<j:=by omega
   clear hij;by_cases hgt:i>j
   ·have d2:decide ((i:Int)>(j:Int))=true:=bJ (by omega)
    have e1:P++U++V++S=P++U.take j++U.drop j++V++S:=by simp
    rw[e1]at hrw;have hc:=AX.out g cap n ((m:Int)-(i:Int)) (m:Int) (j:Int) P (U.take j) (U.drop j) V S fv wr hn (by simp;omega) (by omega) (by simp;omega) (by simp;omega) hrw;have HRe:=ah (show R=(P++V)++U.take j++U.drop j++S by rw[hRe];simp);have Hlen:=ah (show(U.drop j).length=i-j/\(U.take j).length=j/\(P++V).length+(i-j)=m by simp;omega);have Hc:=ah hc;clear hc hRe hrw hUi hVj hPm e1;go_wp2_with fail
    refine(Hc.out).mono ?_;rintro e w' ⟨rfl,hk',hr'⟩;have lT:QC g cap n m R (i-j) j w':=⟨P++V,U.drop j,U.take j,S,Hlen.out.1,Hlen.out.2.1,Hlen.out.2.2,HRe.out,hr'⟩;clear hr';go_wp2;go_roundw
    case rel=>exact⟨i-j,j,by omega,hj,by omega,hjn,by go_num,rfl,hkp.trans hk',lT⟩
    case measure=>simp[intOf];omega
   ·have hlt:=hlt hgt
    have d2:decide ((i:Int)>(j:Int))=false:=aY (by omega);have e1:P++U++V++S=P++U++V.take (j-i)++V.drop (j-i)++S:=by simp
    rw[e1]at hrw;have hc:=AX.out g cap n ((m:Int)-(i:Int)) ((m:Int)+(j:Int)-(i:Int)) (i:Int) P U (V.take (j-i)) (V.drop (j-i)) S fv wr hn (by simp;omega) (by omega) (by simp;omega) (by omega) hrw;have HRe:=ah (show R=P++V.take (j-i)++V.drop (j-i)++(U++S) by rw[hRe];simp);have Hlen:=ah (show(V.drop (j-i)).length=i/\(V.take (j-i)).length=j-i/\P.length+i=m by simp;omega);have Hc:=ah hc;clear hc hRe hrw hUi hVj hPm e1;go_wp2_with fail
    refine(Hc.out).mono ?_;rintro e w' ⟨rfl,hk',hr'⟩;have lT:QC g cap n m R i (j-i) w':=⟨P,V.drop (j-i),V.take (j-i),U++S,Hlen.out.1,Hlen.out.2.1,Hlen.out.2.2,HRe.out,by simpa using hr'⟩;clear hr';go_wp2;go_roundw
    case rel=>exact⟨i,j-i,hi,by omega,him,by omega,rfl,by go_num,hkp.trans hk',lT⟩
    case measure=>simp[intOf];omega
end Go.Proofs.YtgboomjahhnldaaGreatDoor.Ac
