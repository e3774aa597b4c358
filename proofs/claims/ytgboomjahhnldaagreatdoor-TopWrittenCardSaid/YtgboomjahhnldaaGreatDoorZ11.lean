/- A part of the proof of TopWritten, printed small: TInsert TPtr TStrike. -/
import Derived.Test.YtgboomjahhnldaaGreatDoorZ10
import Derived.Test.YtgboomjahhnldaaGreatDoorZ06
set_option maxRecDepth 100000
set_option maxHeartbeats 25600000
set_option linter.all false
namespace Go.Proofs.YtgboomjahhnldaaGreatDoor
open Go.Proofs.Tryz Go.RowKit
def mQ{α:Type}(i:Nat)(x:α)(xs:List α):List α:=xs.take i++x::xs.drop i
def Gv(base i:Nat)(xs:List aB)(x:aB)(v:Value)(w:World)(e:Ending)(w':World):Prop:=∃v',e=.returned v'/\Own aj base w' v' (mQ i x xs)/\w.grownBy w' v.ownBlock/\(v'.ownBlock=v.ownBlock∨∃g,v'.ownBlock=some g/\w.heap.size<=g)
theorem aah{w w':World}(h:Ext w w')(g:Option Nat):w.grownBy w' g:=⟨h.os,h.tape,h.output,h.size,fun k hk _=>h.block hk⟩
theorem adz{g:Nat}{w w':World}(h:Kp g w w'):w.grownBy w' (some g):=⟨h.os,h.tape,h.output,h.size,fun k hk hne=>h.block k hk (fun e=>hne (by rw[e]))⟩
theorem XP(A:Option Addr)(c base:Nat)(xs:List aB)(x:aB)(vb:Nat)(w:World)(hown:Own aj base w (.slice A xs.length c) xs)(hc:xs.length<=c)(hs:Sl aj w A xs)(hn:xs.length<=1000)(hvb:Sl aj w (some ⟨vb,0,none⟩) [x])(hbase:base<=w.heap.size):
 Calls prog 104 #[.slice A xs.length c,.int .i64 (xs.length:Nat),.slice (some ⟨vb,0,none⟩) 1 1] w (Gv base xs.length xs x (.slice A xs.length c) w):=by
 have e1:mQ xs.length x xs=xs++[x]:=by simp[mQ]
 unfold Gv;rw[e1];obtain⟨n,hn2⟩:=aH (xs.length);have Hn:=ah hn2;have HO:=ah hown;have HV:=ah hvb;have HS:=ah hs;clear hown hvb hs e1;rw[hn2]at HO hc hn⊢;clear hn2;go_enter func104,ntmps104
 go_upto_region 2 with(refine Fv aj rfl (.tmp 10) (.tmp 11) rfl (nI (fun z=>Value.slice A z c) Hn.out.symm) (n:Int) rfl HS.out n rfl (by rw[Hn.out];exact aI _) (by rw[Hn.out];exact hc) ?_;intro A1 y1 c1 hy1 hc1 hs1;clear hy1 hc1 hs1)
 go_wp2_with (refine lq aj rfl (.tmp 23) (.tmp 24) rfl 1 rfl HO.out rfl HV.out (by simp;have:=Hn.out;omega) hbase ?_;intro v2 w2 hown2 hg2 hl2)
 go_ret;exact⟨v2,rfl,hown2,hg2,hl2.elim .inl (fun h=>.inr ⟨_,h,aI _⟩)⟩
theorem XQ(g c base ix:Nat)(xs:List aB)(x:aB)(vb:Nat)(w:World)(hown:Own aj base w (.slice (some ⟨g,0,none⟩) xs.length c) xs)(hi:ix<xs.length)(hn:xs.length<=1000)(hvb:w.heap[vb]? =some (.cells x.cells.toArray 30 (0,0)))(hne:vb≠g)(hbase:base<=w.heap.size):
 Calls prog 104 #[.slice (some ⟨g,0,none⟩) xs.length c,.int .i64 (ix:Nat),.slice (some ⟨vb,0,none⟩) 1 1] w (Gv base ix xs x (.slice (some ⟨g,0,none⟩) xs.length c) w):=by
 have hc:xs.length<=c:=by
  obtain⟨A',c',hv,hc,-⟩:=hown.form;cases hv
  exact hc
 have hcap:c<=maxLen:=by
  rcases hown.2 with⟨hv,_⟩|⟨g',cap,cur,hv,_,_,_,hcm,_⟩
  ·cases hv
  ·cases hv
   exact hcm
 have hcap2:c<=9223372036854775807:=by unfold maxLen at hcap;omega
 unfold Gv;obtain⟨n,hn2⟩:=aH (xs.length);have Hn:=ah hn2;have HO:=ah hown;have hgl:=(hown.lt g rfl).2;have HV:=ah hvb;have hvl:=ay hvb;rw[hn2]at hi hc hn⊢;clear hown hvb hn2 hcap;have f1:decide ((ix:Int)=(n:Int))=false:=aY (by omega);have Wn:((ix:Int)==(n:Int))=false:=by simp;omega
 go_enter func104,ntmps104
 go_upto_region 2 with(refine tX aj rfl (.tmp 10) (.tmp 11) rfl g n c ix rfl (ix:Int) rfl rfl (by omega) (by omega) hc ?_)
 by_cases hroom:n+1<=c
 ·have f2:decide ((c:Int)<(n:Int)+1)=false:=aY (by omega)
  have Ag:∃cur,w.heap[g]? =some (.cells cur 30 (0,0))/\cur.size=c*8:=by
   rcases HO.out.2 with⟨hv,_⟩|⟨g',cap,cur,hv,_,hh,_,_,hcs,_⟩
   ·cases hv
   ·cases hv
    exact⟨cur,hh,hcs⟩
  obtain⟨cur,Ag,hcs⟩:=Ag
  have hov:∀lb cb,(callFunc 172 #[.slice (some ⟨vb,0,none⟩) 1 1,.slice (some ⟨g,(ix+1)*aj.m,none⟩) lb cb]).run prog w=.ok (.value (.bool false)) w:=fun lb cb=>by
   rw[run_callFunc_extern func172 (by kernel_rfl) (by kernel_rfl) (by kernel_rfl) (e:=Extern.SlicesOverlaps.overlaps #[28,28] #[4]) (by kernel_rfl),
    Lib.run_overlaps_apart w 28 4 30 underlying28 8 sizeOf30 ⟨vb,0,none⟩ ⟨g,(ix+1)*aj.m,none⟩ 1 1 lb cb hne 30 30 8 cur.size (by simp[World.shape?,HV.out,aB.cells]) (by simp[World.shape?,Ag]) (by omega) (by simp[World.frozen?,HV.out]) (by simp[World.frozen?,HV.out])]
   rfl
  clear Ag hcs;go_upto_region 15 with(first|(refine Gu aj rfl (.tmp 56) (.tmp 59) rfl g n c (n+1) rfl ((n:Int)+1) rfl (by simp) hroom hc ?_)|(refine tX aj rfl (.tmp 62) (.tmp 65) rfl g (n+1) c (ix+1) rfl ((ix:Int)+1) rfl (by simp) (by omega) (by omega) hroom ?_)|(simp only[hov]))
  clear hov;refine iJ 8 (fun i=>match i with|0=>Ty.is (.slice (some ⟨g,0,none⟩) (n+1) c)|1=>Ty.is (.int .i64 (ix:Nat))|2=>Ty.is (.int .i64 1)|3=>Ty.is (.int .i64 ((ix+1:Nat):Int))|4=>Ty.is (.slice (some ⟨g,(ix+1)*8,none⟩) (n+1-(ix+1)) (c-(ix+1)))|5=>Ty.is (.slice (some ⟨g,0,none⟩) (n+1) c)|6=>Ty.is (.int .i64 (ix:Nat))|7=>Ty.is (.slice (some ⟨g,ix*8,none⟩) (n+1-ix) (c-ix))|_=>Ty.any) (by kernel_rfl) (by kernel_rfl) (by kernel_rfl) (by decide) rfl ?_;intro v;refine⟨?_,?_,?_,?_,?_,?_,?_,?_,?_⟩
  ·exact fun wq hq _=>ak rfl (aF (.tmp 0) rfl rfl rfl)
  ·exact fun wq hq _=>ak rfl (aF (.tmp 1) rfl rfl rfl)
  ·exact fun wq hq _=>ak rfl (aF (.tmp 7) rfl rfl rfl)
  ·rintro wq hq ⟨h0,h1,-⟩;exact ak rfl (eF .add 3 3 (.tmp 70) (.tmp 71) rfl _ _ h0 h1 (fun w=>(oF _ _ _ (by omega) (by omega) w).trans (by simp)) rfl)
  ·rintro wq hq ⟨h0,h1,-⟩
   change v 0=_ at h0;change v 3=_ at h1;refine ak rfl ?_;exact zl aj (.tmp 69) (.tmp 72) rfl g (n+1) c (ix+1) h0 h1 (by omega) (by omega) (by omega) rfl
  ·exact fun wq hq _=>ak rfl (aF (.tmp 0) rfl rfl rfl)
  ·exact fun wq hq _=>ak rfl (aF (.tmp 1) rfl rfl rfl)
  ·rintro wq hq ⟨h0,h1,-⟩
   change v 5=_ at h0;change v 6=_ at h1;refine ak rfl ?_;exact zl aj (.tmp 74) (.tmp 75) rfl g (n+1) c ix h0 h1 (by omega) (by omega) (by omega) rfl
  ·intro wq hq hT
   have k4:=hT 4 (by decide);change v 4=_ at k4;have k7:=hT 7 (by decide);change v 7=_ at k7;clear hT;simp only[List.drop_succ_cons,List.drop_zero,gH,dK,List.set_cons_succ,List.set_cons_zero,Nat.reduceAdd];rw[k4];rw[k7];obtain⟨ys,hys⟩:=aH (xs.take (ix+1)++xs.drop ix);have hyl:ys.length=n+1:=by have:=Hn.out;rw[<-hys];simp;omega
   have hy1:ys.take ix=xs.take ix:=by have:=Hn.out;rw[<-hys,Ee (by simp;omega),List.take_take,jF (by omega)]
   have hy2:ys.drop (ix+1)=xs.drop ix:=by have:=Hn.out;rw[<-hys,List.drop_left' (by simp;omega)]
   have JB:Own aj base wq (.slice (some ⟨g,0,none⟩) xs.length c) xs:=HO.out.ext hq
   obtain⟨w2,hr2,hk2,hown2⟩:=Own.copy aj (zs:=xs.drop ix) JB (ix+1) (by rw[Hn.out];omega) (by rw[jV,Hn.out];omega) g (ix*8) (fun j u hu=>by
    obtain⟨A',c',hv,-,hs⟩:=JB.form;cases hv
    obtain⟨b,off,hA,-,hcc⟩:=hs (by intro e;have:=Hn.out;rw[e]at this;simp at this;omega);cases hA
    have h2:=hcc (ix*8+j) u (by
     rw[<-jl ix xs,aj.dF,nJ (by rw[aj.aX,fu,Hn.out,jF (by omega)];exact Nat.le_add_right _ _),aj.aX,fu,Hn.out,jF (by omega)];rw[<-hu]
     congr 1
     exact Nat.add_sub_cancel_left _ _)
    rwa[bV]at h2) (n+1-ix) (c-ix) (n+1-(ix+1)) (c-(ix+1)) (by rw[jV,Hn.out];simp only[Nat.min_def];split<;>omega)
   rw[show xs.drop (ix+1+(xs.drop ix).length)=[]from mH (by rw[jV,Hn.out];omega),kY,hys,hyl]at hown2;have hkq:Kp g w w2:=(Kp.dH hq).trans hk2;have hv2:w2.heap[vb]? =some (.cells x.cells.toArray 30 (0,0)):=(hkq.block vb hvl hne).trans HV.out
   obtain⟨w3,hr3,hk3,hown3⟩:=Own.copy aj (zs:=[x]) (by rw[hyl];exact hown2) ix (by omega) (by simp;omega) vb 0 (fun j u hu=>by
    rw[bV];simp only[World.cell?,hv2];rw[aj.yP]at hu;simpa[aj]using hu) 1 1 (n+1-ix) (c-ix) (by simp only[Nat.min_def,iX,List.length_nil];split<;>omega)
   have e3:ys.take ix++[x]++ys.drop (ix+[x].length)=mQ ix x xs:=by
    rw[iX,List.length_nil,bV,hy1,hy2,dV,List.singleton_append];rfl
   have e4:(mQ ix x xs).length=n+1:=by rw[<-e3];simp;omega
   rw[e3,e4]at hown3;have xU:=ah hr2;have BN:=ah hr3;have hO3:=ah hown3;have uS:=ah (hkq.trans hk3);clear hys hyl hy1 hy2 JB hr2 hk2 hown2 hr3 hk3 hown3 e3 e4 hv2 hkq;go_wp2_with (first|(refine zm aj rfl (.tmp 73) (.tmp 76) rfl _ _ rfl rfl xU.out ?_)|(refine tX aj rfl (.tmp 78) (.tmp 79) rfl g (n+1) c ix rfl (ix:Int) rfl rfl (by omega) (by omega) hroom ?_)|(refine zm aj rfl (.tmp 80) (.tmp 81) rfl _ _ rfl rfl BN.out ?_))
   go_ret;exact⟨_,rfl,hO3.out,adz uS.out,.inl rfl⟩
 ·have f2:decide ((c:Int)<(n:Int)+1)=true:=bJ (by omega)
  have hsl:Sl aj w (some ⟨g,0,none⟩) (xs.take ix):=by
   obtain⟨A',c',hv,-,hs⟩:=HO.out.form;cases hv
   exact hs.take ix
  obtain⟨w1,c2,hr1,hc2,hx1,hown1⟩:=RP aj (ys:=xs) dU rfl 3 underlying3 ix (n+1-ix) c (some ⟨g,0,none⟩) hsl (by rw[Hn.out];omega) (by omega) (by omega) (by omega) hbase;have en:ix+(n+1-ix)=n+1:=by omega
  rw[en]at hr1 hc2 hown1;have Hr1:=ah hr1;have hw1:w.heap.size<w1.heap.size:=(hown1.lt _ rfl).2;have H1:=ah hown1;obtain⟨ys,hys⟩:=aH (xs.take ix++List.replicate (n+1-ix) dU);have hyl:ys.length=n+1:=by have:=Hn.out;rw[<-hys];simp;omega
  have hy1:ys.take ix=xs.take ix:=by have:=Hn.out;rw[<-hys,Ee (by simp;omega),List.take_take,Nat.min_self]
  rw[hys]at hown1;have hv1:w1.heap[vb]? =some (.cells x.cells.toArray 30 (0,0)):=(hx1.block hvl).trans HV.out
  obtain⟨w2,hr2,hk2,hown2⟩:=Own.copy aj (zs:=[x]) (by rw[hyl];exact hown1) ix (by omega) (by simp;omega) vb 0 (fun j u hu=>by
   rw[bV];simp only[World.cell?,hv1];rw[aj.yP]at hu;simpa[aj]using hu) 1 1 (n+1-ix) (c2-ix) (by simp only[Nat.min_def,iX,List.length_nil];split<;>omega)
  obtain⟨zs,hzs⟩:=aH (ys.take ix++[x]++ys.drop (ix+[x].length));have hzl:zs.length=n+1:=by rw[<-hzs];simp;omega
  have hz1:zs.take (ix+1)=xs.take ix++[x]:=by
   have:=Hn.out;have hl:(ys.take ix++[x]).length=ix+1:=by simp;omega
   rw[<-hzs,<-hl,List.take_left,hy1]
  rw[hzs,hzl]at hown2;have hx2:Ext w w2:=hk2.uZ hx1 (aI _);have xU:=ah hr2;have H2:=ah hown2;have DR:=ah hzl;have Hz1:=ah hz1;have hw2:w.heap.size<w2.heap.size:=(hown2.lt _ rfl).2;clear hsl hr1 en hown1 hys hyl hy1 hv1 hr2 hown2 hzs hzl hz1 hk2;go_upto_region 11 with(first|(refine Gu aj rfl (.tmp 32) (.tmp 33) rfl g n c ix rfl (ix:Int) rfl rfl (by omega) hc ?_)|(refine Vm aj rfl 3 (.tmp 34) (.tmp 39) rfl _ _ rfl (ZC (by omega)) Hr1.out ?_)|(refine tX aj rfl (.tmp 41) (.tmp 42) rfl w.heap.size (n+1) c2 ix rfl (ix:Int) rfl rfl (by omega) (by omega) hc2 ?_)|(refine zm aj rfl (.tmp 43) (.tmp 44) rfl _ _ rfl rfl xU.out ?_))
  refine iJ 8 (fun i=>match i with|0=>Ty.is (.slice (some ⟨w.heap.size,0,none⟩) (n+1) c2)|1=>Ty.is (.int .i64 (ix:Nat))|2=>Ty.is (.int .i64 1)|3=>Ty.is (.int .i64 ((ix+1:Nat):Int))|4=>Ty.is (.slice (some ⟨w.heap.size,(ix+1)*8,none⟩) (n+1-(ix+1)) (c2-(ix+1)))|5=>Ty.is (.slice (some ⟨g,0,none⟩) n c)|6=>Ty.is (.int .i64 (ix:Nat))|7=>Ty.is (.slice (some ⟨g,ix*8,none⟩) (n-ix) (c-ix))|_=>Ty.any) (by kernel_rfl) (by kernel_rfl) (by kernel_rfl) (by decide) rfl ?_;intro v;refine⟨?_,?_,?_,?_,?_,?_,?_,?_,?_⟩
  ·exact fun wq hq _=>ak rfl (aF (.tmp 9) rfl rfl rfl)
  ·exact fun wq hq _=>ak rfl (aF (.tmp 1) rfl rfl rfl)
  ·exact fun wq hq _=>ak rfl (aF (.tmp 7) rfl rfl rfl)
  ·rintro wq hq ⟨h0,h1,-⟩;exact ak rfl (eF .add 3 3 (.tmp 47) (.tmp 48) rfl _ _ h0 h1 (fun w=>(oF _ _ _ (by omega) (by omega) w).trans (by simp)) rfl)
  ·rintro wq hq ⟨h0,h1,-⟩
   change v 0=_ at h0;change v 3=_ at h1;refine ak rfl ?_;exact zl aj (.tmp 46) (.tmp 49) rfl w.heap.size (n+1) c2 (ix+1) h0 h1 (by omega) (by omega) (by omega) rfl
  ·exact fun wq hq _=>ak rfl (aF (.tmp 0) rfl rfl rfl)
  ·exact fun wq hq _=>ak rfl (aF (.tmp 1) rfl rfl rfl)
  ·rintro wq hq ⟨h0,h1,-⟩
   change v 5=_ at h0;change v 6=_ at h1;refine ak rfl ?_;exact zl aj (.tmp 51) (.tmp 52) rfl g n c ix h0 h1 (by omega) (by omega) (by omega) rfl
  ·intro wq hq hT
   have k4:=hT 4 (by decide);change v 4=_ at k4;have k7:=hT 7 (by decide);change v 7=_ at k7;clear hT;simp only[List.drop_succ_cons,List.drop_zero,gH,dK,List.set_cons_succ,List.set_cons_zero,Nat.reduceAdd];rw[k4];rw[k7];have sP:Ext w wq:=hx2.trans hq;have JB:=HO.out.ext sP
   obtain⟨w3,hr3,hk3,hown3⟩:=Own.copy aj (zs:=xs.drop ix) (by rw[DR.out];exact H2.out.ext hq) (ix+1) (by rw[DR.out];omega) (by rw[jV,Hn.out];omega) g (ix*8) (fun j u hu=>by
    obtain⟨A',c',hv,-,hs⟩:=JB.form;cases hv
    obtain⟨b,off,hA,-,hcc⟩:=hs (by intro e;have:=Hn.out;rw[e]at this;simp at this;omega);cases hA
    have h2:=hcc (ix*8+j) u (by
     rw[<-jl ix xs,aj.dF,nJ (by rw[aj.aX,fu,Hn.out,jF (by omega)];exact Nat.le_add_right _ _),aj.aX,fu,Hn.out,jF (by omega)];rw[<-hu]
     congr 1
     exact Nat.add_sub_cancel_left _ _)
    rwa[bV]at h2) (n-ix) (c-ix) (n+1-(ix+1)) (c2-(ix+1)) (by rw[jV,Hn.out];simp only[Nat.min_def];split<;>omega)
   have e3:zs.take (ix+1)++xs.drop ix++zs.drop (ix+1+(xs.drop ix).length)=mQ ix x xs:=by
    have e5:zs.drop (ix+1+(xs.drop ix).length)=[]:=mH (by rw[jV,Hn.out,DR.out];omega);rw[e5,Hz1.out,kY,dV,List.singleton_append];rfl
   have e4:(mQ ix x xs).length=n+1:=by rw[<-e3];have:=Hn.out;have:=DR.out;simp;omega
   rw[e3,e4]at hown3;have BN:=ah hr3;have hO3:=ah hown3;have eU:=ah (hk3.uZ sP (aI _));clear JB hr3 hk3 hown3 e3 e4;go_wp2_with (refine zm aj rfl (.tmp 50) (.tmp 53) rfl _ _ rfl rfl BN.out ?_)
   go_ret;exact⟨_,rfl,hO3.out,aah eU.out _,.inr ⟨_,rfl,aI _⟩⟩
section
variable {P:Program} {α:Type} {w:World} {ρ:Operand->Value} {o:Oper} {T:Value->World->Prop}
theorem Gw(D:El P α)(x i:Operand)(ho:o.op=.indexAddr D.t x i)(b n c k:Nat)(hx:ρ x=.slice (some ⟨b,0,none⟩) n c)(hi:ρ i=.int .i64 (k:Nat))(hk:k<n)(h:T (.pointer (some ⟨b,k*D.m,none⟩)) w):bL P ρ o w T:=by
 obtain⟨i',hi',_,hsz,_⟩:=info_parts D.hi;have hs:∀w,(sizeOf D.e).run P w=.ok D.m w:=fun w=>by simp[sizeOf,typeInfo,hi',hsz]
 have ea:((⟨b,0,none⟩:Addr).add (k*D.m))=⟨b,k*D.m,none⟩:=by
  unfold Addr.add
  split
  ·rename_i h0;simp[h0]
  ·simp
 refine eT (w':=w) (v:=.pointer (some ⟨b,k*D.m,none⟩)) ?_ (Ext.refl _) h;simp[execOp,ho,hx,hi,Instr.indexAt,asIntOf,run_underlying D.ht,hs,hk,ea]
theorem mX(s f:Nat)(x:Operand)(ho:o.op=.fieldAddr s x f)(fs:Array Field)(hs:P.underlying s=some (.struct fs))(kF:Field)(hf:fs[f]? =some kF)(m:Nat)(hm:∀w,(sizeOf kF.type).run P w=.ok m w)(hm0:m≠0)(b off:Nat)(hx:ρ x=.pointer (some ⟨b,off,none⟩))
 (h:T (.pointer (some ⟨b,off+kF.offset,none⟩)) w):bL P ρ o w T:=by
 have ea:((⟨b,off,none⟩:Addr).add kF.offset)=⟨b,off+kF.offset,none⟩:=by
  unfold Addr.add
  split
  ·rename_i h0;simp[h0]
  ·rfl
 refine eT (w':=w) (v:=.pointer (some ⟨b,off+kF.offset,none⟩)) ?_ (Ext.refl _) h;simp[execOp,ho,hx,Instr.fieldAt,run_underlying hs,hf,Instr.sureAddr,fieldPlace,hm,hm0,ea]
theorem ahR(x y:Operand)(ho:o.op=.call {callee:=.builtin .max,args:= #[x,y],argTypes:= #[3,3]})(hP:P=prog)(a b:Int)(hx:ρ x=.int .i64 a)(hy:ρ y=.int .i64 b)(h:T (.int .i64 (max a b)) w):bL P ρ o w T:=by
 subst hP;have u:=underlying3;refine eT (w':=w) (v:=.int .i64 (max a b)) ?_ (Ext.refl _) h;simp only[execOp,ho,resolve,invoke,builtin,List.map_toArray,gX,List.map_nil,hx,hy]
 go_simp
 split<;>omega
variable {ops:Array Oper} {rest:List Oper} {a:Act} {Q:Exit->Act->World->Prop} {base:Nat} {xs:List α}
theorem Qp(D:El P α)(hgd:o.guard=none)(ty:TypeId)(x y:Operand)(ho:o.op=.store ty x y)(g c k j off:Nat)(r:α)(u:Value)(hx:a.eval x=.pointer (some ⟨g,off,none⟩))(hoff:off=k*D.m+j)(hy:a.eval y=u)(hu:u.cells.toList=[u])(hu1:u.oneCell'=true)
 (hsz:∀w,(sizeOf ty).run P w=.ok 1 w) (hown:Own D base w (.slice (some ⟨g,0,none⟩) xs.length c) xs) (hk:k<xs.length) (hj:j<D.m) (hr:D.E r=(D.E xs[k]).set j u)
 (h:∀w',(∀k,k≠g->w'.heap[k]? =w.heap[k]?)->w'.os=w.os->w'.tape=w.tape->w'.output=w.output->w'.heap.size=w.heap.size->Own D base w' (.slice (some ⟨g,0,none⟩) xs.length c) (xs.set k r)->wpList P ops Q rest (a.put o.dst undef) w'):
 wpList P ops Q (o::rest) a w:=by
 rcases hown.2 with⟨hv,h0⟩|⟨g',cap,cur,hv,hg,hh,hn,hc,hcs,ht⟩
 ·cases hv
 ·cases hv
  have hkm:k*D.m+D.m<=xs.length*D.m:=by rw[<-Nat.succ_mul];exact Nat.mul_le_mul_right _ hk
  have hcm:xs.length*D.m<=cur.size:=by rw[hcs];exact Nat.mul_le_mul_right _ hn
  refine aP hgd ty x y ho g off u hx hy [u] hu (fun w=>hsz w) (fun v hv=>by simp at hv;subst hv;exact hu1) D.e cur hh (by simp;omega) fun w' h1 h2 h3 h4 h5 h6=>h w' h1 h2 h3 h4 h5 ?_;subst hoff;have hfl:=D.aX xs
  have hfs:D.flat (xs.set k r)=(D.flat xs).set (k*D.m+j) u:=by
   have e0:xs=xs.take k++[xs[k]]++xs.drop (k+1):=by
    rw[dV,List.singleton_append,<-iW hk,jl]
   have e1:xs.set k r=xs.take k++[r]++xs.drop (k+1):=by rw[List.set_eq_take_append_cons_drop,bH hk];simp
   have hA:(D.flat (xs.take k)).length=k*D.m:=by rw[D.aX,fu,jF (by omega)]
   have e2:D.flat xs=D.flat (xs.take k)++D.E xs[k]++D.flat (xs.drop (k+1)):=by
    conv=>lhs;rw[e0]
    rw[D.dF,D.dF,D.yP]
   rw[e1,D.dF,D.dF,D.yP,hr,e2,List.set_append_left _ _ (by rw[eu,hA,D.hE];omega),List.set_append_right _ _ (by rw[hA];omega),hA]
   congr 3
   omega
  refine⟨by rw[D.aX,List.length_set],.inr ⟨g,c,_,by rw[List.length_set],hg,h6,by rw[List.length_set];omega,hc,by simp;omega,?_⟩⟩;rw[List.length_set,hfs,<-ht];apply List.ext_getElem?;intro n;have hcl:cur.toList.length=cur.size:=lK;simp only[List.getElem?_take,List.getElem?_set,fu,hcl];by_cases hn1:n<xs.length*D.m
  ·rw[bH hn1,bH hn1]
   by_cases hn2:k*D.m+j=n
   ·subst hn2
    rw[bH rfl,bH (by omega),dV,nJ (by simp;omega),fu,hcl,jF (by omega)];simp
   ·rw[aU hn2]
    rcases gM n (k*D.m+j)with h7|h7
    ·rw[dV,Ef (by simp;omega),List.getElem?_take,bH h7]
    ·rw[nJ (by simp;omega)]
     simp only[eu,fu,hcl,iX,List.length_nil,List.getElem?_drop]
     congr 1
     omega
  ·rw[aU hn1,aU hn1]
   simp[hn1];omega
end
section
variable {P:Program} {ρ:Operand->Value} {o:Oper} {w:World} {T:Value->World->Prop} {c:Value}
theorem rG(x:Operand)(ho:o.op=.nilCheck x){ad:Addr}(hx:ρ x=.pointer (some ad))(h:T (.pointer (some ad)) w):bL P ρ o w T:=by
 refine eT (w':=w) (v:=.pointer (some ad)) ?_ (Ext.refl _) h;simp only[execOp,ho,hx]
 go_simp
theorem oq(t:TypeId)(x:Operand)(ho:o.op=.load t x)(ha:∀w,(isAgg t).run P w=.ok false w)(q:Addr)(hx:ρ x=.pointer (some q))(hc:w.cell? q=some c)(h:T c w):bL P ρ o w T:=by
 refine eT (w':=w) (v:=c) ?_ (Ext.refl _) h;simp[execOp,ho,hx,Instr.loadAt,Instr.sureAddr,loadVar,ha,load,Sem.run,hc]
theorem Ez{I:Wd}(f:FuncId)(hf:∀args w,(callFunc f args).run P w=.ok (.enter f args) w)(xs:List Operand)(ts:Array TypeId)(ho:o.op=.call {callee:=.value (.func f),args:=xs.toArray,argTypes:=ts})(hfn:ρ (.func f)=.func (.func f) #[] #[])
 (vs:List Value) (hv:Br ρ xs vs) (h:Calls P f vs.toArray w fun e w''=>∃v,e=.returned v/\I.p w''/\T v w''):Cw P ρ o I w T:=by
 have hr:(execOp ρ o).run P w=.ok (.enter f vs.toArray) w:=by
  have:=hv.map;simp[execOp,ho,resolve,Deferred.ofValue,hfn,invoke,this,hf]
 unfold Cw;rw[hr];exact h
end
theorem aai(B j:Nat)(w0:World)(d:Nat->Bool)(hB:B<w0.heap.size)(hc:w0.cell? ⟨B,0,none⟩=some (.int .i64 (j:Nat))):Dc 174 #[.pointer (some ⟨B,0,none⟩)] (fun x=>x.dJ (x.kids.eraseIdx j)) (fun x=>j<x.kids.length) w0 d:=by
 intro w b p x r hx hpb hbn hp hblk hU hok hj;obtain⟨rs,hown,hall,hg0⟩:=hU.k;have hrl:=hall.length;have hc0:=(hx.cell (p:=⟨B,0,none⟩) hB).trans hc;have XR:=hok.all.head.2.2.2.1;obtain⟨g,c,hv⟩:=hown.Dz (by intro e;rw[e]at hrl;simp at hrl;omega);have hgb:=hg0 g (by rw[hv];rfl)
 have hcr:w.cell? ⟨b,7,none⟩=some (.slice (some ⟨g,0,none⟩) rs.length c):=by
  rw[<-hv];simp[World.cell?,hblk,aB.cells]
 rw[hv]at hown;have hgl:=hown.lt g rfl;obtain⟨SV,Gx⟩:=aH (Value.slice (some ⟨g,0,none⟩) rs.length c);obtain⟨RV,hRV⟩:=aH (Value.slice (some ⟨g,0,none⟩) (rs.length-1) c);have ajb:=ah (fun wq (he:Ext w wq)=>Vl g c j w0.heap.size rs wq (hown.ext he) (by omega) (by omega));rw[Gx]at hcr ajb;have Hcr:=ah hcr;have Wo:=ah hc0;have HU:=ah hU;have RQ:=ah hblk;have hbl:=ay hblk;have xS:=ah hpb;have Hp:=ah hp;change Calls _ _ #[.pointer (some ⟨b,0,none⟩),.pointer (some ⟨B,0,none⟩)] _ _;clear hcr hc0 hU hpb hp hblk;go_enter func174,ntmps174
 refine p8 (J:=⟨fun W=>Ext w W,fun _ _ h he=>h.trans he⟩) (w0:=⟨fun W=>Kp g w W/\Own aj w0.heap.size W RV (rs.eraseIdx j),fun _ _ h he=>⟨h.1.trans (Kp.dH he),h.2.ext he⟩⟩) (Ext.refl w) (fun _ _=>True) 11 8 [1,2,3,4,5,6,7] (fun i=>match i with|0=>Ty.is (.pointer (some ⟨b,0,none⟩))|1=>Ty.is (.pointer (some ⟨b,0,none⟩))|2=>Ty.is (.pointer (some ⟨b,0,none⟩))|3=>Ty.is (.pointer (some ⟨b,7,none⟩))|4=>Ty.is SV|5=>Ty.is (.int .i64 (j:Nat))|6=>Ty.is (.int .i64 (j:Nat))|7=>Ty.is (.int .i64 ((j+1:Nat):Int))|9=>Ty.is (.pointer (some ⟨b,0,none⟩))|10=>Ty.is (.pointer (some ⟨b,7,none⟩))|_=>Ty.any) (fun i=>match i with|0=>Ty.is (.pointer (some ⟨b,0,none⟩))|8=>Ty.is RV|9=>Ty.is (.pointer (some ⟨b,0,none⟩))|10=>Ty.is (.pointer (some ⟨b,7,none⟩))|_=>Ty.any) (by kernel_rfl) (by kernel_rfl) (by kernel_rfl) (by kernel_rfl) (by decide) (by decide) (by kernel_rfl) ?_ ?_
 ·intro i hi v w1 w2 _ hx
  match i,hi,hx with
  |0,_,hx=>exact hx
  |1,_,_=>trivial
  |2,_,_=>trivial
  |3,_,_=>trivial
  |4,_,_=>trivial
  |5,_,_=>trivial
  |6,_,_=>trivial
  |7,_,_=>trivial
  |8,hi,_=>exact absurd rfl hi
  |9,_,hx=>exact hx
  |10,_,hx=>exact hx
  |_+11,_,_=>trivial
 intro v;refine⟨nR (by decide) ?_ ?_,dx (by decide) rfl ?_,dx (by decide) rfl ?_,dx (by decide) rfl ?_,dx (by decide) rfl ?_,dx (by decide) rfl ?_,dx (by decide) rfl ?_,dx (by decide) rfl ?_,yO rfl ?_,nR (by decide) ?_ ?_,nR (by decide) ?_ ?_,?_⟩
 ·intro wq hq hd
  exact aF (.tmp 0) rfl rfl rfl
 ·intro _ wq hq hd
  exact aF (.tmp 0) rfl rfl rfl
 ·intro wq hq hd
  exact aF (.tmp 0) rfl rfl rfl
 ·rintro wq hq ⟨h0,-⟩
  change v 1=_ at h0;exact rG (.tmp 4) rfl h0 rfl
 ·rintro wq hq ⟨h0,-⟩
  change v 2=_ at h0;exact mX 30 5 (.tmp 5) rfl _ underlying30 _ rfl 1 sizeOf28 (by decide) b 0 h0 rfl
 ·rintro wq hq ⟨h0,-⟩
  change v 3=_ at h0;exact oq 28 (.tmp 6) rfl isAgg28 ⟨b,7,none⟩ h0 ((hq.cell (p:=⟨b,7,none⟩) hbl).trans Hcr.out) rfl
 ·intro wq hq hd
  exact oq 3 (.tmp 1) rfl isAgg3 ⟨B,0,none⟩ rfl ((hq.cell (p:=⟨B,0,none⟩) (bQ hB hx.size)).trans Wo.out) rfl
 ·intro wq hq hd
  exact oq 3 (.tmp 1) rfl isAgg3 ⟨B,0,none⟩ rfl ((hq.cell (p:=⟨B,0,none⟩) (bQ hB hx.size)).trans Wo.out) rfl
 ·rintro wq hq ⟨h0,-⟩
  change v 6=_ at h0;exact eF .add 3 3 (.tmp 9) (.const (.int .i64 1)) rfl _ _ h0 rfl (fun w=>(oF _ _ _ (by omega) (by omega) w).trans (by simp)) rfl
 ·intro wq hq hd
  have h4:v 4=_:=hd 4 rfl;have h5:v 5=_:=hd 5 rfl;have h7:v 7=_:=hd 7 rfl;refine Ez 175 call175 _ _ rfl rfl [_,_,_] ⟨h4,h5,h7,trivial⟩ ?_;refine(ajb.out wq hq).mono ?_;rintro e w' ⟨n',rfl,rfl,h1,h2⟩;exact⟨_,rfl,⟨(Kp.dH hq).trans h2,by rw[<-hRV];exact h1⟩,hRV,trivial⟩
 ·rintro wq hq ⟨h0,-⟩
  change v 0=_ at h0;exact rG (.tmp 3) rfl h0 rfl
 ·intro _ wq hq hd
  obtain⟨h0,-⟩:=hd;change v 0=_ at h0;exact rG (.tmp 3) rfl h0 rfl
 ·rintro wq hq ⟨h0,-⟩
  change v 9=_ at h0;exact mX 30 5 (.tmp 12) rfl _ underlying30 _ rfl 1 sizeOf28 (by decide) b 0 h0 rfl
 ·intro _ wq hq hd
  obtain⟨h0,-⟩:=hd;change v 9=_ at h0;exact mX 30 5 (.tmp 12) rfl _ underlying30 _ rfl 1 sizeOf28 (by decide) b 0 h0 rfl
 ·intro wq hq hT
  have k8:=hT 8 (by decide);have k10:=hT 10 (by decide);change v 10=_ at k10;clear hT;simp only[List.drop_succ_cons,List.drop_zero,gH,dK,List.set_cons_succ,List.set_cons_zero,Nat.reduceAdd];rw[k10];change v 8=_ at k8;rw[k8,<-hRV];obtain⟨hkq,JB⟩:=hq;rw[<-hRV]at JB;have hbq:=(hkq.block b hbl (fun e=>hgb.1 e.symm)).trans RQ.out;have HO:=ah JB;have Hk:=ah hkq;clear hkq JB;go_wp2_with (refine aP rfl 28 (.tmp 13) (.tmp 11) rfl b 7 (.slice (some ⟨g,0,none⟩) (rs.length-1) c) rfl rfl [.slice (some ⟨g,0,none⟩) (rs.length-1) c] rfl sizeOf28 (by simp[Value.oneCell']) 30 _ hbq (by simp[aB.cells]) ?_;intro w4 hw4 dP dQ dR hs4 eX)
  have hk4:w4.heap[b]? =some (.cells (aB.cells {r with kA:=some ⟨g,0,none⟩,kn:=rs.length-1,kc:=c}).toArray 30 (0,0)):=eX.trans (by simp[aB.cells]);refine bodyPost_end (results_none rfl _ _ _) rfl ?_;have hkeep:∀k,k<w.heap.size->k≠b->k≠g->w4.heap[k]? =w.heap[k]? :=fun k hk h1 h2=>(hw4 k h1).trans (Hk.out.block k hk h2);have hO4:=HO.out.keep (w':=w4) (fun gg hgg=>hw4 gg (by cases hgg;exact hgb.1));obtain⟨A4,c4,hv4,hc4,-,Gr⟩:=hO4.kG (p:=p) (fun gg _ hgg=>by cases hgg;exact hgb.2);have hel:(rs.eraseIdx j).length=rs.length-1:=by rw[List.length_eraseIdx,bH (by omega)]
  rw[hel]at hv4 hc4;cases hv4
  have hsz:=Hk.out.size
  have oG:aZ (mask (FC p (.slice r.kA r.kn r.kc)) w) (mask p w4):=aZ.keep (by omega) fun k hk hpk=>by
   obtain⟨h1,h2⟩:=Gq hpk;rw[hv]at h2;exact⟨hkeep k hk (by rintro rfl;rw[xS.out]at h1;cases h1) (by rintro rfl;exact h2 rfl),h1⟩
  have U:=HU.out
  refine⟨rfl,_,hk4,Reads.of (by rw[xR];exact U.id) (by rw[sU];exact U.kind) (by rw[rT];exact U.label) (by rw[iL];exact U.hn) (by rw[iL];exact U.hc) (by rw[iL];exact U.hs.cin oG) (by rw[iy];exact U.wn) (by rw[iy];exact U.wc) (by rw[iy];exact U.ws.cin oG)
   (by rw[iM,List.length_eraseIdx,bH hj,<-hrl]) (by rw[iM,List.length_eraseIdx,bH hj,<-hrl];exact hc4) Gr (by rw[iM];exact ReadsAll.cin oG _ _ (hall.erase j)),⟨dP.trans Hk.out.os,dQ.trans Hk.out.tape,dR.trans Hk.out.output,by rw[hs4];exact hsz,fun k hk h1 h2=>hkeep k hk h1 (fun e=>h2 (by rw[e];rfl))⟩⟩
def AQ(n:Nat)(q:aB):Ty:=⟨fun v w=>∃vb,v=.slice (some ⟨vb,0,none⟩) 1 1/\n<=vb/\w.heap[vb]? =some (.cells q.cells.toArray 30 (0,0)),fun _ _ _ he ⟨vb,h1,h2,h3⟩=>⟨vb,h1,h2,(he.block (ay h3)).trans h3⟩⟩
def QA(base n:Nat)(SV:Value)(xs:List aB):Ty:=⟨fun v w=>Own aj base w v xs/\(v.ownBlock=SV.ownBlock∨∃g,v.ownBlock=some g/\n<=g),fun _ _ _ he ⟨h1,h2⟩=>⟨h1.ext he,h2⟩⟩
theorem Kq{ρ:Operand->Value}{o:Oper}{w:World}{n:Nat}{q:aB}(x:Operand)(ho:o.op=.buildSlice 28 1 #[(0,x)])(hx:ρ x=.agg (aj.E q).toArray)(hn:n<=w.heap.size):bL prog ρ o w (AQ n q).p:=by
 have hr:=Bw aj (.agg (aj.E q).toArray) q rfl (by decide) w;refine eT (w':=w.alloc (.cells (aj.E q).toArray 30)) (v:=.slice (some ⟨w.heap.size,0,none⟩) 1 1) ?_ ((Ext.refl w).alloc _) ⟨w.heap.size,rfl,hn,heap_alloc_new w _⟩;simp only[execOp,ho,List.map_toArray,gX,List.map_nil,hx];have hr2:(Instr.buildSlice 28 1 #[(0,.agg (aj.E q).toArray)]).run prog w=.ok (.slice (some ⟨w.heap.size,0,none⟩) 1 1) (w.alloc (.cells (aj.E q).toArray 30)):=hr;simp only[Sem.run_bind,hr2,Result.andThen_ok,Sem.run_pure]
theorem OX{w W W':World}{g:Option Nat}(h:w.grownBy W g)(he:Ext W W'):w.grownBy W' g:=⟨he.os.trans h.os,he.tape.trans h.tape,he.output.trans h.output,bX h.size he.size,fun k hk hg=>(he.block (bQ hk h.size)).trans (h.block k hk hg)⟩
theorem JC{w W W':World}{g:Option Nat}(he:Ext w W)(h:W.grownBy W' g):w.grownBy W' g:=⟨h.os.trans he.os,h.tape.trans he.tape,h.output.trans he.output,bX he.size h.size,fun k hk hg=>(h.block k (bQ hk he.size) hg).trans (he.block hk)⟩
theorem LQ(v:Value)(base i:Nat)(xs:List aB)(x:aB)(vb:Nat)(w:World)(hown:Own aj base w v xs)(hi:i<=xs.length)(hn:xs.length<=1000)(hvb:w.heap[vb]? =some (.cells x.cells.toArray 30 (0,0)))(hne:∀g,v.ownBlock=some g->g≠vb)(hbase:base<=w.heap.size):
 Calls prog 104 #[v,.int .i64 (i:Nat),.slice (some ⟨vb,0,none⟩) 1 1] w (Gv base i xs x v w):=by
 obtain⟨A,c,rfl,hc,hs⟩:=hown.form;rcases gM i xs.length with h|h
 ·obtain⟨g,c2,hv⟩:=hown.Dz (by intro e;rw[e]at h;simp at h)
  cases hv
  exact XQ g c base i xs x vb w hown h hn hvb (fun e=>hne g rfl e.symm) hbase
 ·have:i=xs.length:=by omega
  subst this
  exact XP A c base xs x vb w hown hc hs hn (fun _=>⟨vb,0,rfl,ay hvb,fun j u hu=>by
   rw[aj.yP]at hu;simp only[World.cell?,hvb,bV];simpa[aj]using hu⟩) hbase
theorem aak(B B2 j:Nat)(z:av)(q:aB)(w0:World)(d:Nat->Bool)(hB:B<w0.heap.size)(hc:w0.cell? ⟨B,0,none⟩=some (.int .i64 (j:Nat)))(hq0:w0.heap[B2]? =some (.cells q.cells.toArray 30 (0,0)))(hz:Reads (mask d w0) z q):Dc 103 #[.pointer (some ⟨B,0,none⟩),.pointer (some ⟨B2,0,none⟩)] (fun x=>x.dJ (mQ j z x.kids)) (fun x=>j<=x.kids.length) w0 d:=by
 intro w b p x r hx hpb hbn hp hblk hU hok hj;obtain⟨rs,hown,hall,hg0⟩:=hU.k;have hrl:=hall.length;have hc0:=(hx.cell (p:=⟨B,0,none⟩) hB).trans hc;have XR:=hok.all.head.2.2.2.1;obtain⟨SV,Gx⟩:=aH (Value.slice r.kA r.kn r.kc)
 have hcr:w.cell? ⟨b,7,none⟩=some SV:=by
  rw[<-Gx];simp[World.cell?,hblk,aB.cells]
 rw[Gx]at hown hg0;have Kr:=ah (fun wq (he:Ext w wq) (vb:Nat) (hvb:wq.heap[vb]? =some (.cells q.cells.toArray 30 (0,0))) (hvw:w.heap.size<=vb)=>LQ SV w0.heap.size j rs q vb wq (hown.ext he) (by omega) (by omega) hvb (fun g hg=>by have:=(hown.lt g hg).2;omega) (bX hx.size he.size));have hq1:=(hx.block (ay hq0)).trans hq0
 have Hq:=ah (fun wq (he:Ext w wq)=>(show(aK q.cells).p (.pointer (some ⟨B2,0,none⟩)) wq from⟨B2,0,rfl,bQ (ay hq1) he.size,fun i u hu=>by
  rw[he.cell (p:=⟨B2,0+i,none⟩) (ay hq1)];simp only[World.cell?,hq1,bV];simpa using hu⟩))
 have Hcr:=ah hcr;have Wo:=ah hc0;have HU:=ah hU;have RQ:=ah hblk;have hbl:=ay hblk;have xS:=ah hpb;have Hp:=ah hp;change Calls _ _ #[.pointer (some ⟨b,0,none⟩),.pointer (some ⟨B,0,none⟩),.pointer (some ⟨B2,0,none⟩)] _ _;clear hcr hc0 hU hpb hp hblk;go_enter func103,ntmps103
 refine p8 (J:=⟨fun W=>Ext w W,fun _ _ h he=>h.trans he⟩) (w0:=⟨fun W=>w.grownBy W SV.ownBlock,fun _ _ h he=>OX h he⟩) (Ext.refl w) (fun _ _=>True) 11 8 [1,2,3,4,5,6,7] (fun i=>match i with|0=>Ty.is (.pointer (some ⟨b,0,none⟩))|1=>Ty.is (.pointer (some ⟨b,0,none⟩))|2=>Ty.is (.pointer (some ⟨b,0,none⟩))|3=>Ty.is (.pointer (some ⟨b,7,none⟩))|4=>Ty.is SV|5=>Ty.is (.int .i64 (j:Nat))|6=>Ty.is (.agg (aj.E q).toArray)|7=>AQ w.heap.size q|9=>Ty.is (.pointer (some ⟨b,0,none⟩))|10=>Ty.is (.pointer (some ⟨b,7,none⟩))|_=>Ty.any) (fun i=>match i with|0=>Ty.is (.pointer (some ⟨b,0,none⟩))|8=>QA w0.heap.size w.heap.size SV (mQ j q rs)|9=>Ty.is (.pointer (some ⟨b,0,none⟩))|10=>Ty.is (.pointer (some ⟨b,7,none⟩))|_=>Ty.any) (by kernel_rfl) (by kernel_rfl) (by kernel_rfl) (by kernel_rfl) (by decide) (by decide) (by kernel_rfl) ?_ ?_
 ·intro i hi v w1 w2 _ hx
  match i,hi,hx with
  |0,_,hx=>exact hx
  |1,_,_=>trivial
  |2,_,_=>trivial
  |3,_,_=>trivial
  |4,_,_=>trivial
  |5,_,_=>trivial
  |6,_,_=>trivial
  |7,_,_=>trivial
  |8,hi,_=>exact absurd rfl hi
  |9,_,hx=>exact hx
  |10,_,hx=>exact hx
  |_+11,_,_=>trivial
 intro v;refine⟨nR (by decide) ?_ ?_,dx (by decide) rfl ?_,dx (by decide) rfl ?_,dx (by decide) rfl ?_,dx (by decide) rfl ?_,dx (by decide) rfl ?_,dx (by decide) rfl ?_,dx (by decide) rfl ?_,yO rfl ?_,nR (by decide) ?_ ?_,nR (by decide) ?_ ?_,?_⟩
 ·intro wq hq hd
  exact aF (.tmp 0) rfl rfl rfl
 ·intro _ wq hq hd
  exact aF (.tmp 0) rfl rfl rfl
 ·intro wq hq hd
  exact aF (.tmp 0) rfl rfl rfl
 ·rintro wq hq ⟨h0,-⟩
  change v 1=_ at h0;exact rG (.tmp 5) rfl h0 rfl
 ·rintro wq hq ⟨h0,-⟩
  change v 2=_ at h0;exact mX 30 5 (.tmp 6) rfl _ underlying30 _ rfl 1 sizeOf28 (by decide) b 0 h0 rfl
 ·rintro wq hq ⟨h0,-⟩
  change v 3=_ at h0;exact oq 28 (.tmp 7) rfl isAgg28 ⟨b,7,none⟩ h0 ((hq.cell (p:=⟨b,7,none⟩) hbl).trans Hcr.out) rfl
 ·intro wq hq hd
  exact oq 3 (.tmp 1) rfl isAgg3 ⟨B,0,none⟩ rfl ((hq.cell (p:=⟨B,0,none⟩) (bQ hB hx.size)).trans Wo.out) rfl
 ·intro wq hq hd
  exact bU 30 (.tmp 2) rfl isAgg30 8 sizeOf30 (aj.E q) rfl (Hq.out wq hq) rfl
 ·rintro wq hq ⟨h0,-⟩
  change v 6=_ at h0;exact Kq (.tmp 10) rfl h0 hq.size
 ·intro wq hq hd
  have h4:v 4=_:=hd 4 rfl;have h5:v 5=_:=hd 5 rfl;obtain⟨vb,hv7,hvw,hvb⟩:=(show(AQ w.heap.size q).p (v 7) wq from hd 7 rfl);refine Ez 104 call104 _ _ rfl rfl [_,_,_] ⟨h4,h5,hv7,trivial⟩ ?_;refine(Kr.out wq hq vb hvb hvw).mono ?_;rintro e w' ⟨v',rfl,h1,h2,h3⟩;exact⟨_,rfl,JC hq h2,⟨h1,h3.elim .inl (fun⟨g,h4,h5⟩=>.inr ⟨g,h4,bX hq.size h5⟩)⟩,trivial⟩
 ·rintro wq hq ⟨h0,-⟩
  change v 0=_ at h0;exact rG (.tmp 4) rfl h0 rfl
 ·intro _ wq hq hd
  obtain⟨h0,-⟩:=hd;change v 0=_ at h0;exact rG (.tmp 4) rfl h0 rfl
 ·rintro wq hq ⟨h0,-⟩
  change v 9=_ at h0;exact mX 30 5 (.tmp 13) rfl _ underlying30 _ rfl 1 sizeOf28 (by decide) b 0 h0 rfl
 ·intro _ wq hq hd
  obtain⟨h0,-⟩:=hd;change v 9=_ at h0;exact mX 30 5 (.tmp 13) rfl _ underlying30 _ rfl 1 sizeOf28 (by decide) b 0 h0 rfl
 ·intro wq hq hT
  have k8:=hT 8 (by decide);have k10:=hT 10 (by decide);change v 10=_ at k10;clear hT;simp only[List.drop_succ_cons,List.drop_zero,gH,dK,List.set_cons_succ,List.set_cons_zero,Nat.reduceAdd];rw[k10];obtain⟨FK,hloc⟩:=(show(QA w0.heap.size w.heap.size SV (mQ j q rs)).p (v 8) wq from k8);generalize v 8=x8 at FK hloc k8⊢;obtain⟨A8,c8,rfl,hc8,-⟩:=FK.form;have hbq:=(hq.block b hbl (fun e=>(hg0 b e.symm).1 rfl)).trans RQ.out
  have Kt:∀gg,(Value.slice A8 (mQ j q rs).length c8).ownBlock=some gg->gg≠b/\p gg=false:=fun gg hgg=>by
   rcases hloc with h|⟨g,h,h2⟩
   ·rw[h]at hgg
    exact hg0 gg hgg
   ·rw[h]at hgg
    cases hgg
    refine⟨by omega,?_⟩;cases hpg:p gg with
    |false=>rfl
    |true=>have:=(Hp.out gg hpg).2;omega
  have HO:=ah FK;have Hk:=ah hq;have hel:(mQ j q rs).length=rs.length+1:=by unfold mQ;simp;omega
  obtain⟨m,hm⟩:=aH ((mQ j q rs).length);have Hm:=ah hm;rw[hm]at hc8 HO Kt hel⊢;clear hq FK hloc k8 hm;go_wp2_with (refine aP rfl 28 (.tmp 14) (.tmp 12) rfl b 7 (.slice A8 m c8) rfl rfl [.slice A8 m c8] rfl sizeOf28 (by simp[Value.oneCell']) 30 _ hbq (by simp[aB.cells]) ?_;intro w4 hw4 dP dQ dR hs4 eX)
  have hk4:w4.heap[b]? =some (.cells (aB.cells {r with kA:=A8,kn:=m,kc:=c8}).toArray 30 (0,0)):=eX.trans (by simp[aB.cells]);refine bodyPost_end (results_none rfl _ _ _) rfl ?_;have hkeep:∀k,k<w.heap.size->k≠b->SV.ownBlock≠some k->w4.heap[k]? =w.heap[k]? :=fun k hk h1 h2=>(hw4 k h1).trans (Hk.out.block k hk (fun e=>h2 e.symm));have hO4:=HO.out.keep (w':=w4) (fun gg hgg=>hw4 gg (Kt gg hgg).1);obtain⟨A4,c4,hv4,hc4,-,Gr⟩:=hO4.kG (p:=p) (fun gg _ hgg=>(Kt gg hgg).2);rw[Hm.out]at hv4 hc4;cases hv4
  have hsz:=Hk.out.size
  have oG:aZ (mask (FC p (.slice r.kA r.kn r.kc)) w) (mask p w4):=aZ.keep (by omega) fun k hk hpk=>by
   obtain⟨h1,h2⟩:=Gq hpk;rw[Gx]at h2;exact⟨hkeep k hk (by rintro rfl;rw[xS.out]at h1;cases h1) h2,h1⟩
  have hC0:aZ (mask d w0) (mask p w4):=by
   exact aZ.keep (p:=d) (q:=p) (w:=w0) (w':=w4) (by have:=hx.size;omega) fun k hk hdk=>by
    have hpk:p k=false:=by
     cases hpk:p k with
     |false=>rfl
     |true=>
      rcases(Hp.out k hpk).1 with h|h
      ·omega
      ·rw[hdk]at h;cases h
    exact⟨(hkeep k (bQ hk hx.size) (by rintro rfl;rw[xS.out]at hpk;cases hpk) (fun e=>by have:=(hown.lt k e).1;omega)).trans (hx.block hk),hpk⟩
  have U:=HU.out;have hil:(mQ j z x.kids).length=m:=by unfold mQ;simp;omega
  refine⟨rfl,_,hk4,Reads.of (by rw[xR];exact U.id) (by rw[sU];exact U.kind) (by rw[rT];exact U.label) (by rw[iL];exact U.hn) (by rw[iL];exact U.hc) (by rw[iL];exact U.hs.cin oG) (by rw[iy];exact U.wn) (by rw[iy];exact U.wc) (by rw[iy];exact U.ws.cin oG)
   (by rw[iM,hil]) (by rw[iM,hil];exact hc4) Gr (by rw[iM];exact(ReadsAll.cin oG _ _ hall).ins j (Reads.cin hC0 _ _ hz)),⟨dP.trans Hk.out.os,dQ.trans Hk.out.tape,dR.trans Hk.out.output,by rw[hs4];exact hsz,fun k hk h1 h2=>hkeep k hk h1 (by first|exact h2|(rw[<-Gx];exact h2))⟩⟩
theorem ahS(B B2 j:Nat)(z:av)(q:aB)(w0:World)(d:Nat->Bool)(hB:B<w0.heap.size)(hc:w0.cell? ⟨B,0,none⟩=some (.int .i64 (j:Nat)))(hq0:w0.heap[B2]? =some (.cells q.cells.toArray 30 (0,0)))(hz:Reads (mask d w0) z q):Dc 114 #[.pointer (some ⟨B,0,none⟩),.pointer (some ⟨B2,0,none⟩)] (fun x=>x.dJ (mQ j z x.kids)) (fun x=>j<=x.kids.length) w0 d:=by
 intro w b p x r hx hpb hbn hp hblk hU hok hj;obtain⟨rs,hown,hall,hg0⟩:=hU.k;have hrl:=hall.length;have hc0:=(hx.cell (p:=⟨B,0,none⟩) hB).trans hc;have XR:=hok.all.head.2.2.2.1;obtain⟨SV,Gx⟩:=aH (Value.slice r.kA r.kn r.kc)
 have hcr:w.cell? ⟨b,7,none⟩=some SV:=by
  rw[<-Gx];simp[World.cell?,hblk,aB.cells]
 rw[Gx]at hown hg0;have Kr:=ah (fun wq (he:Ext w wq) (vb:Nat) (hvb:wq.heap[vb]? =some (.cells q.cells.toArray 30 (0,0))) (hvw:w.heap.size<=vb)=>LQ SV w0.heap.size j rs q vb wq (hown.ext he) (by omega) (by omega) hvb (fun g hg=>by have:=(hown.lt g hg).2;omega) (bX hx.size he.size));have hq1:=(hx.block (ay hq0)).trans hq0
 have Hq:=ah (fun wq (he:Ext w wq)=>(show(aK q.cells).p (.pointer (some ⟨B2,0,none⟩)) wq from⟨B2,0,rfl,bQ (ay hq1) he.size,fun i u hu=>by
  rw[he.cell (p:=⟨B2,0+i,none⟩) (ay hq1)];simp only[World.cell?,hq1,bV];simpa using hu⟩))
 have Hcr:=ah hcr;have Wo:=ah hc0;have HU:=ah hU;have RQ:=ah hblk;have hbl:=ay hblk;have xS:=ah hpb;have Hp:=ah hp;change Calls _ _ #[.pointer (some ⟨b,0,none⟩),.pointer (some ⟨B,0,none⟩),.pointer (some ⟨B2,0,none⟩)] _ _;clear hcr hc0 hU hpb hp hblk;go_enter func114,ntmps114
 refine p8 (J:=⟨fun W=>Ext w W,fun _ _ h he=>h.trans he⟩) (w0:=⟨fun W=>w.grownBy W SV.ownBlock,fun _ _ h he=>OX h he⟩) (Ext.refl w) (fun _ _=>True) 11 8 [1,2,3,4,5,6,7] (fun i=>match i with|0=>Ty.is (.pointer (some ⟨b,0,none⟩))|1=>Ty.is (.pointer (some ⟨b,0,none⟩))|2=>Ty.is (.pointer (some ⟨b,0,none⟩))|3=>Ty.is (.pointer (some ⟨b,7,none⟩))|4=>Ty.is SV|5=>Ty.is (.int .i64 (j:Nat))|6=>Ty.is (.agg (aj.E q).toArray)|7=>AQ w.heap.size q|9=>Ty.is (.pointer (some ⟨b,0,none⟩))|10=>Ty.is (.pointer (some ⟨b,7,none⟩))|_=>Ty.any) (fun i=>match i with|0=>Ty.is (.pointer (some ⟨b,0,none⟩))|8=>QA w0.heap.size w.heap.size SV (mQ j q rs)|9=>Ty.is (.pointer (some ⟨b,0,none⟩))|10=>Ty.is (.pointer (some ⟨b,7,none⟩))|_=>Ty.any) (by kernel_rfl) (by kernel_rfl) (by kernel_rfl) (by kernel_rfl) (by decide) (by decide) (by kernel_rfl) ?_ ?_
 ·intro i hi v w1 w2 _ hx
  match i,hi,hx with
  |0,_,hx=>exact hx
  |1,_,_=>trivial
  |2,_,_=>trivial
  |3,_,_=>trivial
  |4,_,_=>trivial
  |5,_,_=>trivial
  |6,_,_=>trivial
  |7,_,_=>trivial
  |8,hi,_=>exact absurd rfl hi
  |9,_,hx=>exact hx
  |10,_,hx=>exact hx
  |_+11,_,_=>trivial
 intro v;refine⟨nR (by decide) ?_ ?_,dx (by decide) rfl ?_,dx (by decide) rfl ?_,dx (by decide) rfl ?_,dx (by decide) rfl ?_,dx (by decide) rfl ?_,dx (by decide) rfl ?_,dx (by decide) rfl ?_,yO rfl ?_,nR (by decide) ?_ ?_,nR (by decide) ?_ ?_,?_⟩
 ·intro wq hq hd
  exact aF (.tmp 0) rfl rfl rfl
 ·intro _ wq hq hd
  exact aF (.tmp 0) rfl rfl rfl
 ·intro wq hq hd
  exact aF (.tmp 0) rfl rfl rfl
 ·rintro wq hq ⟨h0,-⟩
  change v 1=_ at h0;exact rG (.tmp 5) rfl h0 rfl
 ·rintro wq hq ⟨h0,-⟩
  change v 2=_ at h0;exact mX 30 5 (.tmp 6) rfl _ underlying30 _ rfl 1 sizeOf28 (by decide) b 0 h0 rfl
 ·rintro wq hq ⟨h0,-⟩
  change v 3=_ at h0;exact oq 28 (.tmp 7) rfl isAgg28 ⟨b,7,none⟩ h0 ((hq.cell (p:=⟨b,7,none⟩) hbl).trans Hcr.out) rfl
 ·intro wq hq hd
  exact oq 3 (.tmp 1) rfl isAgg3 ⟨B,0,none⟩ rfl ((hq.cell (p:=⟨B,0,none⟩) (bQ hB hx.size)).trans Wo.out) rfl
 ·intro wq hq hd
  exact bU 30 (.tmp 2) rfl isAgg30 8 sizeOf30 (aj.E q) rfl (Hq.out wq hq) rfl
 ·rintro wq hq ⟨h0,-⟩
  change v 6=_ at h0;exact Kq (.tmp 10) rfl h0 hq.size
 ·intro wq hq hd
  have h4:v 4=_:=hd 4 rfl;have h5:v 5=_:=hd 5 rfl;obtain⟨vb,hv7,hvw,hvb⟩:=(show(AQ w.heap.size q).p (v 7) wq from hd 7 rfl);refine Ez 104 call104 _ _ rfl rfl [_,_,_] ⟨h4,h5,hv7,trivial⟩ ?_;refine(Kr.out wq hq vb hvb hvw).mono ?_;rintro e w' ⟨v',rfl,h1,h2,h3⟩;exact⟨_,rfl,JC hq h2,⟨h1,h3.elim .inl (fun⟨g,h4,h5⟩=>.inr ⟨g,h4,bX hq.size h5⟩)⟩,trivial⟩
 ·rintro wq hq ⟨h0,-⟩
  change v 0=_ at h0;exact rG (.tmp 4) rfl h0 rfl
 ·intro _ wq hq hd
  obtain⟨h0,-⟩:=hd;change v 0=_ at h0;exact rG (.tmp 4) rfl h0 rfl
 ·rintro wq hq ⟨h0,-⟩
  change v 9=_ at h0;exact mX 30 5 (.tmp 13) rfl _ underlying30 _ rfl 1 sizeOf28 (by decide) b 0 h0 rfl
 ·intro _ wq hq hd
  obtain⟨h0,-⟩:=hd;change v 9=_ at h0;exact mX 30 5 (.tmp 13) rfl _ underlying30 _ rfl 1 sizeOf28 (by decide) b 0 h0 rfl
 ·intro wq hq hT
  have k8:=hT 8 (by decide);have k10:=hT 10 (by decide);change v 10=_ at k10;clear hT;simp only[List.drop_succ_cons,List.drop_zero,gH,dK,List.set_cons_succ,List.set_cons_zero,Nat.reduceAdd];rw[k10];obtain⟨FK,hloc⟩:=(show(QA w0.heap.size w.heap.size SV (mQ j q rs)).p (v 8) wq from k8);generalize v 8=x8 at FK hloc k8⊢;obtain⟨A8,c8,rfl,hc8,-⟩:=FK.form;have hbq:=(hq.block b hbl (fun e=>(hg0 b e.symm).1 rfl)).trans RQ.out
  have Kt:∀gg,(Value.slice A8 (mQ j q rs).length c8).ownBlock=some gg->gg≠b/\p gg=false:=fun gg hgg=>by
   rcases hloc with h|⟨g,h,h2⟩
   ·rw[h]at hgg
    exact hg0 gg hgg
   ·rw[h]at hgg
    cases hgg
    refine⟨by omega,?_⟩;cases hpg:p gg with
    |false=>rfl
    |true=>have:=(Hp.out gg hpg).2;omega
  have HO:=ah FK;have Hk:=ah hq;have hel:(mQ j q rs).length=rs.length+1:=by unfold mQ;simp;omega
  obtain⟨m,hm⟩:=aH ((mQ j q rs).length);have Hm:=ah hm;rw[hm]at hc8 HO Kt hel⊢;clear hq FK hloc k8 hm;go_wp2_with (refine aP rfl 28 (.tmp 14) (.tmp 12) rfl b 7 (.slice A8 m c8) rfl rfl [.slice A8 m c8] rfl sizeOf28 (by simp[Value.oneCell']) 30 _ hbq (by simp[aB.cells]) ?_;intro w4 hw4 dP dQ dR hs4 eX)
  have hk4:w4.heap[b]? =some (.cells (aB.cells {r with kA:=A8,kn:=m,kc:=c8}).toArray 30 (0,0)):=eX.trans (by simp[aB.cells]);refine bodyPost_end (results_none rfl _ _ _) rfl ?_;have hkeep:∀k,k<w.heap.size->k≠b->SV.ownBlock≠some k->w4.heap[k]? =w.heap[k]? :=fun k hk h1 h2=>(hw4 k h1).trans (Hk.out.block k hk (fun e=>h2 e.symm));have hO4:=HO.out.keep (w':=w4) (fun gg hgg=>hw4 gg (Kt gg hgg).1);obtain⟨A4,c4,hv4,hc4,-,Gr⟩:=hO4.kG (p:=p) (fun gg _ hgg=>(Kt gg hgg).2);rw[Hm.out]at hv4 hc4;cases hv4
  have hsz:=Hk.out.size
  have oG:aZ (mask (FC p (.slice r.kA r.kn r.kc)) w) (mask p w4):=aZ.keep (by omega) fun k hk hpk=>by
   obtain⟨h1,h2⟩:=Gq hpk;rw[Gx]at h2;exact⟨hkeep k hk (by rintro rfl;rw[xS.out]at h1;cases h1) h2,h1⟩
  have hC0:aZ (mask d w0) (mask p w4):=by
   exact aZ.keep (p:=d) (q:=p) (w:=w0) (w':=w4) (by have:=hx.size;omega) fun k hk hdk=>by
    have hpk:p k=false:=by
     cases hpk:p k with
     |false=>rfl
     |true=>
      rcases(Hp.out k hpk).1 with h|h
      ·omega
      ·rw[hdk]at h;cases h
    exact⟨(hkeep k (bQ hk hx.size) (by rintro rfl;rw[xS.out]at hpk;cases hpk) (fun e=>by have:=(hown.lt k e).1;omega)).trans (hx.block hk),hpk⟩
  have U:=HU.out;have hil:(mQ j z x.kids).length=m:=by unfold mQ;simp;omega
  refine⟨rfl,_,hk4,Reads.of (by rw[xR];exact U.id) (by rw[sU];exact U.kind) (by rw[rT];exact U.label) (by rw[iL];exact U.hn) (by rw[iL];exact U.hc) (by rw[iL];exact U.hs.cin oG) (by rw[iy];exact U.wn) (by rw[iy];exact U.wc) (by rw[iy];exact U.ws.cin oG)
   (by rw[iM,hil]) (by rw[iM,hil];exact hc4) Gr (by rw[iM];exact(ReadsAll.cin oG _ _ hall).ins j (Reads.cin hC0 _ _ hz)),⟨dP.trans Hk.out.os,dQ.trans Hk.out.tape,dR.trans Hk.out.output,by rw[hs4];exact hsz,fun k hk h1 h2=>hkeep k hk h1 (by first|exact h2|(rw[<-Gx];exact h2))⟩⟩
end Go.Proofs.YtgboomjahhnldaaGreatDoor
