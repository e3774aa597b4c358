/- A part of the proof of TopWritten, printed small: TNorm TCutP SortLayI. -/
import Derived.Test.YtgboomjahhnldaaGreatDoorZ13
import Derived.Test.YtgboomjahhnldaaGreatDoorZ11
import Derived.Shelf.SlSortCmp.NoneTotal
import Derived.Lib.SlicesCompact
import Derived.Shelf.SlGeneric
import Derived.Shelf.SortM.Plain
import Derived.Shelf.SortM.SortNone
import Derived.Ground.SlgmProg
import Derived.Test.YtgboomjahhnldaaGreatDoorProg
set_option maxRecDepth 100000
set_option maxHeartbeats 25600000
set_option linter.all false
namespace Go.Proofs.YtgboomjahhnldaaGreatDoor
open Go.Proofs.Tryz Go.RowKit
def EA(M:List bK)(q:bK):Bool:=match M.getLast? with|some z=>decide (q.f<=z.t)|none=>false
theorem LX{α:Type}(M:List α):M=[]∨∃L z,M=L++[z]:=by
 rcases List.eq_nil_or_concat M with h|⟨L,z,h⟩
 ·exact .inl h
 ·exact .inr ⟨L,z,by rw[h,List.concat_eq_append]⟩
theorem LY(w:World):Calls prog 50 #[.slice none 0 0,.func (.func 51) #[] #[]] w fun e w'=>e=.returned (.tuple #[])/\w'=w:=
 AnyF.slices_SortFunc_none Tryz.sortItem none 0 (.func (.func 51) #[] #[]) w
theorem aau{α:Type}(D:El prog α){base:Nat}{w:World}{v:Value}{xs:List α}(h:Own D base w v xs):(v=.slice none 0 0/\xs=[])∨∃g c,v=.slice (some ⟨g,0,none⟩) xs.length c/\base<=g/\g<w.heap.size/\xs.length<=c:=by
 rcases h.2 with⟨hv,h0⟩|⟨g,cap,cur,hv,hg,hh,hn,hc,hs,ht⟩
 ·exact .inl ⟨hv,kM h0⟩
 ·refine .inr ⟨g,cap,hv,hg,?_,hn⟩
  rcases gM g w.heap.size with hlt|hge
  ·exact hlt
  ·rw[ze hge]at hh;cases hh
def wR(w:World)(p:Int->Bool)(e:Ending)(w':World):Prop:=∃(A:Option Addr) (c:Nat) (M:List bK),e=.returned (.slice A M.length c)/\M.length<=c/\Sl cK w' A M/\Norm M/\(∀d,dz M d=p d)/\Ext w w'
theorem vg(l:List bK)(A:Option Addr)(c:Nat)(w:World)(hs:Sl cK w A l)(hn:l.length<=4194304):
 Calls prog 40 #[.slice A l.length c] w (wR w (fun d=>lQ d&&dz l d)):=by
 obtain⟨P,hP⟩:∃P:Int->Bool,(fun d=>lQ d&&dz l d)=P:=⟨_,rfl⟩;rw[hP];have HP:=ah (show∀d,dz (nk l) d=P d from fun d=>by rw[O3,<-hP]);clear hP;go_enter func40,ntmps40
 go_wp2
 go_loopw [3,11] (fun vo vk wr=>∃(k:Nat) (xs:List bK),k<=l.length/\vk=.int .i64 (k:Nat)/\Own cK w.heap.size wr vo xs/\Hid (xs=nk (l.take k))/\xs.length<=k/\Ext w wr) (fun _ vk _=>l.length-(intOf vk).toNat)
 case atStart=>exact⟨0,[],bI _,rfl,Own.nil _,ah (by simp[nk]),aI _,Ext.refl _⟩
 case round=>
  obtain⟨k,xs,hk,rfl,hown,Hxs,hxl,hext⟩:=hrel;by_cases hlt:k<l.length
  ·have f1:=eY k l.length
   obtain⟨b,off,hA,hb,hcs⟩:=(hs.ext hext).at_ hlt;have mV:=ah (XW hlt);obtain⟨q,hq⟩:=aH (l[k]);rw[hq]at hcs mV;have jD:=ah (show At wr b (off+k*2) q.cells from hcs);obtain⟨AO,cO,rfl,-,-⟩:=hown.form;have HO:=ah hown;have HA:=ah hA;clear hcs hq hA hown;rw[HA.out];go_upto_region 6 with(first|((with_reducible refine au cK (.tmp 13) ?_ ?_ ?_ b (off+k*2) ?_ q ?_ ?_);rfl;rfl;rfl;rfl;exact jD.out)|(refine aL cK rfl rfl fun wA aR bG bB=> ?_)|((with_reducible refine aD cK (.tmp 5) (.tmp 14) ?_ ?_ wr wr.heap.size ?_ q ?_ _ _ bB ?_ aR (aI _) ?_);rfl;rfl;rfl;rfl;rfl;intro w3 hx3 hz3 hk3 dX ho3;have p0:=dX.zero (u:=.int .i64 q.f) rfl;have p1:=dX.one 1 (u:=.int .i64 q.t) rfl;simp only[bV]at p1;have uS:=ah hk3;have hl3:=ay hk3;clear hz3 hk3 dX ho3 bG bB aR)|(refine aP rfl 3 (.tmp 21) (.tmp 17) rfl wr.heap.size 0 (.int .i64 (max q.f 0)) rfl rfl [.int .i64 (max q.f 0)] rfl sizeOf3 (by simp[Value.oneCell']) 114 _ uS.out (by simp[cK,bK.cells]) ?_;intro w4 hw4 dP dQ dR hs4 eX;have hx4:Ext wr w4:=hx3.put (aI _) hw4 dP dQ dR hs4;have OW:=ah (show w4.heap[wr.heap.size]? =some (.cells #[.int .i64 (max q.f 0),.int .i64 q.t] 114 (0,0))from by simpa[cK,bK.cells]using eX);have hl4:=ay OW.out;clear hw4 dP dQ dR hs4 eX)|(refine aP rfl 3 (.tmp 22) (.tmp 20) rfl wr.heap.size 1 (.int .i64 (min q.t 1048577)) rfl rfl [.int .i64 (min q.t 1048577)] rfl sizeOf3 (by simp[Value.oneCell']) 114 _ OW.out (by simp) ?_;intro w5 rz nu ny nD hs5 rZ;have hx5:Ext wr w5:=hx4.put (aI _) rz nu ny nD hs5;have Wp:=ah (show w5.heap[wr.heap.size]? =some (.cells (cK.E (jH q)).toArray 114 (0,0))from by simpa[cK,bK.cells,jH]using rZ);have hl5:=ay Wp.out;have p0:w5.cell? ⟨wr.heap.size,0,none⟩=some (.int .i64 (max q.f 0)):=(by simp only[World.cell?,Wp.out];rfl);have p1:w5.cell? ⟨wr.heap.size,1,none⟩=some (.int .i64 (min q.t 1048577)):=(by simp only[World.cell?,Wp.out];rfl);clear rz nu ny nD hs5 rZ))
   by_cases hft:(jH q).f<(jH q).t
   ·have f2:decide (max q.f 0<min q.t 1048577)=true:=bJ hft
    have GL:=ah (show nk (l.take (k+1))=xs++[jH q]from by rw[mV.out,bH hft,Hxs.out]);have sW:=ah (show At w5 wr.heap.size 0 (jH q).cells from fun j u hu=>by simp only[World.cell?,Wp.out];simpa[cK]using hu);go_wp2_with (first|((with_reducible refine au cK (.tmp 29) ?_ ?_ ?_ wr.heap.size 0 ?_ (jH q) ?_ ?_);rfl;rfl;rfl;rfl;exact sW.out)|(((with_reducible refine gP cK (.tmp 29) ?_ ?_ (jH q) (.agg (cK.E (jH q)).toArray) ?_ ?_ ?_ ?_);rfl;rfl;rfl;rfl;decide;intro w6 hx6 DJ aq0);have DU:=ah (hx5.trans hx6);clear hx6)|(refine fK cK rfl (.tmp 28) (.tmp 30) rfl 1 rfl (HO.out.ext DU.out) rfl aq0 (by simp;omega) (by have:=hext.size;have:=DU.out.size;omega) ?_;intro v7 w7 JE hB7 hg7;have HO7:=ah JE;have BP:=ah ((hext.trans DU.out).trans' hB7 (aI _));obtain⟨A7,c7,hv7,-,-⟩:=JE.form;subst hv7;clear JE hB7 hg7))
    go_roundw
    case rel=>exact⟨k+1,xs++[jH q],by omega,by go_num,(by have h:=HO7.out;rw[eu]at h;exact h),ah (by rw[GL.out]),by simp;omega,BP.out⟩
    case measure=>simp[intOf];omega
   ·have f2:decide (max q.f 0<min q.t 1048577)=false:=aY hft
    have GL:=ah (show nk (l.take (k+1))=xs from by rw[mV.out,aU hft,kY,Hxs.out]);have mG:=ah (hext.trans hx5);have GN:=ah (HO.out.ext hx5);clear hx5 HO;go_wp2;go_roundw
    case rel=>exact⟨k+1,xs,by omega,by go_num,GN.out,ah (by rw[GL.out]),by omega,mG.out⟩
    case measure=>simp[intOf];omega
  ·have f1:=fT k l.length
   have EB:=ah (show xs=nk l by have:=Hxs.out;rwa[gY (by omega)]at this);have HO:=ah hown;obtain⟨rfl,rfl⟩|⟨g,cO,rfl,hbg,hgs,hlc⟩:=aau cK hown
   ·have Hz:=ah (fun d=>show dz ([]:List bK) d=P d from by rw[EB.out];exact HP.out d)
    have Hs:=ah (fun w=>LY w);clear hown Hxs hs hxl EB HP;go_wp2_with fail
    refine(Hs.out _).mono ?_;rintro e w2 ⟨rfl,rfl⟩;go_wp2
    go_loopw [6,37] (fun vn vk wr'=>vn=.int .i64 0/\vk=.int .i64 0/\wr'=w2) (fun _ _ _=>0)
    case atStart=>exact⟨rfl,rfl,rfl⟩
    case round=>
     obtain⟨rfl,rfl,rfl⟩:=hrel;go_wp2;go_ret;exact⟨none,0,[],rfl,aI _,Sl.nil,Norm.nil,Hz.out,hext⟩
   ·have Hs:=ah (Ec.R5 w.heap.size g cO xs wr HO.out (by omega))
    go_wp2_with fail
    refine Hs.out.mono ?_;rintro e w2 ⟨rfl,ys,hperm,afQ,hown2,hkp⟩;have hyl:ys.length=xs.length:=hperm.length_eq.symm;have fI:=ah (show∀x∈ys,0<=x.f/\x.f<x.t/\x.t<=1048577 from fun x hx=>adE (l:=l) x (by rw[<-EB.out];exact hperm.mem_iff.2 hx));have DI:=ah (show ys.Pairwise fun x y=>x.f<=y.f from afQ.imp fun {a b} h=>by rw[Ec.GK]at h;omega);have Hpm:=ah (fun d=>show dz ys d=P d from by rw[<-HP.out d,<-EB.out];exact(aat hperm d).symm);rw[hyl]at hown2;have Je:=ah hown2;have hx2:Ext w w2:=hkp.uZ hext hbg;have hyn:ys.length<=4194304:=by omega
    obtain⟨N,hN⟩:=aH (xs.length);rw[hN]at hyl Je⊢;clear hown2 hkp afQ hperm EB HP HO Hs hxl hlc hN;go_wp2
    go_loopw [6,37] (fun vn vk wr'=>∃(i:Nat) (M:List bK),i<=N/\vn=.int .i64 (M.length:Nat)/\vk=.int .i64 (i:Nat)/\Hid (FL ys i M)/\Hid (Own cK w.heap.size wr' (.slice (some ⟨g,0,none⟩) N cO) (M++ys.drop M.length))/\Ext w wr') (fun _ vk _=>N-(intOf vk).toNat)
    case atStart=>exact⟨0,[],bI _,rfl,rfl,ah (FL.start ys),ah (by simpa using Je.out),hx2⟩
    case round=>
     obtain⟨i,M,hi,rfl,rfl,HM,HR,jf⟩:=hrel;have DV:=ah (show M.length<=i from HM.out.len);by_cases hin:i<N
     ·have f3:=eY i N
      have hrow:i<(M++ys.drop M.length).length:=by have:=DV.out;simp;omega
      have hiy:i<ys.length:=by omega
      have hrq:(M++ys.drop M.length)[i]=ys[i]:=by
       have:=DV.out;rw[List.getElem_append_right (by omega),List.getElem_drop]
       congr 1
       omega
      obtain⟨b3,Rl,hA3,hb3,adF⟩:∃b off,(some ⟨g,0,none⟩:Option Addr)=some ⟨b,off,none⟩/\b<wr.heap.size/\At wr b (off+i*2) ys[i].cells:=by
       obtain⟨A0,z0,hv0,hcap,hsl0⟩:=HR.out.form;cases hv0
       obtain⟨b,off,h1,h2,h3⟩:=hsl0.at_ hrow;rw[hrq]at h3;exact⟨b,off,h1,h2,h3⟩
      cases hA3
      obtain⟨q,hq⟩:=aH (ys[i]);rw[hq]at adF;have Hq:=ah hq;have adG:=ah (show At wr g (i*2) q.cells from by rw[<-bV (i*2)];exact adF);clear hrq hrow adF hq;go_upto_region 14 with(first|((with_reducible refine au cK (.tmp 39) ?_ ?_ ?_ g (i*2) ?_ q ?_ ?_);rfl;rfl;rfl;rfl;exact adG.out)|(refine aL cK rfl rfl fun wA aR bG bB=> ?_)|((with_reducible refine aD cK (.tmp 8) (.tmp 40) ?_ ?_ wr wr.heap.size ?_ q ?_ _ _ bB ?_ aR (aI _) ?_);rfl;rfl;rfl;rfl;rfl;intro w3 hx3 hz3 hk3 dX ho3;have p0:=dX.zero (u:=.int .i64 q.f) rfl;have p1:=dX.one 1 (u:=.int .i64 q.t) rfl;simp only[bV]at p1;have uS:=ah hk3;have jq:=ah dX;have hl3:=ay hk3;clear hz3 hk3 dX ho3 bG bB aR))
      have eU:=ah (jf.trans hx3);have HR3:=ah (HR.out.ext hx3);have HY:=ah (show(M++ys.drop M.length).length=N from by have:=DV.out;simp;omega);obtain⟨Y,hY⟩:=aH (M++ys.drop M.length);rw[hY]at HR3 HY;have Wq:=ah hY;have GQ:=ah hyl;have hNb:N<=4194304:=by omega
      clear hY HR jf hx3 hyl;obtain⟨n,hn⟩:=aH (M.length);rw[hn];have sN:=ah hn;clear hn;simp only[Act.put,List.setIfInBounds_toArray,List.set_cons_succ,List.set_cons_zero];go_cut [53] (fun s53 wx=>(∃w5,wx=w5/\Ext w3 w5)/\∃bb:Bool,s53=.bool bb/\Hid (bb=EA M q))
      case first=>
       obtain⟨z,hz⟩:∃z:bK,M.getLast?.getD ⟨0,0⟩=z:=⟨_,rfl⟩;have hn:=sN.out
       have Hf:=ah (show(decide ((n:Int)>0)&&decide (q.f<=z.t))=EA M q from by
        rw[<-hn,<-hz];cases M with
        |nil=>simp[EA]
        |cons a M=>
         obtain⟨z1,h1⟩:∃z1,(a::M).getLast? =some z1:=⟨_,List.getLast?_eq_some_getLast (by simp)⟩;rw[EA,h1];simp)
       have Hnz:=ah (show 0<n->Y[n-1]? =some z from fun h0=>by
        rw[<-Wq.out,<-hn,<-hz,Ef (by omega),<-List.getLast?_eq_getElem?];cases M with
        |nil=>simp at hn;omega
        |cons a M=>
         obtain⟨z1,h1⟩:∃z1,(a::M).getLast? =some z1:=⟨_,List.getLast?_eq_some_getLast (by simp)⟩;rw[h1];rfl)
       obtain⟨A0,z0,hv0,hcap,hsl0⟩:=HR3.out.form;have hv1:=nI Value.cells hv0;simp only[Value.slice.injEq]at hv0;obtain⟨R7,hN0,hz0⟩:=hv0;rw[<-R7]at hsl0;have yV:=ah (fun wq (he:Ext w3 wq)=>hsl0.ext he);have hcO:N<=cO:=by rw[hz0];rw[<-HY.out];exact hcap
       have hnN:n<=N:=by have:=DV.out;omega
       have jh:=ah (show∀wq,Ext w3 wq->(aK [.int .i64 q.f,.int .i64 q.t]).p (.pointer (some ⟨wr.heap.size,0,none⟩)) wq from fun wq he=>⟨wr.heap.size,0,rfl,bQ hl3 he.size,fun j u hu=>jq.out.ext he hl3 j u hu⟩);clear hz hn hv1 R7 hN0 hz0 hsl0 HM DV p0 p1;refine iw (by kernel_rfl) (fun i=>match i with|0=>Ty.is (.int .i64 (n:Nat))|1=>Ty.is (.bool (decide (((n:Nat):Int)>0)))|2=>Ty.is (.bool (decide (((n:Nat):Int)>0)))|3=>fQ ((decide (((n:Nat):Int)>0))=true) (aK [.int .i64 q.f])|4=>fQ ((decide (((n:Nat):Int)>0))=true) (Ty.is (.int .i64 q.f))|5=>fQ ((decide (((n:Nat):Int)>0))=true) (Ty.is (.slice (some ⟨g,0,none⟩) N cO))|6=>fQ ((decide (((n:Nat):Int)>0))=true) (Ty.is (.int .i64 (n:Nat)))|7=>fQ ((decide (((n:Nat):Int)>0))=true) (Ty.is (.int .i64 ((n-1:Nat):Int)))|8=>fQ ((decide (((n:Nat):Int)>0))=true) (aK [.int .i64 z.f,.int .i64 z.t])|9=>fQ ((decide (((n:Nat):Int)>0))=true) (aK [.int .i64 z.t])|10=>fQ ((decide (((n:Nat):Int)>0))=true) (Ty.is (.int .i64 z.t))|11=>fQ ((decide (((n:Nat):Int)>0))=true) (Ty.is (.bool (decide ((q.f:Int)<=z.t))))|12=>Ty.is (.bool ((decide (((n:Nat):Int)>0))&&(decide ((q.f:Int)<=z.t))))|_=>Ty.any) (by kernel_rfl) rfl ?_;intro v;refine⟨?_,?_,?_,?_,?_,?_,?_,?_,?_,?_,?_,?_,?_,?_⟩
       ·exact fun wq hq _=>ak rfl (aF (.tmp 6) rfl rfl rfl)
       ·rintro wq hq ⟨h0,-⟩;exact ak rfl (eF .gtr 3 3 (.tmp 41) _ rfl _ _ h0 rfl (rV _ _ _) rfl)
       ·rintro wq hq ⟨h0,-⟩;exact ak rfl (aF (.tmp 42) rfl h0 rfl)
       ·rintro wq hq ⟨h0,-⟩
        change v 2=_ at h0;refine bg 2 true ((decide (((n:Nat):Int)>0))) rfl (aV rfl h0) (fun hg=> ?_) (fun hg=> ?_)
        ·refine bL.gd (p:=(decide (((n:Nat):Int)>0))=true) (T:=aK [.int .i64 q.f]) ?_
         exact dB 114 0 (.tmp 8) rfl _ underlying114 _ rfl 1 sizeOf3 (by decide) [.int .i64 q.f,.int .i64 q.t] ((jh.out _ hq))
        ·intro hn;rw[hn]at hg;cases hg
       ·rintro wq hq ⟨h0,h1,-⟩
        change ((decide (((n:Nat):Int)>0))=true)->(aK [.int .i64 q.f]).p (v 3) wq at h0;change v 2=_ at h1;refine bg 2 true ((decide (((n:Nat):Int)>0))) rfl (aV rfl h1) (fun hg=> ?_) (fun hg=> ?_)
        ·refine bL.gd (p:=(decide (((n:Nat):Int)>0))=true) (T:=Ty.is (.int .i64 q.f)) ?_
         replace h0:=h0 hg;exact bW 3 (.tmp 44) rfl isAgg3 (c:=.int .i64 q.f) h0 rfl
        ·intro hn;rw[hn]at hg;cases hg
       ·rintro wq hq ⟨h0,-⟩
        change v 2=_ at h0;refine bg 2 true ((decide (((n:Nat):Int)>0))) rfl (aV rfl h0) (fun hg=> ?_) (fun hg=> ?_)
        ·refine bL.gd (p:=(decide (((n:Nat):Int)>0))=true) (T:=Ty.is (.slice (some ⟨g,0,none⟩) N cO)) ?_
         exact aF (.tmp 3) rfl rfl rfl
        ·intro hn;rw[hn]at hg;cases hg
       ·rintro wq hq ⟨h0,-⟩
        change v 2=_ at h0;refine bg 2 true ((decide (((n:Nat):Int)>0))) rfl (aV rfl h0) (fun hg=> ?_) (fun hg=> ?_)
        ·refine bL.gd (p:=(decide (((n:Nat):Int)>0))=true) (T:=Ty.is (.int .i64 (n:Nat))) ?_
         exact aF (.tmp 6) rfl rfl rfl
        ·intro hn;rw[hn]at hg;cases hg
       ·rintro wq hq ⟨h0,h1,-⟩
        change ((decide (((n:Nat):Int)>0))=true)->v 6=_ at h0;change v 2=_ at h1;refine bg 2 true ((decide (((n:Nat):Int)>0))) rfl (aV rfl h1) (fun hg=> ?_) (fun hg=> ?_)
        ·refine bL.gd (p:=(decide (((n:Nat):Int)>0))=true) (T:=Ty.is (.int .i64 ((n-1:Nat):Int))) ?_
         replace h0:=h0 hg;exact eF .sub 3 3 (.tmp 47) (.const (.int .i64 1)) rfl _ _ h0 rfl (fun w=>(zf _ _ _ (by omega) (by omega) w).trans (by have:=of_decide_eq_true hg;congr 2;omega)) rfl
        ·intro hn;rw[hn]at hg;cases hg
       ·rintro wq hq ⟨h0,h1,h2,-⟩
        change ((decide (((n:Nat):Int)>0))=true)->v 5=_ at h0;change ((decide (((n:Nat):Int)>0))=true)->v 7=_ at h1;change v 2=_ at h2;refine bg 2 true ((decide (((n:Nat):Int)>0))) rfl (aV rfl h2) (fun hg=> ?_) (fun hg=> ?_)
        ·refine bL.gd (p:=(decide (((n:Nat):Int)>0))=true) (T:=aK [.int .i64 z.f,.int .i64 z.t]) ?_
         replace h0:=h0 hg;replace h1:=h1 hg;exact iq cK (.tmp 46) (.tmp 48) rfl _ Y cO (h0.trans (by rw[HY.out])) (n-1) h1 (yV.out _ hq) z (Hnz.out (by have:=of_decide_eq_true hg;omega))
        ·intro hn;rw[hn]at hg;cases hg
       ·rintro wq hq ⟨h0,h1,-⟩
        change ((decide (((n:Nat):Int)>0))=true)->(aK [.int .i64 z.f,.int .i64 z.t]).p (v 8) wq at h0;change v 2=_ at h1;refine bg 2 true ((decide (((n:Nat):Int)>0))) rfl (aV rfl h1) (fun hg=> ?_) (fun hg=> ?_)
        ·refine bL.gd (p:=(decide (((n:Nat):Int)>0))=true) (T:=aK [.int .i64 z.t]) ?_
         replace h0:=h0 hg;exact dB 114 1 (.tmp 49) rfl _ underlying114 _ rfl 1 sizeOf3 (by decide) [.int .i64 z.f,.int .i64 z.t] (h0)
        ·intro hn;rw[hn]at hg;cases hg
       ·rintro wq hq ⟨h0,h1,-⟩
        change ((decide (((n:Nat):Int)>0))=true)->(aK [.int .i64 z.t]).p (v 9) wq at h0;change v 2=_ at h1;refine bg 2 true ((decide (((n:Nat):Int)>0))) rfl (aV rfl h1) (fun hg=> ?_) (fun hg=> ?_)
        ·refine bL.gd (p:=(decide (((n:Nat):Int)>0))=true) (T:=Ty.is (.int .i64 z.t)) ?_
         replace h0:=h0 hg;exact bW 3 (.tmp 50) rfl isAgg3 (c:=.int .i64 z.t) h0 rfl
        ·intro hn;rw[hn]at hg;cases hg
       ·rintro wq hq ⟨h0,h1,h2,-⟩
        change ((decide (((n:Nat):Int)>0))=true)->v 4=_ at h0;change ((decide (((n:Nat):Int)>0))=true)->v 10=_ at h1;change v 2=_ at h2;refine bg 2 true ((decide (((n:Nat):Int)>0))) rfl (aV rfl h2) (fun hg=> ?_) (fun hg=> ?_)
        ·refine bL.gd (p:=(decide (((n:Nat):Int)>0))=true) (T:=Ty.is (.bool (decide ((q.f:Int)<=z.t)))) ?_
         replace h0:=h0 hg;replace h1:=h1 hg;exact eF .leq 3 3 (.tmp 45) (.tmp 51) rfl _ _ h0 h1 (Vg _ _ _) rfl
        ·intro hn;rw[hn]at hg;cases hg
       ·rintro wq hq ⟨h0,h1,-⟩;exact ak rfl (I7 (.tmp 43) (.tmp 52) rfl rfl _ _ h0 (fun hgd=>h1 hgd) rfl)
       ·intro wq hq hT
        have k12:=hT 12 (by decide);change v 12=_ at k12;clear hT;simp only[List.drop_succ_cons,List.drop_zero,gH,dK,List.set_cons_succ,List.set_cons_zero,Nat.reduceAdd];rw[k12];generalize (decide ((n:Int)>0)&&decide (q.f<=z.t))=BB at Hf⊢;go_wp2_with fail
        go_meet
        case rel=>exact⟨⟨wq,rfl,hq⟩,BB,rfl,Hf⟩
      case rest=>
      obtain⟨⟨w5,O4,hwc⟩,bb,hbb,BQ⟩:=hcut;have aq1:=O4.symm;clear O4;subst aq1 hbb;have sW:=ah (jq.out.ext hwc hl3);have HR5:=ah (HR3.out.ext hwc);have mG:=ah (eU.out.trans hwc);have hl5:wr.heap.size<w5.heap.size:=bQ hl3 hwc.size;have hnb:n<=4194304:=by have:=DV.out;have:=sN.out;omega
      have hlz:=DV.out;clear jq HR3 eU hl3 p0 p1;have jh:=ah (show∀wq,Ext w5 wq->(aK [.int .i64 q.f,.int .i64 q.t]).p (.pointer (some ⟨wr.heap.size,0,none⟩)) wq from fun wq he=>⟨wr.heap.size,0,rfl,bQ hl5 he.size,fun j u hu=>sW.out.ext he hl5 j u hu⟩);cases bb with
      |true=>
       obtain⟨L,z,RO,hqz⟩:∃L z,M=L++[z]/\q.f<=z.t:=by
        have h:=BQ.out;rcases LX M with rfl|⟨L,z,rfl⟩
        ·simp[EA]at h
        ·refine⟨L,z,rfl,?_⟩
         simp[EA]at h;exact h
       subst RO;have Ws:=ah (show n=L.length+1 from by rw[<-sN.out];simp)
       have HJ:=ah (show FL ys (i+1) (L++[⟨z.f,max z.t q.t⟩])from by
        have h:=HM.out.join DI.out fI.out hiy (by rw[Hq.out];exact hqz)
        rwa[Hq.out]at h)
       have hLY:L.length<Y.length:=by
        have h1:(L++[z]).length<=i:=DV.out;rw[eu,List.length_singleton]at h1;rw[HY.out];omega
       have Hz:=ah (show Y[L.length]? =some z from by rw[<-Wq.out];simp);obtain⟨A0,z0,hv0,hcap,hsl0⟩:=HR5.out.form;simp only[Value.slice.injEq]at hv0;obtain⟨R7,hN0,hz0⟩:=hv0;rw[<-R7]at hsl0;have yV:=ah (fun wq (he:Ext w5 wq)=>hsl0.ext he);have hcO:N<=cO:=by rw[hz0];rw[<-HY.out];exact hcap
       have hLN:L.length<N:=by rw[<-HY.out];exact hLY
       have HYs:=ah (show Y.set L.length ⟨z.f,max z.t q.t⟩=(L++[⟨z.f,max z.t q.t⟩])++ys.drop (L++[(⟨z.f,max z.t q.t⟩:bK)]).length from by
        rw[<-Wq.out];simp)
       clear R7 hN0 hz0 hsl0 HM DV hqz BQ Wq;go_upto_region 15 with fail
       refine iJ 14 (fun i=>match i with|0=>Ty.is (.slice (some ⟨g,0,none⟩) N cO)|1=>Ty.is (.int .i64 (n:Nat))|2=>Ty.is (.int .i64 (L.length:Nat))|3=>Ty.is (.slice (some ⟨g,0,none⟩) N cO)|4=>Ty.is (.int .i64 (n:Nat))|5=>Ty.is (.int .i64 (L.length:Nat))|6=>aK [.int .i64 z.f,.int .i64 z.t]|7=>aK [.int .i64 z.t]|8=>Ty.is (.int .i64 z.t)|9=>aK [.int .i64 q.t]|10=>Ty.is (.int .i64 q.t)|11=>Ty.is (.int .i64 (max z.t q.t))|12=>Ty.is (.pointer (some ⟨g,L.length*2,none⟩))|13=>Ty.is (.pointer (some ⟨g,L.length*2+1,none⟩))|_=>Ty.any) (by kernel_rfl) (by kernel_rfl) (by kernel_rfl) (by decide) rfl ?_;intro v;refine⟨?_,?_,?_,?_,?_,?_,?_,?_,?_,?_,?_,?_,?_,?_,?_⟩
       ·exact fun wq hq _=>ak rfl (aF (.tmp 3) rfl rfl rfl)
       ·exact fun wq hq _=>ak rfl (aF (.tmp 6) rfl rfl rfl)
       ·rintro wq hq ⟨h0,-⟩;exact ak rfl (eF .sub 3 3 (.tmp 55) (.const (.int .i64 1)) rfl _ _ h0 rfl (fun w=>(zf _ _ _ (by omega) (by omega) w).trans (by have:=Ws.out;congr 2;omega)) rfl)
       ·exact fun wq hq _=>ak rfl (aF (.tmp 3) rfl rfl rfl)
       ·exact fun wq hq _=>ak rfl (aF (.tmp 6) rfl rfl rfl)
       ·rintro wq hq ⟨h0,-⟩;exact ak rfl (eF .sub 3 3 (.tmp 58) (.const (.int .i64 1)) rfl _ _ h0 rfl (fun w=>(zf _ _ _ (by omega) (by omega) w).trans (by have:=Ws.out;congr 2;omega)) rfl)
       ·rintro wq hq ⟨h0,h1,-⟩
        change v 3=_ at h0;change v 5=_ at h1;refine ak rfl ?_;exact iq cK (.tmp 57) (.tmp 59) rfl _ Y cO (h0.trans (by rw[HY.out])) L.length h1 (yV.out _ hq) z Hz.out
       ·rintro wq hq ⟨h0,-⟩;exact ak rfl (dB 114 1 (.tmp 60) rfl _ underlying114 _ rfl 1 sizeOf3 (by decide) [.int .i64 z.f,.int .i64 z.t] (h0))
       ·rintro wq hq ⟨h0,-⟩;exact ak rfl (bW 3 (.tmp 61) rfl isAgg3 (c:=.int .i64 z.t) h0 rfl)
       ·exact fun wq hq _=>ak rfl (dB 114 1 (.tmp 8) rfl _ underlying114 _ rfl 1 sizeOf3 (by decide) [.int .i64 q.f,.int .i64 q.t] ((jh.out _ hq)))
       ·rintro wq hq ⟨h0,-⟩;exact ak rfl (bW 3 (.tmp 63) rfl isAgg3 (c:=.int .i64 q.t) h0 rfl)
       ·rintro wq hq ⟨h0,h1,-⟩;exact ak rfl (ahR (.tmp 62) (.tmp 64) rfl rfl z.t q.t h0 h1 rfl)
       ·rintro wq hq ⟨h0,h1,h2,h3,h4,h5,h6,h7,h8,h9,h10,h11,h12,CB,-⟩;exact ak rfl (Gw cK (.tmp 54) (.tmp 56) rfl g N cO L.length h0 h1 (by have:=Ws.out;omega) rfl)
       ·rintro wq hq ⟨h0,h1,h2,h3,h4,h5,h6,h7,h8,h9,h10,h11,h12,-⟩;exact ak rfl (mX 114 1 (.tmp 66) rfl _ underlying114 _ rfl 1 sizeOf3 (by decide) g (L.length*2) h0 rfl)
       ·intro wq hq hT
        have k11:=hT 11 (by decide);change v 11=_ at k11;have k13:=hT 13 (by decide);change v 13=_ at k13;clear hT;simp only[List.drop_succ_cons,List.drop_zero,gH,dK,List.set_cons_succ,List.set_cons_zero,Nat.reduceAdd];rw[k11];rw[k13];go_wp2_with (refine Qp cK rfl 3 (.tmp 67) (.tmp 65) rfl g cO L.length 1 (L.length*2+1) ⟨z.f,max z.t q.t⟩ (.int .i64 (max z.t q.t)) rfl rfl rfl rfl rfl sizeOf3 (by rw[HY.out];exact HR5.out.ext hq) (by rw[HY.out];exact hLN) (by decide) (by have h:Y[L.length]'hLY=z:=(List.getElem?_eq_some_iff.1 Hz.out).2;rw[h];rfl) ?_;intro w4 hw4 dP dQ dR hs4 kC;have O5:=ah (show Own cK w.heap.size w4 (.slice (some ⟨g,0,none⟩) N cO) ((L++[⟨z.f,max z.t q.t⟩])++ys.drop (L++[(⟨z.f,max z.t q.t⟩:bK)]).length)from by rw[<-HYs.out];rw[HY.out]at kC;exact kC);have hx4:=(mG.out.trans hq).put (b:=g) hbg hw4 dP dQ dR hs4;clear hw4 dP dQ dR kC hs4)
        go_roundw
        case rel=>exact⟨i+1,_,by omega,(by rw[eu,List.length_singleton];exact nI (fun z=>Value.int .i64 ((z:Nat):Int)) Ws.out),by go_num,HJ,O5,hx4⟩
        case measure=>simp[intOf];omega
      |false=>
       have HJ:=ah (show FL ys (i+1) (M++[q])from by
        have hb:∀y∈M,y.t<q.f:=by
         have h:=BQ.out;rcases LX M with rfl|⟨L,z,rfl⟩
         ·intro y hy
          simp at hy
         ·simp[EA]at h
          exact HM.out.norm.below h
        have h:=HM.out.new DI.out fI.out hiy (by rw[Hq.out];exact hb)
        rwa[Hq.out]at h)
       have hnN:n<N:=by have:=DV.out;have:=sN.out;omega
       have HYs:=ah (show Y.set n q=(M++[q])++ys.drop (M++[q]).length from by
        rw[<-Wq.out,<-sN.out,List.set_append_right _ _ (aI _),Nat.sub_self,show ys.drop M.length=ys[M.length]'(by have:=sN.out;have:=GQ.out;omega)::ys.drop (M.length+1)from iW _,List.set_cons_zero,eu,List.length_singleton,dV];rfl)
       have hq0:Y.length=N:=HY.out;clear HM BQ Wq hq0;go_wp2_with (first|((with_reducible refine au cK (.tmp 8) ?_ ?_ ?_ wr.heap.size 0 ?_ q ?_ ?_);rfl;rfl;rfl;rfl;exact sW.out)|(refine nU cK rfl (.tmp 71) (.tmp 70) rfl g cO n (n*2) q _ rfl rfl rfl rfl (by rw[HY.out];exact HR5.out) (by rw[HY.out];exact hnN) ?_;intro w4 hw4 dP dQ dR hs4 kC;have O5:=ah (show Own cK w.heap.size w4 (.slice (some ⟨g,0,none⟩) N cO) ((M++[q])++ys.drop (M++[q]).length)from by rw[<-HYs.out];rw[HY.out]at kC;exact kC);have hx4:=mG.out.put (b:=g) hbg hw4 dP dQ dR hs4;clear hw4 dP dQ dR kC hs4))
       go_roundw
       case rel=>exact⟨i+1,M++[q],by omega,(by rw[eu,List.length_singleton,sN.out];go_num),by go_num,HJ,O5,hx4⟩
       case measure=>simp[intOf];omega
     ·have f3:=fT i N
      have Hme:=ah (fun d=>show dz M d=P d from by have:=HM.out.mem d;rw[gY (by omega)]at this;rw[this];exact Hpm.out d)
      obtain⟨c0,hc0,hsl0⟩:∃c0,N<=cO/\c0=(M++ys.drop M.length)/\Sl cK wr (some ⟨g,0,none⟩) c0:=by
       obtain⟨A0,z0,hv0,hcap,hsl0⟩:=HR.out.form;cases hv0
       exact⟨_,by have:=DV.out;simp at hcap;omega,rfl,hsl0⟩
      obtain⟨hc1,hsl1⟩:=hsl0;have hc2:c0.length=N:=by have:=DV.out;rw[hc1];simp;omega
      have aq2:=ah (show c0.take M.length=M from by rw[hc1];simp);have hc3:M.length<=c0.length:=by have:=DV.out;omega
      have sQ:=ah hc2;clear hc1 HR;go_wp2_with (refine Vd cK rfl (.tmp 75) (.tmp 76) rfl (nI (fun z=>Value.slice (some ⟨g,0,none⟩) z cO) sQ.out.symm) _ rfl hsl1 M.length rfl hc3 (by rw[sQ.out];exact hc0) ?_;intro Az lz cz hlz hcz hsz;have ez:lz=M:=(by rw[hlz.out,aq2.out]);subst ez)
      go_ret;exact⟨Az,cz,lz,rfl,hcz,hsz,HM.out.norm,Hme.out,jf⟩
theorem O6:∀(l:List bK) (lo:Int),Norm l->lo<=1048578->(∀x∈l,lo<=x.f)->(l.length:Int)*2<=1048578-lo
 |[],lo,_,h,_=>by simp;omega
 |x::l,lo,h,h1,h2=>by
  have hx:=h.ok x (by simp);have hlo:=h2 x (by simp);have:=O6 l (x.t+1) h.tail (by omega) (fun y hy=>by have:=(List.pairwise_cons.1 h.up).1 y hy;omega);simp only[iX];omega
theorem Norm.len2{l:List bK}(h:Norm l):l.length<=524289:=by
 have:=O6 l 0 h (by omega) (fun x hx=>(h.ok x hx).1);omega
theorem Vp{zs:List Int}{x:Int}(h:x∈zs):x∈Lib.compact zs:=by
 obtain⟨j,hj,rfl⟩:=List.getElem_of_mem h;unfold Lib.compact Lib.compactUpTo
 have go:∀(n j:Nat) (hj:j<zs.length),j=n->zs[j]∈((List.range zs.length).filter (Lib.keeps zs.toArray)).map (zs.toArray[·]!):=by
  intro n
  induction n with
  |zero=>
   intro j hj hn;subst hn;refine List.mem_map.2 ⟨0,List.mem_filter.2 ⟨List.mem_range.2 hj,by simp[Lib.keeps]⟩,by simp[hj]⟩
  |succ n ih=>
   intro j hj hn;subst hn;by_cases hk:Lib.keeps zs.toArray (n+1)=true
   ·exact List.mem_map.2 ⟨n+1,List.mem_filter.2 ⟨List.mem_range.2 hj,hk⟩,by simp[hj]⟩
   ·have h0:=ih n (by omega) rfl
    have e:zs[n+1]=zs[n]:=by
     simp only[Lib.keeps,Bool.not_eq_true]at hk;simp at hk;have h1:n<zs.length:=by omega
     simpa[fP hj,fP h1]using hk
    rw[e];exact h0
 exact go j j hj rfl
theorem XY{zs:List Int}(h:zs.Pairwise fun x y=>x<=y):(Lib.compact zs).Pairwise fun x y=>x<=y:=by
 unfold Lib.compact Lib.compactUpTo;rw[List.pairwise_map]
 have hr:(List.range zs.length).Pairwise fun i j=>i<j/\j<zs.length:=by
  rw[List.pairwise_iff_getElem];intro i j hi hj hij;simp at hi hj⊢;exact⟨hij,hj⟩
 refine(hr.sublist List.filter_sublist).imp fun {i j} hij=> ?_;have hi:i<zs.length:=by omega
 have:=List.pairwise_iff_getElem.1 h i j hi hij.2 hij.1;simpa[hi,hij.2]using this
def yX(p:Int->Bool)(cs:List Int):Nat->List bK
 |0=>[]
 |n+1=>yX p cs n++if p (cs.getD n 0)then [⟨cs.getD n 0,cs.getD (n+1) 0⟩]else []
theorem adH(p:Int->Bool)(cs:List Int):∀n,(yX p cs n).length<=n
 |0=>aI _
 |n+1=>by
  have:=adH p cs n;rw[yX,eu]
  split<;>simp<;>omega
theorem Ky(p:Int->Bool)(cs:List Int)(x:Int):∀n,dz (yX p cs n) x=true↔∃j,j<n/\p (cs.getD j 0)=true/\cs.getD j 0<=x/\x<cs.getD (j+1) 0
 |0=>by simp[yX,dz]
 |n+1=>by
  rw[yX,rX,Bool.or_eq_true,Ky p cs x n]
  constructor
  ·rintro(⟨j,h1,h2⟩|h)
   ·exact⟨j,by omega,h2⟩
   ·split at h
    ·rename_i hp
     rw[vQ]at h;simp only[Bool.and_eq_true,decide_eq_true_eq]at h;exact⟨n,by omega,hp,h⟩
    ·simp[dz]at h
  ·rintro⟨j,h1,h2,h3⟩
   rcases gM j n with hj|hj
   ·exact .inl ⟨j,hj,h2,h3⟩
   ·have:j=n:=by omega
    subst this
    right
    rw[bH h2,vQ];simpa using h3
theorem Kz(l:List bK)(d:Int):dz l d=true↔∃s∈l,s.f<=d/\d<s.t:=by
 simp[dz,List.any_eq_true]
theorem O7{l:List bK}{c x:Int}(hcx:c<=x)(h:∀s∈l,¬(c<s.f/\s.f<=x)/\¬(c<s.t/\s.t<=x)):dz l x=dz l c:=by
 apply Bool.eq_iff_iff.2;rw[Kz,Kz]
 constructor
 ·rintro⟨s,hs,h1,h2⟩
  have:=h s hs;exact⟨s,hs,by omega,by omega⟩
 ·rintro⟨s,hs,h1,h2⟩
  have:=h s hs;exact⟨s,hs,by omega,by omega⟩
theorem qR{cs:List Int}{i:Nat}(h:i<cs.length):cs.getD i 0=cs[i]:=by simp[List.getD_eq_getElem?_getD,h]
theorem adI{cs:List Int}{a b:List bK}(g:Bool->Bool->Bool)(hg:g false false=false)(hcs:cs.Pairwise fun x y=>x<=y)
 (ha:∀s∈a,s.f∈cs/\s.t∈cs) (hb:∀s∈b,s.f∈cs/\s.t∈cs) (x:Int):
 dz (yX (fun c=>g (dz a c) (dz b c)) cs (cs.length-1)) x=g (dz a x) (dz b x):=by
 have hle:∀i j (hi:i<cs.length) (hj:j<cs.length),i<=j->cs[i]<=cs[j]:=fun i j hi hj hij=>by
  rcases gM i j with h|h
  ·exact List.pairwise_iff_getElem.1 hcs i j hi hj h
  ·have:i=j:=by omega
   subst this;exact Int.le_refl _
 have hnot:∀i (hi:i+1<cs.length),cs[i]<=x->x<cs[i+1]->∀e∈cs,¬(cs[i]<e/\e<=x):=by
  intro i hi h1 h2 e he h3;obtain⟨j,hj,rfl⟩:=List.getElem_of_mem he;rcases gM i j with h|h
  ·have:=hle (i+1) j hi hj h
   omega
  ·have:=hle j i hj (by omega) h
   omega
 have same:∀i (hi:i+1<cs.length),cs[i]<=x->x<cs[i+1]->g (dz a cs[i]) (dz b cs[i])=g (dz a x) (dz b x):=by
  intro i hi h1 h2;have hn:=hnot i hi h1 h2;rw[O7 h1 (fun s hs=>⟨hn _ (ha s hs).1,hn _ (ha s hs).2⟩),O7 h1 (fun s hs=>⟨hn _ (hb s hs).1,hn _ (hb s hs).2⟩)]
 by_cases hin:∃i,i+1<cs.length/\cs.getD i 0<=x/\x<cs.getD (i+1) 0
 ·obtain⟨i,hi,h1,h2⟩:=hin
  rw[qR (by omega)]at h1;rw[qR hi]at h2;apply Bool.eq_iff_iff.2;rw[Ky]
  constructor
  ·rintro⟨j,hj,hp,h3,h4⟩
   have hj1:j+1<cs.length:=by omega
   rw[qR (by omega)]at hp h3;rw[qR hj1]at h4;rw[<-same j hj1 h3 h4];exact hp
  ·intro hp
   refine⟨i,by omega,?_,?_,?_⟩
   ·rw[qR (by omega)]
    show g (dz a cs[i]) (dz b cs[i])=true;rw[same i hi h1 h2];exact hp
   ·rw[qR (by omega)];exact h1
   ·rw[qR hi];exact h2
 ·have out:∀l:List bK,(∀s∈l,s.f∈cs/\s.t∈cs)->dz l x=false:=by
   intro l hl;rcases h:dz l x with _|_
   ·rfl
   ·exfalso
    obtain⟨s,hs,h1,h2⟩:=(Kz l x).1 h;obtain⟨p,hp,ep⟩:=List.getElem_of_mem (hl s hs).1;obtain⟨q,hq,eq⟩:=List.getElem_of_mem (hl s hs).2
    have go:∀n k,k+n=q->p<=k->∀hk:k<cs.length,cs[k]<=x->∃i,i+1<cs.length/\cs.getD i 0<=x/\x<cs.getD (i+1) 0:=by
     intro n
     induction n with
     |zero=>
      intro k hkq _ hk hx;have:k=q:=by omega
      subst this;rw[eq]at hx;omega
     |succ n ih=>
      intro k hkq hpk hk hx;have hk1:k+1<cs.length:=by omega
      by_cases h3:cs[k+1]<=x
      ·exact ih (k+1) (by omega) (by omega) hk1 h3
      ·exact⟨k,hk1,by rw[qR hk];exact hx,by rw[qR hk1];omega⟩
    have hpq:p<=q:=by
     rcases gM q p with h3|h3
     ·have:=hle q p hq hp (by omega)
      omega
     ·exact h3
    exact hin (go (q-p) p (by omega) (aI _) hp (by omega))
  rw[out a ha,out b hb,hg];rcases h:dz (yX (fun c=>g (dz a c) (dz b c)) cs (cs.length-1)) x with _|_
  ·rfl
  ·obtain⟨j,hj,_,h3⟩:=(Ky _ cs x _).1 h
   exact absurd ⟨j,by omega,h3⟩ hin
end Go.Proofs.YtgboomjahhnldaaGreatDoor
namespace Go.Proofs
open Go.Shelf
def Tryz.sortI_ren:Go.Shelf.Ren:=⟨fun|5=>200|8=>62|7=>224|19=>91|20=>92|10=>251|11=>252|12=>253|13=>254|14=>255|15=>256|16=>257|17=>258|18=>259|30=>272|31=>153|32=>154|33=>273|34=>274|35=>43|40=>281|n=>n,fun|23=>103|25=>3|3=>3|32=>130|22=>103|0=>0|44=>158|46=>160|4=>4|36=>152|35=>151|41=>111|5=>5|9=>9|53=>193|57=>197|63=>241|64=>242|n=>n,fun|n=>n⟩
theorem Tryz.sortI:Go.Proofs.SlLaysM.n5 prog Tryz.sortI_ren:={
 mixed:=by kernel_rfl
 f5:=⟨Tryz.f200.name,by decide,func200.trans (congrArg some (by kernel_rfl))⟩
 f7:=⟨Tryz.f224.name,by decide,func224.trans (congrArg some (by kernel_rfl))⟩
 f8:=func62.trans (congrArg some (by kernel_rfl))
 f10:=⟨Tryz.f251.name,by decide,func251.trans (congrArg some (by kernel_rfl))⟩
 f11:=⟨Tryz.f252.name,by decide,func252.trans (congrArg some (by kernel_rfl))⟩
 f12:=⟨Tryz.f253.name,by decide,func253.trans (congrArg some (by kernel_rfl))⟩
 f13:=⟨Tryz.f254.name,by decide,func254.trans (congrArg some (by kernel_rfl))⟩
 f14:=⟨Tryz.f255.name,by decide,func255.trans (congrArg some (by kernel_rfl))⟩
 f15:=⟨Tryz.f256.name,by decide,func256.trans (congrArg some (by kernel_rfl))⟩
 f16:=⟨Tryz.f257.name,by decide,func257.trans (congrArg some (by kernel_rfl))⟩
 f17:=⟨Tryz.f258.name,by decide,func258.trans (congrArg some (by kernel_rfl))⟩
 f18:=⟨Tryz.f259.name,by decide,func259.trans (congrArg some (by kernel_rfl))⟩
 f19:=func91.trans (congrArg some (by kernel_rfl))
 f20:=func92.trans (congrArg some (by kernel_rfl))
 f30:=⟨Tryz.f272.name,by decide,func272.trans (congrArg some (by kernel_rfl))⟩
 f31:=func153.trans (congrArg some (by kernel_rfl))
 f32:=func154.trans (congrArg some (by kernel_rfl))
 f33:=⟨Tryz.f273.name,by decide,func273.trans (congrArg some (by kernel_rfl))⟩
 f34:=⟨Tryz.f274.name,by decide,func274.trans (congrArg some (by kernel_rfl))⟩
 f35:=⟨Tryz.f43.name,by decide,func43.trans (congrArg some (by kernel_rfl))⟩
 f40:=⟨Tryz.f281.name,by decide,func281.trans (congrArg some (by kernel_rfl))⟩
 t0:=underlying0
 a0:=isAgg0
 z0:=sizeOf0
 v0:=Tryz.zeroValue0
 t3:=underlying3
 a3:=isAgg3
 z3:=sizeOf3
 v3:=Tryz.zeroValue3
 t4:=underlying4
 a4:=isAgg4
 z4:=sizeOf4
 v4:=Tryz.zeroValue4
 t5:=underlying5
 a5:=isAgg5
 z5:=sizeOf5
 v5:=Tryz.zeroValue5
 t9:=underlying9
 a9:=isAgg9
 z9:=sizeOf9
 v9:=Tryz.zeroValue9
 t22:=underlying103
 a22:=isAgg103
 z22:=sizeOf103
 v22:=Tryz.zeroValue103
 t23:=underlying103
 a23:=isAgg103
 z23:=sizeOf103
 v23:=Tryz.zeroValue103
 t25:=underlying3
 a25:=isAgg3
 z25:=sizeOf3
 v25:=Tryz.zeroValue3
 t32:=underlying130
 a32:=isAgg130
 z32:=sizeOf130
 v32:=Tryz.zeroValue130
 t35:=underlying151
 a35:=isAgg151
 z35:=sizeOf151
 v35:=Tryz.zeroValue151
 t36:=underlying152
 a36:=isAgg152
 z36:=sizeOf152
 v36:=Tryz.zeroValue152
 t41:=underlying111
 a41:=isAgg111
 z41:=sizeOf111
 v41:=Tryz.zeroValue111
 t44:=underlying158
 a44:=isAgg158
 z44:=sizeOf158
 v44:=Tryz.zeroValue158
 t46:=underlying160
 a46:=isAgg160
 z46:=sizeOf160
 v46:=Tryz.zeroValue160
 t53:=underlying193
 a53:=isAgg193
 z53:=sizeOf193
 v53:=Tryz.zeroValue193
 t57:=underlying197
 a57:=isAgg197
 z57:=sizeOf197
 v57:=Tryz.zeroValue197
 t63:=underlying241
 a63:=isAgg241
 z63:=sizeOf241
 v63:=Tryz.zeroValue241
 t64:=underlying242
 a64:=isAgg242
 z64:=sizeOf242
 v64:=Tryz.zeroValue242}
end Go.Proofs
