/- A part of the proof of TopWritten, printed small: SameW FindW Mark TextsW RefStampW RowW. -/
import Derived.Test.YtgboomjahhnldaaGreatDoorZ03
import Derived.Test.YtgboomjahhnldaaGreatDoorZ04
set_option maxRecDepth 100000
set_option maxHeartbeats 25600000
set_option linter.all false
namespace Go.Proofs.YtgboomjahhnldaaGreatDoor
open Go.Proofs.Tryz Go.RowKit
theorem aed(A B:Option Addr)(c d:Nat)(xs ys:List ByteArray)(w:World)(hx:Sl bP w A xs)(hy:Sl bP w B ys)(hn:xs.length<=9223372036854775807):
 Calls prog 11 #[.slice A xs.length c,.slice B ys.length d] w fun e w'=>e=.returned (.bool (decide (xs=ys)))/\∃m,w'=w.drewN m:=by
 by_cases hl:xs.length=ys.length
 ·have hle:((xs.length:Int) !=(ys.length:Int))=false:=by simp[hl]
  have Hl:=ah hl;clear hl;go_enter func11,ntmps11
  go_wp2
  go_loopw [5] (fun i wr=>∃k:Nat,k<=xs.length/\i=.int .i64 k/\xs.take k=ys.take k/\∃m,wr=w.drewN m) (fun i _=>xs.length-(intOf i).toNat)
  case atStart=>exact⟨0,bI _,rfl,rfl,0,rfl⟩
  case round=>
   obtain⟨k,hk,rfl,heq,m,rfl⟩:=hrel;have Heq:=ah heq;clear heq;by_cases hlt:k<xs.length
   ·have hlt':k<ys.length:=by rw[<-Hl.out];exact hlt
    obtain⟨b,off,rfl,hb,hc0⟩:=I8 hx hlt;obtain⟨b',off',rfl,hb',hd0⟩:=I8 hy hlt';obtain⟨s,hs⟩:=aH (xs[k]);obtain⟨s',hs'⟩:∃s,ys[k]=s:=⟨_,rfl⟩;rw[hs]at hc0;rw[hs']at hd0;have Hs:=ah hs;have Tz:=ah hs';clear hs hs';by_cases he:s=s'
    ·have hbq:(s.toList==s'.toList)=true:=by rw[zB];simp[he]
     have He:=ah he;clear he;go_wp2;go_quiet (fail)
     go_wp2;go_roundw
     case rel=>exact⟨k+1,by omega,by go_num,(Bt hlt hlt').2 ⟨Heq.out,by rw[Hs.out,Tz.out,He.out]⟩,_,rfl⟩
     case measure=>simp[intOf];omega
    ·have hbq:(s.toList==s'.toList)=false:=by rw[zB];simp[he]
     go_wp2;go_quiet (fail)
     go_wp2;go_ret;refine⟨oU (aY ?_).symm,_,World.drewN_drewN _ _ _⟩;rintro rfl;exact he (Hs.out.symm.trans Tz.out)
   ·obtain rfl:k=xs.length:=by omega
    go_wp2;go_ret;refine⟨oU (bJ ?_).symm,_,rfl⟩;have:=Heq.out
    rwa[List.take_length,Hl.out,List.take_length]at this
 ·have hle:((xs.length:Int) !=(ys.length:Int))=true:=by simp;omega
  go_enter func11,ntmps11
  go_wp2;go_ret;refine⟨oU (aY ?_).symm,0,rfl⟩;rintro rfl;exact hl rfl
theorem Ip(A B:Option Addr)(c d:Nat)(xs ys:List ByteArray)(w:World)(hx:Sl bP w A xs)(hy:Sl bP w B ys)(hn:xs.length<=9223372036854775807):
 Calls prog 143 #[.slice A xs.length c,.slice B ys.length d] w fun e w'=>e=.returned (.bool (decide (xs=ys)))/\∃m,w'=w.drewN m:=by
 by_cases hl:xs.length=ys.length
 ·have hle:((xs.length:Int) !=(ys.length:Int))=false:=by simp[hl]
  have Hl:=ah hl;clear hl;go_enter func143,ntmps143
  go_wp2
  go_loopw [5,13] (fun u5 i wr=>∃k:Nat,k<=xs.length/\i=.int .i64 k/\xs.take k=ys.take k/\∃m,wr=w.drewN m) (fun _ i _=>xs.length-(intOf i).toNat)
  case atStart=>exact⟨0,bI _,rfl,rfl,0,rfl⟩
  case round=>
   obtain⟨k,hk,rfl,heq,m,rfl⟩:=hrel;have Heq:=ah heq;clear heq;by_cases hlt:k<xs.length
   ·have hlt':k<ys.length:=by rw[<-Hl.out];exact hlt
    obtain⟨b,off,rfl,hb,hc0⟩:=I8 hx hlt;obtain⟨b',off',rfl,hb',hd0⟩:=I8 hy hlt';obtain⟨s,hs⟩:=aH (xs[k]);obtain⟨s',hs'⟩:∃s,ys[k]=s:=⟨_,rfl⟩;rw[hs]at hc0;rw[hs']at hd0;have Hs:=ah hs;have Tz:=ah hs';clear hs hs';by_cases he:s=s'
    ·have hbq:(s.toList==s'.toList)=true:=by rw[zB];simp[he]
     have He:=ah he;clear he;go_wp2;go_quiet (fail)
     go_wp2;go_roundw
     case rel=>exact⟨k+1,by omega,by go_num,(Bt hlt hlt').2 ⟨Heq.out,by rw[Hs.out,Tz.out,He.out]⟩,_,rfl⟩
     case measure=>simp[intOf];omega
    ·have hbq:(s.toList==s'.toList)=false:=by rw[zB];simp[he]
     go_wp2;go_quiet (fail)
     go_wp2;go_ret;refine⟨oU (aY ?_).symm,_,World.drewN_drewN _ _ _⟩;rintro rfl;exact he (Hs.out.symm.trans Tz.out)
   ·obtain rfl:k=xs.length:=by omega
    go_wp2;go_ret;refine⟨oU (bJ ?_).symm,_,rfl⟩;have:=Heq.out
    rwa[List.take_length,Hl.out,List.take_length]at this
 ·have hle:((xs.length:Int) !=(ys.length:Int))=true:=by simp;omega
  go_enter func143,ntmps143
  go_wp2;go_ret;refine⟨oU (aY ?_).symm,0,rfl⟩;rintro rfl;exact hl rfl
def stands(l part:List ByteArray)(i:Nat):Prop:=i+part.length<=l.length/\(l.drop i).take part.length=part
instance (l part:List ByteArray) (i:Nat):Decidable (stands l part i):=inferInstanceAs (Decidable (_/\_))
def yu(l part:List ByteArray):Nat->Nat->List Int
 |0,_=>[]
 |f+1,i=>if stands l part i then(i:Int)::yu l part f (i+part.length)else yu l part f (i+1)
def je(l part:List ByteArray):List Int:=if part=[]then []else yu l part (l.length+1) 0
theorem Jg(l part:List ByteArray):∀(f i:Nat),l.length<i+part.length->yu l part f i=[]
 |0,_,_=>rfl
 |f+1,i,h=>by
  rw[yu,aU (fun hs=>by have:=hs.1;omega)];exact Jg l part f (i+1) (by omega)
theorem occ_yes{l part:List ByteArray}{f i:Nat}(h:stands l part i)(hf:l.length<f+i)(hp:0<part.length):∃f',l.length<f'+(i+part.length)/\yu l part f i=(i:Int)::yu l part f' (i+part.length):=by
 have:=h.1;obtain⟨f',rfl⟩:∃f',f=f'+1:=⟨f-1,by omega⟩;exact⟨f',by omega,by rw[yu,bH h]⟩
theorem occ_no{l part:List ByteArray}{f i:Nat}(h:¬stands l part i)(hf:l.length<f+i)(hi:i<l.length):∃f',l.length<f'+(i+1)/\yu l part f i=yu l part f' (i+1):=by
 obtain⟨f',rfl⟩:∃f',f=f'+1:=⟨f-1,by omega⟩;exact⟨f',by omega,by rw[yu,aU h]⟩
theorem ET(l part:List ByteArray)(hp:0<part.length):∀(f i:Nat),i<=l.length->(yu l part f i).length<=l.length-i
 |0,_,_=>by simp[yu]
 |f+1,i,h=>by
  rw[yu]
  split
  ·rename_i hs
   have:=ET l part hp f (i+part.length) hs.1;have:=hs.1;simp only[iX];omega
  ·rcases gM i l.length with h1|h1
   ·have:=ET l part hp f (i+1) (by omega)
    omega
   ·rw[Jg l part f (i+1) (by omega)];simp
theorem Cc(l part:List ByteArray):(je l part).length<=l.length:=by
 unfold je
 split
 ·simp
 ·rename_i h
  have:=ET l part (List.length_pos_iff.2 h) (l.length+1) 0 (bI _);omega
theorem Dn(A B:Option Addr)(c d:Nat)(l part:List ByteArray)(w:World)(hx:Sl bP w A l)(hy:Sl bP w B part)(hn:l.length<=1048576)(hm:part.length<=1048576)(hc:l.length<=c):
 Calls prog 207 #[.slice A l.length c,.slice B part.length d] w fun e w'=>∃v,e=.returned v/\Own fD w.heap.size w' v (je l part)/\Ext w w':=by
 by_cases hp:part.length=0
 ·have hp0:part=[]:=kM hp
  subst hp0;go_enter func207,ntmps207
  go_wp2;go_ret;exact⟨_,rfl,by rw[show je l []=[]from by simp[je]];exact Own.nil _,Ext.refl _⟩
 ·have hpp:0<part.length:=by omega
  have hpb:((part.length:Int)==0)=false:=beq_eq_false_iff_ne.2 (by omega);have hf:je l part=yu l part (l.length+1) 0:=by unfold je;rw[aU (by rintro rfl;simp at hp)]
  have Hf:=ah hf;clear hf hp;go_enter func207,ntmps207
  go_wp2
  go_loopw [5,6] (fun out i wr=>∃(k f:Nat) (acc:List Int),k<=l.length/\i=.int .i64 k/\acc.length<=k/\l.length<f+k/\Hid (je l part=acc++yu l part f k)/\Own fD w.heap.size wr out acc/\Ext w wr) (fun _ i _=>l.length-(intOf i).toNat)
  case atStart=>exact⟨0,l.length+1,[],bI _,rfl,aI _,by omega,by simpa[Hid]using Hf.out,Own.nil _,Ext.refl _⟩
  case round=>
   obtain⟨k,f,acc,hk,rfl,hak,hfk,TM,hown,hext⟩:=hrel;have hsz:=hext.size;by_cases hlt:k+part.length<=l.length
   ·obtain⟨ys,hys⟩:∃ys,ys=(l.drop k).take part.length:=⟨_,rfl⟩
    by_cases hst:stands l part k
    ·have hkp:=hst.1
     obtain⟨f',hf',TR⟩:=occ_yes hst hfk hpp;have aee:=ah TR;clear TR
     go_wp2_with (first|(refine Gf bP rfl _ _ _ rfl rfl _ _ rfl rfl (hx.ext hext) k (k+part.length) (by omega) (by omega) (by omega) hlt hc ?_;intro A1 ys c1 Hy hl1 hs1;have hb1:decide (ys=part)=true:=bJ (by rw[Hy.out,Nat.add_sub_cancel_left];exact hst.2))|
      (go_at_call 143;refine(Ip _ _ _ _ _ _ _ hs1 (hy.ext hext) (by rw[Hy.out];simp;omega)).mono ?_;rintro e w' ⟨rfl,m,rfl⟩)|
      (at_builtin;refine fK fD rfl _ _ rfl 1 rfl (hown.ext (Ext.alloc (Ext.drewN (Ext.refl _) _) _)) (ys:=[(k:Int)]) rfl (Sl.new fD rfl) (by simp;omega) (by simp;omega) ?_;intro v' w1 hown' hb1 hg1))
     have mW:Ext w w1:=((hext.drewN _).alloc _).trans' hb1;go_wp2;go_roundw
     case rel=>exact⟨k+part.length,f',acc++[(k:Int)],hkp,by go_num,by simp;omega,hf',by unfold Hid;rw[TM.out,aee.out];simp,hown',mW⟩
     case measure=>simp[intOf];omega
    ·obtain⟨f',hf',TR⟩:=occ_no hst hfk (by omega)
     have aee:=ah TR;clear TR
     go_wp2_with (first|(refine Gf bP rfl _ _ _ rfl rfl _ _ rfl rfl (hx.ext hext) k (k+part.length) (by omega) (by omega) (by omega) hlt hc ?_;intro A1 ys c1 Hy hl1 hs1;have hb1:decide (ys=part)=false:=aY (by rw[Hy.out,Nat.add_sub_cancel_left];exact fun e=>hst ⟨hlt,e⟩))|
      (go_at_call 143;refine(Ip _ _ _ _ _ _ _ hs1 (hy.ext hext) (by rw[Hy.out];simp;omega)).mono ?_;rintro e w' ⟨rfl,m,rfl⟩))
     go_roundw
     case rel=>exact⟨k+1,f',acc,by omega,by go_num,by omega,hf',by unfold Hid;rw[TM.out,aee.out],hown.ext ((Ext.refl _).drewN _),hext.drewN _⟩
     case measure=>simp[intOf];omega
   ·go_wp2
    go_ret;refine⟨_,rfl,?_,hext⟩;rw[TM.out,Jg l part f k (by omega),kY];exact hown
def gB(act item:Int):Int->List ByteArray->List aJ
 |_,[]=>[]
 |from_,s::l=>⟨s,act,item,from_⟩::gB act item (from_+1) l
theorem kI(act item:Int):∀(from_:Int) (l:List ByteArray),(gB act item from_ l).length=l.length
 |_,[]=>rfl
 |f,s::l=>by simp[gB,kI act item (f+1) l]
theorem MF(act item:Int):∀(from_:Int) (l:List ByteArray) (s:ByteArray),gB act item from_ (l++[s])=gB act item from_ l++[⟨s,act,item,from_+l.length⟩]
 |f,[],s=>by simp[gB]
 |f,x::l,s=>by
  simp only[jE,gB,MF act item (f+1) l s,iX]
  congr 4
  omega
theorem YF(act item from_:Int)(l:List ByteArray)(k:Nat)(hk:k<l.length):gB act item from_ (l.take (k+1))=gB act item from_ (l.take k)++[⟨l[k],act,item,from_+k⟩]:=by
 rw[jk hk,MF,fu,jF (by omega)]
theorem KO(A:Option Addr)(c:Nat)(l:List ByteArray)(act item from_:Int)(w:World)(hs:Sl bP w A l)(hn:l.length<=1048576)(h1: -2199023255552<=from_)(h2:from_<=2199023255552):
 Calls prog 110 #[.slice A l.length c,.int .i64 act,.int .i64 item,.int .i64 from_] w fun e w'=>∃v,e=.returned v/\Own aQ w.heap.size w' v (gB act item from_ l)/\Ext w w':=by
 go_enter func110,ntmps110
 go_wp2
 go_loopw [9,14] (fun out i wr=>∃k:Nat,k<=l.length/\i=.int .i64 k/\Own aQ w.heap.size wr out (gB act item from_ (l.take k))/\Ext w wr) (fun _ i _=>l.length-(intOf i).toNat)
 case atStart=>exact⟨0,bI _,rfl,Own.nil _,Ext.refl _⟩
 case round=>
  obtain⟨k,hk,rfl,hown,hext⟩:=hrel;by_cases hlt:k<l.length
  ·obtain⟨b,off,rfl,hb,hc⟩:=I8 hs hlt
   have hcr:=(hext.cell (p:=⟨b,off+k,none⟩) hb).trans hc;have hsz:=hext.size;obtain⟨s,hsk⟩:=aH (l[k]);rw[hsk]at hcr;have Hs:=ah hsk;clear hc hsk;have hc1:(gB act item from_ (l.take k)).length+1<=68719476736:=by rw[kI,fu];omega
   go_wp2_with (at_builtin;refine fK aQ rfl _ _ rfl 1 rfl (hown.ext (Ext.alloc (Ext.refl _) _)) (ys:=[⟨s,act,item,from_+k⟩]) rfl (Sl.new aQ rfl) hc1 (by simp;omega) ?_;intro v' w1 hown' hb1 hg1)
   have mW:Ext w w1:=(hext.alloc _).trans' hb1;go_wp2;go_roundw
   case rel=>exact⟨k+1,by omega,by go_num,by rw[YF _ _ _ _ _ hlt,Hs.out];exact hown',mW⟩
   case measure=>simp[intOf];omega
  ·obtain rfl:k=l.length:=by omega
   rw[List.take_length]at hown;go_wp2;go_ret;exact⟨_,rfl,hown,hext⟩
theorem PU(A:Option Addr)(c:Nat)(l:List aJ)(w:World)(hs:Sl aQ w A l)(hn:l.length<=1048576):
 Calls prog 37 #[.slice A l.length c] w fun e w'=>∃v,e=.returned v/\Own bP w.heap.size w' v (l.map aJ.t)/\Ext w w':=by
 go_enter func37,ntmps37
 go_wp2
 go_loopw [3,4] (fun out i wr=>∃k:Nat,k<=l.length/\i=.int .i64 k/\Own bP w.heap.size wr out ((l.take k).map aJ.t)/\Ext w wr) (fun _ i _=>l.length-(intOf i).toNat)
 case atStart=>exact⟨0,bI _,rfl,Own.made bP (aI _),(Ext.refl _).alloc _⟩
 case round=>
  obtain⟨k,hk,rfl,hown,hext⟩:=hrel;by_cases hlt:k<l.length
  ·obtain⟨b,off,rfl,hb,hc,_,_,_⟩:=Lc hs hlt
   have hcr:=(hext.cell (p:=⟨b,off+k*4,none⟩) hb).trans hc;have hsz:=hext.size;obtain⟨s,hsk⟩:=aH (l[k].t);rw[hsk]at hcr;have Hs:=ah hsk;clear hc hsk;have hc1:((l.take k).map aJ.t).length+1<=68719476736:=by rw[jA,fu];omega
   go_wp2_with (at_builtin;refine fK bP rfl _ _ rfl 1 rfl (hown.ext (Ext.alloc (Ext.refl _) _)) (ys:=[s]) rfl (Sl.new bP rfl) hc1 (by simp;omega) ?_;intro v' w1 hown' hb1 hg1)
   have mW:Ext w w1:=(hext.alloc _).trans' hb1;go_wp2;go_roundw
   case rel=>exact⟨k+1,by omega,by go_num,by rw[Fw _ _ _ hlt,Hs.out];exact hown',mW⟩
   case measure=>simp[intOf];omega
  ·obtain rfl:k=l.length:=by omega
   rw[List.take_length]at hown;go_wp2;go_ret;exact⟨_,rfl,hown,hext⟩
theorem zw(A:Option Addr)(c:Nat)(l:List aJ)(w:World)(hs:Sl aQ w A l)(hn:l.length<=1048576):
 Calls prog 208 #[.slice A l.length c] w fun e w'=>∃v,e=.returned v/\Own bP w.heap.size w' v (l.map aJ.t)/\Ext w w':=by
 go_enter func208,ntmps208
 go_wp2
 go_loopw [3,8] (fun out i wr=>∃k:Nat,k<=l.length/\i=.int .i64 k/\Own bP w.heap.size wr out ((l.take k).map aJ.t)/\Ext w wr) (fun _ i _=>l.length-(intOf i).toNat)
 case atStart=>exact⟨0,bI _,rfl,Own.nil _,Ext.refl _⟩
 case round=>
  obtain⟨k,hk,rfl,hown,hext⟩:=hrel;by_cases hlt:k<l.length
  ·obtain⟨b,off,rfl,hb,hc,hc1,hc2,hc3⟩:=Lc hs hlt
   have hcr:=(hext.cell (p:=⟨b,off+k*4,none⟩) hb).trans hc;have arQ:=(hext.cell (p:=⟨b,off+k*4+1,none⟩) hb).trans hc1;have arR:=(hext.cell (p:=⟨b,off+k*4+2,none⟩) hb).trans hc2;have arS:=(hext.cell (p:=⟨b,off+k*4+3,none⟩) hb).trans hc3;have hsz:=hext.size;obtain⟨x,hxk⟩:=aH (l[k]);rw[hxk]at hcr arQ arR arS;have Hs:=ah hxk;clear hc hc1 hc2 hc3 hxk;have hc1:((l.take k).map aJ.t).length+1<=68719476736:=by rw[jA,fu];omega
   go_wp2_with (at_builtin;refine fK bP rfl _ _ rfl 1 rfl (hown.ext (((Ext.refl _).alloc _).alloc _)) (ys:=[x.t]) rfl (Sl.new' bP (by simp) rfl) hc1 (by simp;omega) ?_;intro v' w1 hown' hb1 hg1)
   have mW:Ext w w1:=((hext.alloc _).alloc _).trans' hb1;go_wp2;go_roundw
   case rel=>exact⟨k+1,by omega,by go_num,by rw[Fw _ _ _ hlt,Hs.out];exact hown',mW⟩
   case measure=>simp[intOf];omega
  ·obtain rfl:k=l.length:=by omega
   rw[List.take_length]at hown;go_wp2;go_ret;exact⟨_,rfl,hown,hext⟩
theorem Iq(A:Option Addr)(c:Nat)(l:List Int)(w:World)(hs:Sl fD w A l)(hn:l.length<=1048576):
 Calls prog 178 #[.slice A l.length c] w (Dw fD w l):=by
 have hq:=fun W=>Lib.run_eql_slice_nil (P:=prog) W 103 3 A l.length c 0 0 underlying103;cases A with
 |none=>
  have h0:l=[]:=by
   cases l with
   |nil=>rfl
   |cons x l=>obtain⟨_,_,h,_⟩:=hs (by simp);cases h
  subst h0;simp only[List.length_nil]at hq;go_enter func178,ntmps178
  go_wp2;go_ret;exact⟨_,rfl,Own.nil _,Ext.refl _⟩
 |some ad=>
  go_enter func178,ntmps178
  go_wp2_with (at_builtin;refine fK fD rfl _ _ rfl c rfl (Own.made fD (aI _)) rfl (hs.ext ((Ext.refl _).alloc _)) (by simp;omega) (by simp) ?_;intro v' w1 hown' hb1 hg1)
  go_ret;exact⟨_,rfl,hown',((Ext.refl _).alloc _).trans' hb1⟩
def kr(l:List Int)(nth:Int):List Int:=if nth=0 then l else if nth<0 then []else(l.drop (nth-1).toNat).take 1
theorem D7(l:List Int)(nth:Int):(kr l nth).length<=l.length:=by
 unfold kr
 split
 ·omega
 ·split
  ·simp
  ·simp;omega
theorem TS{l:List Int}{nth:Int}(h:(l.length:Int)<nth):kr l nth=[]:=by
 unfold kr;rw[aU (by omega),aU (by omega),mH (by omega),List.take_nil]
theorem AZ(A B:Option Addr)(c d:Nat)(l:List aJ)(part:List ByteArray)(nth:Int)(w:World)(hs:Sl aQ w A l)(hy:Sl bP w B part)(hn:l.length<=1048576)(hm:part.length<=1048576)(h0:0<=nth):
 Calls prog 176 #[.slice A l.length c,.slice B part.length d,.int .i64 nth] w (am3 fD w (kr (je (l.map aJ.t) part) nth)):=by
 have hfl:=Cc (l.map aJ.t) part;rw[jA]at hfl;obtain⟨P0,hP⟩:=aH (je (l.map aJ.t) part);rw[hP]at hfl⊢;have HP:=ah hP;clear hP;obtain⟨T0,hT⟩:=aH (l.map aJ.t);have hTl:T0.length<=1048576:=by rw[<-hT,jA];exact hn
 have HT:=ah hT;clear hT;have arms:∀(w1 w2:World) (A1:Option Addr) (c1:Nat),True:=fun _ _ _ _=>trivial;by_cases h1:nth=0
 ·subst h1
  go_enter func176,ntmps176
  go_wp2_with fail
  refine(zw _ _ _ _ hs hn).mono ?_;rintro e w1 ⟨v1,rfl,hown1,mh⟩;obtain⟨A1,c1,rfl,hc1,hs1⟩:=hown1.form;rw[HT.out]at hs1 hc1⊢;clear hown1;go_wp2_with fail
  refine(Dn _ _ _ _ _ _ _ hs1 (hy.ext mh) hTl hm hc1).mono ?_;rintro e w2 ⟨v2,rfl,hown2,iK⟩;obtain⟨A2,c2,rfl,hc2,hs2⟩:=hown2.form;rw[<-HT.out,HP.out]at hs2 hc2⊢;clear hown2;go_wp2;go_ret;rw[show kr P0 0=P0 from rfl];exact⟨_,_,rfl,hc2,hs2,mh.trans iK⟩
 ·have hb:(nth==0)=false:=beq_eq_false_iff_ne.2 h1
  by_cases h2:(P0.length:Int)<nth
  ·rw[TS h2]
   clear h1;go_enter func176,ntmps176
   go_wp2_with fail
   refine(zw _ _ _ _ hs hn).mono ?_;rintro e w1 ⟨v1,rfl,hown1,mh⟩;obtain⟨A1,c1,rfl,hc1,hs1⟩:=hown1.form;rw[HT.out]at hs1 hc1⊢;clear hown1;go_wp2_with fail
   refine(Dn _ _ _ _ _ _ _ hs1 (hy.ext mh) hTl hm hc1).mono ?_;rintro e w2 ⟨v2,rfl,hown2,iK⟩;obtain⟨A2,c2,rfl,hc2,hs2⟩:=hown2.form;rw[<-HT.out,HP.out]at hs2 hc2⊢;clear hown2;go_wp2;go_ret;exact⟨_,_,rfl,aI _,Sl.nil,mh.trans iK⟩
  ·obtain⟨n,rfl⟩:∃n:Nat,nth=(n:Int)+1:=⟨(nth-1).toNat,by omega⟩
   have e1:kr P0 ((n:Int)+1)=(P0.drop n).take (n+1-n):=by
    unfold kr;rw[aU (by omega),aU (by omega)];rw[show((n:Int)+1-1).toNat=n from by omega,show n+1-n=1 from by omega]
   rw[e1];clear h1 e1;go_enter func176,ntmps176
   go_wp2_with fail
   refine(zw _ _ _ _ hs hn).mono ?_;rintro e w1 ⟨v1,rfl,hown1,mh⟩;obtain⟨A1,c1,rfl,hc1,hs1⟩:=hown1.form;rw[HT.out]at hs1 hc1⊢;clear hown1;go_wp2_with fail
   refine(Dn _ _ _ _ _ _ _ hs1 (hy.ext mh) hTl hm hc1).mono ?_;rintro e w2 ⟨v2,rfl,hown2,iK⟩;obtain⟨A2,c2,rfl,hc2,hs2⟩:=hown2.form;rw[<-HT.out,HP.out]at hs2 hc2⊢;clear hown2;go_wp2_with (refine Gf fD rfl _ _ _ rfl rfl _ _ rfl rfl hs2 n (n+1) (by omega) (by omega) (by omega) (by omega) hc2 ?_;intro A3 ys c3 Hy hl3 hs3)
   go_ret;rw[<-Hy.out];exact⟨_,_,rfl,hl3,hs3,mh.trans iK⟩
mutual
def gK(act item:Int):av->Int->Int->av×Int×Int
 |.mk _ _ _ k l hl wl kids,n,m=>
  let r:=jP act item kids (n+1) (m+hl.length+wl.length)
  (.mk act item n k l (gB act item m (hl.map aJ.t)) (gB act item (m+hl.length) (wl.map aJ.t)) r.1,r.2.1,r.2.2)
def jP(act item:Int):List av->Int->Int->List av×Int×Int
 |[],n,m=>([],n,m)
 |u::us,n,m=>
  let x:=gK act item u n m
  let r:=jP act item us x.2.1 x.2.2
  (x.1::r.1,r.2.1,r.2.2)
end
mutual
theorem FZ(act item:Int):∀(u:av) (n m:Int),iD (qm 300 60) u->(gK act item u n m).2.1=n+cntF u/\m<=(gK act item u n m).2.2/\(gK act item u n m).2.2<=m+600*cntF u
 |.mk a i c k l hl wl kids,n,m,h=>by
  rw[iD]at h;obtain⟨⟨h1,h2,h3⟩,h4⟩:=h;have:=F3 act item kids (n+1) (m+hl.length+wl.length) h4;rw[gK,cntF];simp only;omega
theorem F3(act item:Int):∀(us:List av) (n m:Int),gJ (qm 300 60) us->(jP act item us n m).2.1=n+bZ us/\m<=(jP act item us n m).2.2/\(jP act item us n m).2.2<=m+600*bZ us
 |[],n,m,_=>by rw[jP,bZ];simp
 |u::us,n,m,h=>by
  rw[gJ]at h;have h1:=FZ act item u n m h.1;have h2:=F3 act item us (gK act item u n m).2.1 (gK act item u n m).2.2 h.2;rw[jP,bZ];simp only;omega
end
structure pO (b:Nat) (w w':World):Prop where
 os:w'.os=w.os
 tape:w'.tape=w.tape
 output:w'.output=w.output
 size:w.heap.size<=w'.heap.size
 block:∀k,k<w.heap.size->k≠b->w'.heap[k]? =w.heap[k]?
theorem pO.dH{b:Nat}{w w':World}(h:Ext w w'):pO b w w':=⟨h.os,h.tape,h.output,h.size,fun _ hk _=>h.block hk⟩
theorem pO.trans{b:Nat}{w w' w'':World}(h:pO b w w')(k:pO b w' w''):pO b w w'':=
 ⟨k.os.trans h.os,k.tape.trans h.tape,k.output.trans h.output,bX h.size k.size,fun i hi hb=>(k.block i (bQ hi h.size) hb).trans (h.block i hi hb)⟩
theorem pO.ext{b:Nat}{w w' w'':World}(h:pO b w w')(k:Ext w' w''):pO b w w'':=h.trans (pO.dH k)
theorem pO.put{b c:Nat}{a w w':World}(h:pO b a w)(hc:c=b∨a.heap.size<=c)(hw:∀k,k≠c->w'.heap[k]? =w.heap[k]?)(hos:w'.os=w.os)(htp:w'.tape=w.tape)(hou:w'.output=w.output)(hs:w'.heap.size=w.heap.size):pO b a w':=
 ⟨hos.trans h.os,htp.trans h.tape,hou.trans h.output,by rw[hs];exact h.size,fun k hk hb=>(hw k (by omega)).trans (h.block k hk hb)⟩
theorem pO.cin{b:Nat}{w w':World}{p:Nat->Bool}(h:pO b w w')(hp:p b=true):aZ (mask p w) (mask p w'):=
 aZ.keep h.size fun k hk hpk=>⟨h.block k hk (by rintro rfl;rw[hp]at hpk;cases hpk),hpk⟩
theorem pO.uZ{b:Nat}{w0 w w':World}(h:pO b w w')(h0:Ext w0 w)(hb:w0.heap.size<=b):Ext w0 w':=
 ⟨h.os.trans h0.os,h.tape.trans h0.tape,h.output.trans h0.output,bX h0.size h.size,fun k hk=>(h.block k (bQ hk h0.size) (by omega)).trans (h0.block hk)⟩
section
variable {P:Program} {ρ:Operand->Value} {o:Oper} {w:World} {T:Value->World->Prop}
theorem Bn(x:Operand)(ho:o.op=.nilCheck x){ad:Addr}(hx:ρ x=.pointer (some ad))(h:T (.pointer (some ad)) w):bL P ρ o w T:=by
 refine eT (w':=w) (v:=.pointer (some ad)) ?_ (Ext.refl _) h;simp only[execOp,ho,hx]
 go_simp
end
theorem TT{w w':World}{b:Nat}{cs:Array Value}{t:TypeId}(h:w.heap[b]? =some (.cells cs t (0,0)))(hb:b<w.heap.size)(he:Ext w w'):(aK cs.toList).p (.pointer (some ⟨b,0,none⟩)) w':=by
 refine⟨b,0,rfl,bQ hb he.size,fun j u hu=> ?_⟩;rw[he.cell (p:=⟨b,0+j,none⟩) hb];simp only[World.cell?,h,bV];simpa using hu
theorem WL(sb:Nat)(act item unit word:Int)(A:Option Addr)(c:Nat)(l:List aJ)(w:World)(hs:Sl aQ w A l)(hn:l.length<=1048576)(hst:w.heap[sb]? =some (.cells #[.int .i64 act,.int .i64 item,.int .i64 unit,.int .i64 word] 205 (0,0)))(h1:0<=word)(h2:word<=2199023255552):
 Calls prog 204 #[.pointer (some ⟨sb,0,none⟩),.slice A l.length c] w fun e w'=>∃v,e=.returned v/\Own aQ w.heap.size w' v (gB act item word (l.map aJ.t))/\pO sb w w'/\
  w'.heap[sb]? =some (.cells #[.int .i64 act,.int .i64 item,.int .i64 unit,.int .i64 (word+l.length)] 205 (0,0)):=by
 have hsb:sb<w.heap.size:=by
  rcases gM sb w.heap.size with h|h
  ·exact h
  ·rw[ze h]at hst;cases hst
 have nO:=ah (show∀w',Ext w w'->_ from fun w' he=>TT hst hsb he);go_enter func204,ntmps204
 go_wp2;refine iw (by kernel_rfl) (fun i=>match i with|0=>Ty.is (.slice A l.length c)|1=>Gg bP (l.map aJ.t)|2=>Ty.is (.pointer (some ⟨sb,0,none⟩))|3=>Ty.is (.pointer (some ⟨sb,0,none⟩))|4=>aK [.int .i64 act]|5=>Ty.is (.int .i64 act)|6=>Ty.is (.pointer (some ⟨sb,0,none⟩))|7=>Ty.is (.pointer (some ⟨sb,0,none⟩))|8=>aK [.int .i64 item]|9=>Ty.is (.int .i64 item)|10=>Ty.is (.pointer (some ⟨sb,0,none⟩))|11=>Ty.is (.pointer (some ⟨sb,0,none⟩))|12=>aK [.int .i64 word]|13=>Ty.is (.int .i64 word)|14=>sJ aQ w.heap.size (gB act item word (l.map aJ.t))|15=>sJ aQ w.heap.size (gB act item word (l.map aJ.t))|_=>Ty.any) (by kernel_rfl) rfl ?_;intro v;refine⟨?_,?_,?_,?_,?_,?_,?_,?_,?_,?_,?_,?_,?_,?_,?_,?_,?_⟩
 ·exact fun wq hq _=>ak rfl (aF (.tmp 1) rfl rfl rfl)
 ·rintro wq hq ⟨h0,-⟩
  change v 0=_ at h0;refine ak rfl ?_;refine fC 208 call208 _ _ rfl rfl [_] ⟨h0,trivial⟩ ?_;refine(zw _ _ l _ (hs.ext hq) hn).mono ?_;rintro e w' ⟨v',rfl,hown,mW⟩;obtain⟨A3,c3,rfl,hc3,hs3⟩:=hown.form;exact⟨_,rfl,mW,A3,c3,rfl,hc3,hs3⟩
 ·exact fun wq hq _=>ak rfl (aF (.tmp 0) rfl rfl rfl)
 ·rintro wq hq ⟨h0,-⟩;exact ak rfl (Bn (.tmp 8) rfl h0 rfl)
 ·rintro wq hq ⟨h0,-⟩;exact ak rfl (dB 205 0 (.tmp 9) rfl _ underlying205 _ rfl 1 sizeOf3 (by decide) [.int .i64 act,.int .i64 item,.int .i64 unit,.int .i64 word] (by show(aK _).p (v 3) wq;rw[h0];exact nO.out _ hq))
 ·rintro wq hq ⟨h0,-⟩;exact ak rfl (bW 3 (.tmp 10) rfl isAgg3 (c:=.int .i64 act) h0 rfl)
 ·exact fun wq hq _=>ak rfl (aF (.tmp 0) rfl rfl rfl)
 ·rintro wq hq ⟨h0,-⟩;exact ak rfl (Bn (.tmp 12) rfl h0 rfl)
 ·rintro wq hq ⟨h0,-⟩;exact ak rfl (dB 205 1 (.tmp 13) rfl _ underlying205 _ rfl 1 sizeOf3 (by decide) [.int .i64 act,.int .i64 item,.int .i64 unit,.int .i64 word] (by show(aK _).p (v 7) wq;rw[h0];exact nO.out _ hq))
 ·rintro wq hq ⟨h0,-⟩;exact ak rfl (bW 3 (.tmp 14) rfl isAgg3 (c:=.int .i64 item) h0 rfl)
 ·exact fun wq hq _=>ak rfl (aF (.tmp 0) rfl rfl rfl)
 ·rintro wq hq ⟨h0,-⟩;exact ak rfl (Bn (.tmp 16) rfl h0 rfl)
 ·rintro wq hq ⟨h0,-⟩;exact ak rfl (dB 205 3 (.tmp 17) rfl _ underlying205 _ rfl 1 sizeOf3 (by decide) [.int .i64 act,.int .i64 item,.int .i64 unit,.int .i64 word] (by show(aK _).p (v 11) wq;rw[h0];exact nO.out _ hq))
 ·rintro wq hq ⟨h0,-⟩;exact ak rfl (bW 3 (.tmp 18) rfl isAgg3 (c:=.int .i64 word) h0 rfl)
 ·rintro wq hq ⟨h0,h1,h2,h3,h4,-⟩
  change (Gg bP (l.map aJ.t)).p (v 1) wq at h0;change v 5=_ at h1;change v 9=_ at h2;change v 13=_ at h3;refine ak rfl ?_;obtain⟨A3,c3,g3,gc3,gs3⟩:=h0;refine fC 110 call110 _ _ rfl rfl [_,_,_,_] ⟨g3,h1,h2,h3,trivial⟩ ?_;refine(KO A3 c3 (l.map aJ.t) act item word _ gs3 (by rw[jA];exact hn) (by omega) (by omega)).mono ?_;rintro e w' ⟨v',rfl,hown,mW⟩;exact⟨v',rfl,mW,hown.mono hq.size⟩
 ·rintro wq hq ⟨h0,h1,h2,h3,h4,h5,h6,h7,h8,h9,h10,h11,h12,CB,Q9,OD,h16,-⟩;exact ak rfl (jY (.tmp 20) rfl rfl h0)
 ·intro wq hq hT
  have k15:=hT 15 (by decide);change (sJ aQ w.heap.size (gB act item word (l.map aJ.t))).p (v 15) wq at k15;clear hT;simp only[List.drop_succ_cons,List.drop_zero,gH,dK,List.set_cons_succ,List.set_cons_zero,Nat.reduceAdd];generalize v 15=x15 at k15⊢;have hx1:Ext w wq:=hq;have YG:=(hx1.block hsb).trans hst;have t3:=aK.cell (nO.out _ hq) 3 _ rfl;rw[bV]at t3;obtain⟨A4,c4,rfl,hc4,-⟩:=Own.form k15;have hml:(gB act item word (l.map aJ.t)).length=l.length:=by rw[kI,jA]
  obtain⟨ML,RO⟩:=aH (gB act item word (l.map aJ.t));have hown:Own aQ w.heap.size wq (.slice A4 (gB act item word (l.map aJ.t)).length c4) (gB act item word (l.map aJ.t)):=k15;rw[RO]at hml hc4 hown k15⊢;rw[<-hml];have Hml:=ah hml;have Ws:=ah RO;clear RO hml k15;have hlen:ML.length<=1048576:=by rw[Hml.out];exact hn
  clear hn;go_wp2_with (first|(refine fV rfl 205 3 (.tmp 28) rfl _ underlying205 _ rfl 1 sizeOf3 (by decide) sb 0 rfl ?_)|(refine aP rfl 3 (.tmp 29) (.tmp 27) rfl sb 3 (.int .i64 (word+ML.length)) rfl rfl [.int .i64 (word+ML.length)] rfl sizeOf3 (by simp[Value.oneCell']) 205 _ YG (by simp) ?_;intro w3 hw3 gQ gT gU hs3 jw))
  go_wp2;go_ret;rw[Ws.out,<-Hml.out];exact⟨_,rfl,hown.keep fun k hk=>hw3 k (by have:=(hown.lt k hk).1;omega),(pO.dH hx1).put (.inl rfl) hw3 gQ gT gU hs3,by rw[jw];simp⟩
end Go.Proofs.YtgboomjahhnldaaGreatDoor
