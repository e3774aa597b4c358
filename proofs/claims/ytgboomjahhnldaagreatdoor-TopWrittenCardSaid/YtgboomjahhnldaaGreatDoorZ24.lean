/- A part of the proof of TopWritten, printed small: TBare TPlt TPlf TAddr TAddrP. -/
import Derived.Test.YtgboomjahhnldaaGreatDoorZ23
import Derived.Test.YtgboomjahhnldaaGreatDoorZ11
import Derived.Test.YtgboomjahhnldaaGreatDoorZ16
import Derived.Test.YtgboomjahhnldaaGreatDoorZ12
import Derived.Test.YtgboomjahhnldaaGreatDoorZ22
import Derived.Test.YtgboomjahhnldaaGreatDoorZ08
set_option maxRecDepth 100000
set_option maxHeartbeats 25600000
set_option linter.all false
namespace Go.Proofs.YtgboomjahhnldaaGreatDoor
open Go.Proofs.Tryz Go.RowKit
def ad3(V:Prop)(w:World)(e:Ending)(w':World):Prop:=∃b:Bool,e=.returned (.bool b)/\(V->b=true)/\Ext w w'
theorem Yo(x:aJ)(w:World):Calls prog 213 #[.agg (aQ.E x).toArray] w (lN w):=by
 obtain⟨t,a,i,k⟩:=x;have hx1:Ext w (w.alloc (.cells #[.string t,.int .i64 a,.int .i64 i,.int .i64 k] 48)):=(Ext.refl w).alloc _;simp only[aQ,aJ.cells];have u:=underlying46;by_cases ha:a=0
 ·by_cases hi:i=0
  ·by_cases hk:k=0
   ·subst ha;subst hi;subst hk
    go_enter func213,ntmps213
    go_wp2;go_ret;exact⟨_,rfl,hx1⟩
   ·have e:(k==0)=false:=by simp[hk]
    subst ha;subst hi;go_enter func213,ntmps213
    go_wp2;go_ret;exact⟨_,rfl,hx1⟩
  ·have e:(i==0)=false:=by simp[hi]
   subst ha;go_enter func213,ntmps213
   go_wp2;go_ret;exact⟨_,rfl,hx1⟩
 ·have e:(a==0)=false:=by simp[ha]
  go_enter func213,ntmps213
  go_wp2;go_ret;exact⟨_,rfl,hx1⟩
theorem abf(xs:List aJ)(A:Option Addr)(c:Nat)(w:World)(hs:Sl aQ w A xs)(hn:xs.length<=1000):
 Calls prog 243 #[.slice A xs.length c,.func (.func 213) #[] #[]] w fun e w'=>∃z:Int,e=.returned (.int .i64 z)/\(xs=[]->z<0)/\Ext w w':=by
 have Hs:=ah hs;clear hs;go_enter func243,ntmps243
 go_wp2
 go_loopw [5,8] (fun _ vk wr=>∃k:Nat,k<=xs.length/\vk=.int .i64 (k:Nat)/\Ext w wr) (fun _ vk _=>xs.length-(intOf vk).toNat)
 case atStart=>exact⟨0,bI _,rfl,Ext.refl _⟩
 case round=>
  obtain⟨k,hk,rfl,hext⟩:=hrel;by_cases hlt:k<xs.length
  ·obtain⟨b,off,hA,hb,hcs⟩:=(Hs.out.ext hext).at_ hlt
   obtain⟨y,hy⟩:=aH (xs[k]);rw[hy]at hcs;have jD:=ah (show At wr b (off+k*4) (aQ.E y)from hcs);have HA:=ah hA;have HN:=ah (show xs=[]->False from fun h=>by rw[h]at hlt;cases hlt);have d1:=eY k xs.length;clear hy hcs hA;rw[HA.out];go_wp2_with (((with_reducible refine au aQ (.tmp 14) ?_ ?_ ?_ b (off+k*4) ?_ y ?_ ?_);rfl;rfl;rfl;rfl;exact jD.out))
   refine(Yo y wr).mono ?_;rintro e w2 ⟨bb,rfl,hx2⟩;cases bb with
   |true=>
    go_wp2;go_ret;exact⟨_,rfl,(fun h=>(HN.out h).elim),hext.trans hx2⟩
   |false=>
    go_wp2;go_roundw
    case rel=>exact⟨k+1,by omega,by go_num,hext.trans hx2⟩
    case measure=>simp[intOf];omega
  ·have d1:=fT k xs.length
   go_wp2;go_ret;exact⟨_,rfl,(fun _=>by decide),hext⟩
theorem PE(xs:List aJ)(A:Option Addr)(c:Nat)(w:World)(hs:Sl aQ w A xs)(hn:xs.length<=1000):
 Calls prog 214 #[.slice A xs.length c,.func (.func 213) #[] #[]] w fun e w'=>∃b:Bool,e=.returned (.bool (!b))/\(xs=[]->b=true)/\Ext w w':=by
 have Hi:=ah (abf xs A c w hs hn);clear hs;go_enter func214,ntmps214
 go_wp2_with fail
 refine(Hi.out).mono ?_;rintro e w2 ⟨z,rfl,hz,hx2⟩;have Hz:=ah hz;clear hz;go_wp2;go_ret;exact⟨!decide (z≥0),by simp,(fun h=>by have:=Hz.out h;simp;omega),hx2⟩
theorem abg(u:av)(r:aB)(w:World)(hr:Reads w u r)(hok:dI u):Calls prog 212 #[.agg r.cells.toArray] w (ad3 (u.id=q8/\u.head=[]/\u.words=[]) w):=by
 obtain⟨hid,-,-,hhn,-,mU,hwn,-,hws,-⟩:=hr.j5;obtain⟨-,o2,o3,-⟩:=hok.all.head;obtain⟨V,hV⟩:∃V:Prop,(u.id=q8/\u.head=[]/\u.words=[])=V:=⟨_,rfl⟩;have HV:=ah (show V->r.id=q8/\u.head=[]/\u.words=[]from by rw[<-hV];rintro⟨h1,h2⟩;exact⟨hid.trans h1,h2⟩);have Hh:=ah (fun wq (he:Ext w wq)=>PE u.head r.hA r.hc wq (mU.ext he) (by omega));have Hw:=ah (fun wq (he:Ext w wq)=>PE u.words r.wA r.wc wq (hws.ext he) (by omega));rw[<-hhn]at Hh;rw[<-hwn]at Hw;rw[hV];clear hid hhn mU hwn hws o2 o3 hr hok hV;go_enter func212,ntmps212
 go_upto_region 1 with(refine aG aj (.tmp 0) rfl rfl r rfl fun wA aR bG bB aO=> ?_)
 have jr:=ah aO;have DZ:=ah (ay bB)
 have iT:=ah (show At wA w.heap.size 0 (aM.E r.id)from fun j y hy=>aO j y (by
  have hk:j<3:=(List.getElem?_eq_some_iff.1 hy).1
  match j,hk with
  |0,_=>exact hy
  |1,_=>exact hy
  |2,_=>exact hy))
 obtain⟨-,-,c5,c6,-⟩:=o8 aO;have Hx:=ah aR;clear aR bG bB aO;obtain⟨B,hB⟩:=aH (decide (r.id=q8));have hq:∀W,(binOp .eql 26 (.agg (aM.E r.id).toArray) (.agg #[.int .i64 0,.int .i64 0,.int .i64 0])).run prog W=.ok (.bool B) W:=fun W=>(Jd W r.id.a r.id.i r.id.n 0 0 0).trans (nI (fun b=>Result.ok (Value.bool b) W) hB);have HB:=ah (show V->B=true from fun h=>by rw[<-hB];exact bJ (HV.out h).1);clear hB;have O8:=ah (Hh.out wA Hx.out);cases B with
 |false=>
  go_wp2_with (((with_reducible refine au aM (.tmp 4) ?_ ?_ ?_ w.heap.size 0 ?_ r.id ?_ ?_);rfl;rfl;rfl;rfl;exact iT.out))
  go_ret;exact⟨_,rfl,HB.out,Hx.out⟩
 |true=>
  go_wp2_with (((with_reducible refine au aM (.tmp 4) ?_ ?_ ?_ w.heap.size 0 ?_ r.id ?_ ?_);rfl;rfl;rfl;rfl;exact iT.out))
  refine O8.out.mono ?_;rintro e w2 ⟨b,rfl,hb,hx2⟩;have Hb:=ah (show V->b=true from fun h=>hb (HV.out h).2.1);have iF:=ah (Hx.out.trans hx2);obtain⟨-,-,-,c6,-⟩:=o8 (jr.out.ext hx2 DZ.out);have zF:=ah (Hw.out w2 iF.out);clear hb hx2;cases b with
  |false=>
   go_wp2;go_ret;exact⟨_,rfl,Hb.out,iF.out⟩
  |true=>
   go_wp2_with fail
   refine zF.out.mono ?_;rintro e w3 ⟨b,rfl,hb,hx3⟩;have Hb:=ah (show V->b=true from fun h=>hb (HV.out h).2.2);clear hb;go_wp2;go_ret;exact⟨b,by simp,Hb.out,iF.out.trans hx3⟩
theorem Yp(u:av)(r:aB)(w:World)(hr:Reads w u r)(hok:dI u)(hT:kN w):Calls prog 182 #[.agg r.cells.toArray] w (ad3 (gG u/\u.id=q8) w):=by
 have Hv:=ah (fun wq (he:Ext w wq)=>Tn u r wq (Reads.ext he u r hr) hok (hT.ext he));obtain⟨V,hV⟩:∃V:Prop,(gG u/\u.id=q8)=V:=⟨_,rfl⟩;have hpre:V->bO u=[u]/\u.id=q8/\u.head=[]/\u.words=[]:=by rw[<-hV];rintro⟨h,h2⟩;exact⟨by rw[jy,h.kids,eO],h2,h.head,h.words⟩
 obtain⟨S,hS⟩:∃S:Bool,S=true↔V:=by
  by_cases h:V
  ·exact⟨true,by simp[h]⟩
  ·exact⟨false,by simp[h]⟩
 have Tp:V->∀acc x rest,bO u=acc++x::rest->x.id=q8/\x.head=[]/\x.words=[]:=fun h acc x rest he=>by
  rw[(hpre h).1]at he
  match acc,he with
  |[],he=>rw[jW,List.cons.injEq]at he;rw[<-he.1];exact(hpre h).2
  |a::acc,he=>simp at he
 have H1:=ah (fun wq (he:Ext w wq)=>Gz (F:=212) (cs:= #[]) (fun _ _=>rfl) (W0:=wq) (S:=S) (Inv:=fun p acc wr=>p=(fun _=>false)/\Ext wq wr) (all:=bO u) (fun _ _ _ h=>h.2) (fun _ _ _ _ h he=>⟨h.1,h.2.trans he⟩) (fun p _ _ h j hj=>by rw[h.1]at hj;cases hj)
  (fun p acc x rx w' hox hrx hin hI=>(abg x rx w' (Reads.ext hI.2 x rx hrx) hox).mono fun e w2 ⟨b,he,hv,hx2⟩=>⟨b,p,he,aZ.ext hx2,hI.2.trans hx2,fun _=>⟨hI.1,hI.2.trans hx2⟩,fun h=>hv (by obtain⟨rest,hin⟩:=hin;exact Tp (hS.1 h) acc x rest hin)⟩)
  _ u r (fun _=>false) [] wq (aI _) (Reads.ext he u r hr) hok ⟨[],by simp⟩ ⟨rfl,Ext.refl _⟩)
 have HS:=ah (show V->S=true from hS.2);rw[hV]at Hv⊢;clear hV hpre hS Tp hr hok hT;go_enter func182,ntmps182
 go_upto_region 1 with(refine aG aj (.tmp 0) rfl rfl r rfl fun wA aR bG bB aO=> ?_)
 have jr:=ah aO;have DZ:=ah (ay bB);have Hx:=ah aR;have Ml:=ah (Hv.out wA aR);clear aR bG bB aO Hv;go_wp2_with (((with_reducible refine au aj (.tmp 1) ?_ ?_ ?_ w.heap.size 0 ?_ r ?_ ?_);rfl;rfl;rfl;rfl;exact jr.out))
 refine Ml.out.mono ?_;rintro e w2 ⟨b,rfl,-,hb,hx2⟩;have Hb:=ah hb;have iF:=ah (Hx.out.trans hx2);have pU:=ah (jr.out.ext hx2 DZ.out);have H2:=ah (H1.out w2 iF.out);clear hb hx2 H1 Ml;cases b with
 |false=>
  go_wp2;go_ret;exact⟨_,rfl,Hb.out,iF.out⟩
 |true=>
  go_wp2_with (((with_reducible refine au aj (.tmp 1) ?_ ?_ ?_ w.heap.size 0 ?_ r ?_ ?_);rfl;rfl;rfl;rfl;exact pU.out))
  refine H2.out.mono ?_;rintro e w3 ⟨b,p',rfl,-,hx3,-,hS3⟩;have Hb:=ah (show V->b=true from fun h=>hS3 (HS.out h));clear hS3;go_wp2;go_ret;exact⟨_,rfl,Hb.out,iF.out.trans hx3⟩
theorem abh{u v:av}(h1:v.head.map aJ.t=u.head.map aJ.t)(h2:v.words.map aJ.t=u.words.map aJ.t)(h:qU v):qU u:=by
 have go:∀{xs ys:List aJ},xs.map aJ.t=ys.map aJ.t->(∀x∈xs,x.t≠⟨#[]⟩)->∀y∈ys,y.t≠⟨#[]⟩:=fun {xs ys} e hx y hy=>by
  have h1:y.t∈xs.map aJ.t:=by rw[e];exact List.mem_map_of_mem hy
  obtain⟨x,hx1,hx2⟩:=List.mem_map.1 h1;rw[<-hx2];exact hx x hx1
 exact⟨go h1 h.1,go h2 h.2⟩
theorem gG.strip{u v:av}(h:gG u)(hs:zI u v):gG v/\v.id=q8:=by
 refine⟨⟨hs.kind.trans h.kind,by rw[hs.label];exact h.label,?_,?_,?_⟩,hs.id⟩
 ·have:=hs.head;rw[h.head]at this;simpa using this
 ·have:=hs.words;rw[h.words]at this;simpa using this
 ·have:=hs.len;rw[h.kids]at this;simpa using this
theorem abj{u:av}(h:dI u):dI (.mk 0 0 0 u.kind u.label u.head u.words []):=by
 obtain⟨o1,o2,o3,o4,o5,o6⟩:=h.all.head;refine⟨?_,by rw[cntF,bZ];omega⟩;rw[iD,gJ];exact⟨⟨o1,o2,o3,by simp[av.kids],o5,o6⟩,trivial⟩
theorem PG{u v:av}(h:dI u)(hs:zI u v):dI v:=⟨hs.all,by rw[hs.cnt];exact h.cnt⟩
theorem abk(u:av)(r:aB)(d:Int)(w:World)(hr:Reads w u r)(hok:dI u)(hT:kN w):Calls prog 260 #[.agg r.cells.toArray,.int .i64 d] w (EM ((0<=d/\d<=8)/\qU u) (gG u/\0<=d/\d<=8) w):=by
 obtain⟨hid,hkd,hlb,hhn,xH,mU,hwn,hwc,hws,-⟩:=hr.j5;obtain⟨r2,hr2⟩:∃r2:aB,{r with a:=0,i:=0,n:=0,kA:=none,kn:=0,kc:=0}=r2:=⟨_,rfl⟩
 have qZ:=ah (show∀W,Ext w W->Reads W (.mk 0 0 0 u.kind u.label u.head u.words []) r2 from fun W he=>by
  rw[<-hr2,Reads];exact⟨⟨rfl,rfl,rfl,hkd,hlb⟩,⟨hhn,xH,mU.ext he⟩,⟨hwn,hwc,hws.ext he⟩,rfl,bI _,[],Sl.nil,by rw[ReadsAll];trivial⟩)
 have xU:=ah hr2;have fI:=ah (abj hok);have HT:=ah hT;obtain⟨V,hV⟩:∃V:Prop,(gG u/\0<=d/\d<=8)=V:=⟨_,rfl⟩;obtain⟨P,hP⟩:∃P:Prop,((0<=d/\d<=8)/\qU u)=P:=⟨_,rfl⟩;have HV:=ah (show V->gG u/\0<=d/\d<=8 from by rw[<-hV];exact id);have HP:=ah (show(0<=d/\d<=8)/\qU u->P from by rw[<-hP];exact id);rw[hV,hP];have Hb:=ah (show gG u->gG (.mk 0 0 0 u.kind u.label u.head u.words [])from fun h=>⟨h.kind,h.label,h.head,h.words,rfl⟩);clear hid hkd hlb hhn xH mU hwn hwc hws hr hok hT hr2 hV hP;go_enter func260,ntmps260
 go_upto_region 1 with(refine aG aj (.tmp 0) rfl rfl r rfl fun wA aR bG bB aO=> ?_)
 go_upto_region 2 with(first|(refine aP rfl 26 (.tmp 6) (.tmp 5) rfl w.heap.size 0 (.agg #[.int .i64 0,.int .i64 0,.int .i64 0]) rfl rfl [.int .i64 0,.int .i64 0,.int .i64 0] rfl sizeOf26 (by simp[Value.oneCell']) _ _ bB (by simp[aj,aB.cells]) ?_;intro w3 hw3 gQ gT gU hs3 jw)|
  (refine aP rfl 28 (.tmp 7) (.const (.slice none 0 0)) rfl w.heap.size 7 (.slice none 0 0) rfl rfl [.slice none 0 0] rfl sizeOf28 (by simp[Value.oneCell']) _ _ jw (by simp[aj,aB.cells]) ?_;intro w4 hw4 dP dQ dR hs4 eX))
 have hx3:Ext w w3:=aR.put (aI _) hw3 gQ gT gU hs3;have mM:=ah (hx3.put (aI _) hw4 dP dQ dR hs4)
 have jr:=ah (show At w4 w.heap.size 0 (aj.E r2)from Tt (cs:=r2.cells) (t:=30) (fr:=(0,0)) (by
  rw[eX,<-xU.out];simp[aj,aB.cells]))
 clear eX jw hw3 gQ gT gU hs3 hw4 dP dQ dR hs4 aR bG bB aO hx3;by_cases h0:0<=d
 ·have d1:decide (d≥0)=true:=bJ h0
  have d1':decide (0<=d)=true:=bJ h0;by_cases h8:d<=8
  ·have d2:decide (d<=8)=true:=bJ h8
   have nO:=ah (Mr _ r2 w4 (qZ.out w4 mM.out) fI.out);have HD:=ah (And.intro h0 h8);clear h0 h8;go_wp2_with (((with_reducible refine au aj (.tmp 2) ?_ ?_ ?_ w.heap.size 0 ?_ r2 ?_ ?_);rfl;rfl;rfl;rfl;exact jr.out))
   refine nO.out.mono ?_;rintro e w5 ⟨v,r5,rfl,hx5,lY,hs5⟩;have mG:=ah (mM.out.trans hx5);have Hv:=ah (Tn v r5 w5 (Reads.cin (aZ.iV _ w5) _ _ lY) (PG fI.out hs5) (HT.out.ext mG.out));have Hs5:=ah hs5;clear lY hs5 hx5;go_wp2_with fail
   refine Hv.out.mono ?_;rintro e w6 ⟨b,rfl,hb1,hb2,hx6⟩;have Hb1:=ah hb1;have Hb2:=ah hb2;clear hb1 hb2;go_wp2;go_ret;exact⟨_,rfl,(fun h=>HP.out ⟨HD.out,abh (u:=u) Hs5.out.head Hs5.out.words (Hb1.out h v (by rw[jy];simp))⟩),(fun h=>Hb2.out ((Hb.out (HV.out h).1).strip Hs5.out)),mG.out.trans hx6⟩
  ·have d2:decide (d<=8)=false:=aY h8
   have HN:=ah (show 8<d by omega);clear h8;go_wp2;go_ret;exact⟨_,rfl,(fun h=>by cases h),(fun h=>absurd (HV.out h).2.2 (Int.not_le.2 HN.out)),mM.out⟩
 ·have d1:decide (d≥0)=false:=aY h0
  have d1':decide (0<=d)=false:=aY h0;have HN:=ah (show d<0 by omega);clear h0;go_wp2;go_ret;exact⟨_,rfl,(fun h=>by cases h),(fun h=>absurd (HV.out h).2.1 (Int.not_le.2 HN.out)),mM.out⟩
theorem ah4{s:ByteArray}(h:s≠⟨#[]⟩):0<s.size:=by
 rcases Nat.eq_zero_or_pos s.size with h0|h0
 ·exact absurd (ByteArray.ext (Array.eq_empty_of_size_eq_zero h0)) h
 ·exact h0
theorem PI(s:ByteArray)(A:Option Addr)(c:Nat)(l:List aJ)(w:World)(hs:Sl aQ w A l)(hn:l.length<=1000)(hs0:s.size<=1000000)(hne:∀x∈l,x.t≠⟨#[]⟩)(hsz:∀x∈l,x.t.size<=100):
 Calls prog 263 #[.string s,.slice A l.length c] w fun e w'=>∃t:ByteArray,e=.returned (.string t)/\t.size<=s.size+200*l.length/\Ext w w':=by
 have Hs:=ah hs;have Z0:=ah hne;have Gm:=ah hsz;clear hs hne hsz;go_enter func263,ntmps263
 go_wp2
 go_loopw [0,9] (fun v0 vk wr=>∃(k:Nat) (t:ByteArray),k<=l.length/\vk=.int .i64 (k:Nat)/\v0=.string t/\Hid (t.size<=s.size+200*k)/\Ext w wr) (fun _ vk _=>l.length-(intOf vk).toNat)
 case atStart=>exact⟨0,s,bI _,rfl,rfl,ah (by omega),Ext.refl _⟩
 case round=>
  obtain⟨k,t,hk,rfl,rfl,Ht,hext⟩:=hrel;by_cases hlt:k<l.length
  ·obtain⟨b,off,hA,hb,hcs⟩:=(Hs.out.ext hext).at_ hlt
   obtain⟨y,hy⟩:=aH (l[k]);have Hy1:=ah (show y.t≠⟨#[]⟩from by rw[<-hy];exact Z0.out _ (dW hlt));have Hy2:=ah (show y.t.size<=100 from by rw[<-hy];exact Gm.out _ (dW hlt));rw[hy]at hcs;have jD:=ah (show At wr b (off+k*4) (aQ.E y)from hcs);have HA:=ah hA;have d1:=eY k l.length;clear hy hcs hA;rw[HA.out];go_upto_region 4 with(first|((with_reducible refine au aQ (.tmp 11) ?_ ?_ ?_ b (off+k*4) ?_ y ?_ ?_);rfl;rfl;rfl;rfl;exact jD.out)|(refine aL aQ rfl rfl fun wG dL fF dM=> ?_)|(refine aD aQ (.tmp 6) (.tmp 12) rfl rfl wr wr.heap.size rfl y rfl _ _ dM rfl dL (aI _) fun w3 hx3 hz3 hk3 dX ho3=> ?_))
   have c0:=dX.one 0 (u:=.string y.t) rfl;simp only[bV]at c0;have eU:=ah (hext.trans hx3);clear dL fF dM hx3 hz3 hk3 dX ho3;have htn:t.size<=1200000:=by have:=Ht.out;omega
   have hpos:0<y.t.size:=ah4 Hy1.out;have hy2:y.t.size<=100:=Hy2.out;have n1:¬9223372036854775807<t.size+1:=by omega
   have n2:¬9223372036854775807<t.size+1+1:=by omega
   have n3:¬9223372036854775807<t.size+1+y.t.size:=by omega
   have n4:¬9223372036854775807<t.size+1+1+y.t.size:=by omega
   have e1:(⟨#[32]⟩:ByteArray).size=1:=rfl;have e2:(⟨#[92]⟩:ByteArray).size=1:=rfl;go_wp2
   all_goals
    go_roundw
    case rel=>exact⟨k+1,_,by omega,by go_num,rfl,ah (by have:=Ht.out;simp only[ByteArray.size_append,e1,e2];omega),eU.out⟩
    case measure=>simp[intOf];omega
  ·have d1:=fT k l.length
   go_wp2;go_ret;exact⟨_,rfl,by have:=Ht.out;omega,hext⟩
theorem JL(l:List UInt8):∀n,(Lib.repeatL l n).length=n*l.length
 |0=>by simp[Lib.repeatL]
 |n+1=>by simp[Lib.repeatL,JL l n,Nat.succ_mul];omega
theorem VF(d:Nat)(hd:d<=8):∃R:ByteArray,R.size<=16/\∀w,Calls prog 261 #[.string ⟨#[32,32]⟩,.int .i64 d] w fun e w'=>e=.returned (.string R)/\Ext w w':=by
 refine⟨⟨(Lib.repeatL [32,32] d).toArray⟩,?_,fun w=>(Tryz.strings_Repeat ⟨#[32,32]⟩ d w (by omega) (by change 2*d<=_;omega)).mono fun e w' ⟨h1,h2⟩=>⟨h1,h2⟩⟩;change (Lib.repeatL [32,32] d).length<=16;rw[JL];simp only[iX,List.length_nil];omega
theorem VG(u:av)(r:aB)(d:Nat)(w:World)(hr:Reads w u r)(hok:dI u)(hT:kN w):Calls prog 237 #[.agg r.cells.toArray,.int .i64 d] w fun e w'=>∃t:ByteArray,e=.returned (.string t)/\t.size<=200000/\(gG u/\d=0->t.size<=130)/\Ext w w':=by
 obtain⟨-,hkd,hlb,hhn,-,mU,hwn,-,hws,-⟩:=hr.j5;obtain⟨o1,o2,o3,-,o5,o6⟩:=hok.all.head;obtain⟨V,hV⟩:∃V:Prop,(gG u/\d=0)=V:=⟨_,rfl⟩;have HV:=ah (show V->gG u/\d=0/\r.hn=0/\r.wn=0 from by rw[<-hV];rintro⟨h1,h2⟩;exact⟨h1,h2,by rw[hhn,h1.head];rfl,by rw[hwn,h1.words];rfl⟩);have Hm:=ah (fun wq (he:Ext w wq)=>abk u r d wq (Reads.ext he u r hr) hok (hT.ext he));have HKS:=ah (fun wq (he:Ext w wq)=>Gj r.kind wq (hT.ext he));have Hh:=ah (fun(s:ByteArray) wq (he:Ext w wq) (hs0:s.size<=1000000) (hg:qU u)=>PI s r.hA r.hc u.head wq (mU.ext he) (by omega) hs0 hg.1 o5);have Hw:=ah (fun(s:ByteArray) wq (he:Ext w wq) (hs0:s.size<=1000000) (hg:qU u)=>PI s r.wA r.wc u.words wq (hws.ext he) (by omega) hs0 hg.2 o6);have hl:=o1;rw[<-hlb]at hl;have hks:=Xx r.kind;rw[<-hhn]at Hh o2;rw[<-hwn]at Hw o3;rw[hV];clear hkd hlb hhn mU hwn hws o1 o5 o6 hr hok hT hV;go_enter func237,ntmps237
 go_upto_region 1 with(refine aG aj (.tmp 0) rfl rfl r rfl fun wA aR bG bB aO=> ?_)
 have jr:=ah (fun W (he:Ext wA W)=>aO.ext he (ay bB));have DZ:=ah (ay bB);have Hx:=ah aR;have Hm2:=ah (Hm.out wA aR);have TA:=ah aO;clear aR bG bB aO Hm;go_wp2_with (((with_reducible refine au aj (.tmp 2) ?_ ?_ ?_ w.heap.size 0 ?_ r ?_ ?_);rfl;rfl;rfl;rfl;exact TA.out))
 refine Hm2.out.mono ?_;rintro e w2 ⟨b,rfl,hb1,hb2,hx2⟩;have Hb1:=ah hb1;have iF:=ah (Hx.out.trans hx2);have eD:=ah hx2;clear hb1 hb2 hx2 Hm2 TA;cases b with
 |false=>
  go_wp2;go_ret;exact⟨_,rfl,bI _,(fun _=>bI _),iF.out⟩
 |true=>
  obtain⟨⟨hd0,hd8⟩,hg⟩:=Hb1.out rfl;have hd:d<=8:=by omega
  have HG:=ah hg;obtain⟨RS,hRS,hrep⟩:=VF d hd;have HRS:=ah hrep;obtain⟨KS,hKS⟩:=aH (sF r.kind);rw[hKS]at HKS hks;have HKS:=ah (fun wq (he:Ext w2 wq)=>HKS.out wq (iF.out.trans he));have jh:=ah (show∀wq,Ext w2 wq->(aK [.int .i64 r.a,.int .i64 r.i,.int .i64 r.n,.int .i64 r.kind,.string r.label,.slice r.hA r.hn r.hc,.slice r.wA r.wn r.wc,.slice r.kA r.kn r.kc]).p (.pointer (some ⟨w.heap.size,0,none⟩)) wq from fun wq he=>⟨w.heap.size,0,rfl,bQ DZ.out (eD.out.trans he).size,fun j y hy=>jr.out wq (eD.out.trans he) j y hy⟩);have n1:¬9223372036854775807<RS.size+KS.size:=by omega
  clear hKS hrep hg hd0 hd8;go_upto_region 3 with fail
  refine iw (by kernel_rfl) (fun i=>match i with|0=>Ty.is (.int .i64 (d:Nat))|1=>Ty.is (.string RS)|2=>aK [.int .i64 r.kind]|3=>Ty.is (.int .i64 r.kind)|4=>Ty.is (.string KS)|5=>Ty.is (.string (RS++KS))|6=>Ty.is (.string (RS++KS))|_=>Ty.any) (by kernel_rfl) rfl ?_;intro v;refine⟨?_,?_,?_,?_,?_,?_,?_,?_⟩
  ·exact fun wq hq _=>ak rfl (aF (.tmp 1) rfl rfl rfl)
  ·rintro wq hq ⟨h0,-⟩
   change v 0=_ at h0;refine ak rfl ?_;refine fC 261 call261 _ _ rfl rfl [_,_] ⟨rfl,h0,trivial⟩ ?_;refine(HRS.out wq).mono ?_;rintro e w' ⟨rfl,hx'⟩;exact⟨_,rfl,hx',rfl⟩
  ·exact fun wq hq _=>ak rfl (dB 30 1 (.tmp 2) rfl _ underlying30 _ rfl 1 sizeOf3 (by decide) [.int .i64 r.a,.int .i64 r.i,.int .i64 r.n,.int .i64 r.kind,.string r.label,.slice r.hA r.hn r.hc,.slice r.wA r.wn r.wc,.slice r.kA r.kn r.kc] ((jh.out _ hq)))
  ·rintro wq hq ⟨h0,-⟩;exact ak rfl (bW 3 (.tmp 12) rfl isAgg3 (c:=.int .i64 r.kind) h0 rfl)
  ·rintro wq hq ⟨h0,h1,-⟩
   change v 3=_ at h0;refine ak rfl ?_;refine fC 262 call262 _ _ rfl rfl [_] ⟨h0,trivial⟩ ?_;refine(HKS.out wq hq).mono ?_;rintro e w' ⟨rfl,hx'⟩;exact⟨_,rfl,by rw[hx'];exact Ext.refl _,rfl⟩
  ·rintro wq hq ⟨h0,h1,-⟩;exact ak rfl (Xg .add 9 9 (.tmp 11) (.tmp 14) rfl _ _ h0 h1 (fun w=>by go_simp) rfl)
  ·rintro wq hq ⟨h0,h1,h2,h3,h4,h5,h6,h7,-⟩;exact ak rfl (jY (.tmp 15) rfl h0 rfl)
  ·intro wq hq hT
   have k6:=hT 6 (by decide);change v 6=_ at k6;clear hT;simp only[List.drop_succ_cons,List.drop_zero,gH,dK,List.set_cons_succ,List.set_cons_zero,Nat.reduceAdd];rw[k6];obtain⟨S0,hS0⟩:=aH (RS++KS);have hs0:S0.size<=25:=by rw[<-hS0,ByteArray.size_append];omega
   rw[hS0];have iR:=ah (iF.out.trans hq);have nG:=ah (fun W (he:Ext wq W)=>jr.out W (eD.out.trans (hq.trans he)));obtain⟨c3,c4,c5,c6,-⟩:=o8 (nG.out wq (Ext.refl _));have e1:(⟨#[32]⟩:ByteArray).size=1:=rfl;have e2:(⟨#[58]⟩:ByteArray).size=1:=rfl;have e3:(⟨#[32,124]⟩:ByteArray).size=2:=rfl;have m1:¬9223372036854775807<1+r.label.size:=by omega
   have m2:¬9223372036854775807<S0.size+(1+r.label.size):=by omega
   clear hS0 hq n1 hRS hks HKS HRS jh hd
   go_upto_if 18 with fail
   go_cut [5] (fun s5 wx=>wx=wq/\∃S1:ByteArray,s5=.string S1/\Hid (S1.size<=126))
   case first=>
    by_cases hk:r.kind=0
    ·have hkb:(r.kind !=0)=false:=by simp[hk]
     go_wp2
     go_meet
     case rel=>exact⟨rfl,_,rfl,ah (by omega)⟩
    ·have hkb:(r.kind !=0)=true:=by simp[hk]
     go_wp2
     go_meet
     case rel=>exact⟨rfl,_,rfl,ah (by simp only[ByteArray.size_append,e1];omega)⟩
   case rest=>
    obtain⟨rfl,S1,rfl,H1⟩:=hcut;have hs1:S1.size<=126:=H1.out;have m3:¬9223372036854775807<S1.size+1:=by omega
    go_upto_if 27 with fail
    go_cut [5] (fun s5 wx=>Ext wc wx/\∃S2:ByteArray,s5=.string S2/\Hid (S2.size<=61000)/\Hid (V->S2.size<=126))
    case first=>
     by_cases hh:r.hn>0
     ·have d1:decide ((r.hn:Int)>0)=true:=bJ (by omega)
      have d1':decide (0<r.hn)=true:=bJ hh;rw[d1'];have HN:=ah (show V->False from fun h=>by have:=(HV.out h).2.2.1;omega);have O8:=ah (Hh.out (S1++⟨#[58]⟩) wc iR.out (by simp only[ByteArray.size_append,e2];omega) HG.out);clear hh;go_wp2_with fail
      refine O8.out.mono ?_;rintro e w4 ⟨t,rfl,ht,hx4⟩;have Ht:=ah (show t.size<=61000 from by simp only[ByteArray.size_append,e2]at ht;omega);clear ht;go_wp2
      go_meet
      case rel=>exact⟨hx4,_,rfl,Ht,ah (fun h=>(HN.out h).elim)⟩
     ·have d1:decide ((r.hn:Int)>0)=false:=aY (by omega)
      have d1':decide (0<r.hn)=false:=aY hh;rw[d1'];clear hh;go_wp2
      go_meet
      case rel=>exact⟨Ext.refl _,_,rfl,ah (by omega),ah (fun _=>hs1)⟩
    case rest=>
     obtain⟨hx4,S2,rfl,H2,H2v⟩:=hcut;have hs2:S2.size<=61000:=H2.out;have m4:¬9223372036854775807<S2.size+2:=by omega
     obtain⟨-,-,-,c6,-⟩:=o8 (nG.out wc hx4);have JM:=ah (iR.out.trans hx4);clear hx4
     go_upto_if 36 with fail
     by_cases hh:r.wn>0
     ·have d1:decide ((r.wn:Int)>0)=true:=bJ (by omega)
      have d1':decide (0<r.wn)=true:=bJ hh;rw[d1'];have HN:=ah (show V->False from fun h=>by have:=(HV.out h).2.2.2;omega);have zF:=ah (Hw.out (S2++⟨#[32,124]⟩) wc JM.out (by simp only[ByteArray.size_append,e3];omega) HG.out);clear hh;go_wp2_with fail
      refine zF.out.mono ?_;rintro e w4 ⟨t,rfl,ht,hx4⟩;have Ht:=ah (show t.size<=200000 from by simp only[ByteArray.size_append,e3]at ht;omega);clear ht;go_wp2;go_ret;exact⟨_,rfl,Ht.out,(fun h=>(HN.out h).elim),JM.out.trans hx4⟩
     ·have d1:decide ((r.wn:Int)>0)=false:=aY (by omega)
      have d1':decide (0<r.wn)=false:=aY hh;rw[d1'];clear hh;go_wp2;go_ret;exact⟨_,rfl,by omega,(fun h=>by have:=H2v.out h;omega),JM.out⟩
def ER(s:GStep):Bool:=decide (s.k=0)&&decide (s.l=⟨#[]⟩)
def vE(s:GStep):Bool:=decide (0<s.k)&&decide (s.k<=7)&&sj s.l.data.toList
def qy:Nat->List GStep->Bool
 |_,[]=>true
 |k,s::r=>((decide (k=0)&&ER s)||vE s)&&qy (k+1) r
def yc(l:List GStep):Bool:=qy 0 l&&decide (l.length<=9)
theorem VH{l:List GStep}{k:Nat}(h:k<l.length):qy k (l.drop k)=(((decide (k=0)&&ER l[k])||vE l[k])&&qy (k+1) (l.drop (k+1))):=by
 rw[iW h,qy]
def jd(u:av)(s:GStep):Bool:=decide (u.kind=s.k)&&decide (u.label=s.l)
theorem JN(q:aB)(s:GStep)(w:World):
 Calls prog 198 #[.agg (aj.E q).toArray,.agg (dG.E s).toArray] w fun e w'=>e=.returned (.bool (decide (q.kind=s.k)&&decide (q.label=s.l)))/\Ext w w':=by
 obtain⟨b1,hb1⟩:=aH (decide (q.kind=s.k));obtain⟨b2,hb2⟩:=aH (decide (q.label=s.l));have g2:(q.label.toList==s.l.toList)=b2:=by rw[rW,hb2]
 have g1:(q.kind==s.k)=b1:=by rw[<-hb1];rfl
 rw[hb1,hb2];clear hb2;go_enter func198,ntmps198
 go_upto_region 1 with(first|(refine aG aj (.tmp 0) rfl rfl q rfl fun wA aR bG bB aO=> ?_)|(refine aG dG (.tmp 1) rfl rfl s rfl fun wB eH ji hkB eG=> ?_))
 have hA:=aO.ext eH (ay bB);have p3:=hA.one 3 (u:=.int .i64 q.kind) rfl;have p4:=hA.one 4 (u:=.string q.label) rfl;have s0:=eG.zero (u:=.int .i64 s.k) rfl;have s1:=eG.one 1 (u:=.string s.l) rfl;simp only[bV,bG]at p3 p4 s0 s1;have hx:=aR.trans eH;clear ji hkB eG hA aO bB;cases b1<;>cases b2<;>
 ·go_wp2
  go_ret;exact⟨rfl,hx⟩
theorem Yq(u:av)(q:aB)(s:GStep)(w:World)(hr:Reads w u q):
 Calls prog 198 #[.agg (aj.E q).toArray,.agg (dG.E s).toArray] w fun e w'=>e=.returned (.bool (jd u s))/\Ext w w':=by
 have f:=hr.j5;unfold jd;rw[<-f.2.1,<-f.2.2.1];exact JN q s w
theorem PK(s:GStep)(w:World):
 Calls prog 140 #[.agg (dG.E s).toArray] w fun e w'=>e=.returned (.bool (ER s))/\Ext w w':=by
 unfold ER;obtain⟨b1,hb1⟩:=aH (decide (s.k=0));obtain⟨b2,hb2⟩:=aH (decide (s.l=⟨#[]⟩));have g3:(s.l.toList==ByteArray.toList ⟨#[]⟩)=b2:=by rw[rW,hb2]
 have g2:s.l.toList.isEmpty=b2:=by rw[<-g3];simp
 have g1:(s.k==0)=b1:=by rw[<-hb1];rfl
 rw[hb1,hb2];clear g3 hb2;go_enter func140,ntmps140
 go_upto_region 1 with(refine aG dG (.tmp 0) rfl rfl s rfl fun wB eH ji hkB eG=> ?_)
 have s0:=eG.zero (u:=.int .i64 s.k) rfl;have s1:=eG.one 1 (u:=.string s.l) rfl;simp only[bV]at s1;clear ji hkB eG;cases b1<;>cases b2<;>
 ·go_wp2
  go_ret;exact⟨rfl,eH⟩
theorem AY(A:Option Addr)(c:Nat)(l:List GStep)(w:World)(hs:Sl dG w A l)(hn:l.length<=1000000)(hsz:∀s∈l,s.l.size<=1048576):
 Calls prog 71 #[.slice A l.length c] w fun e w'=>e=.returned (.bool (yc l))/\Ext w w':=by
 unfold yc;obtain⟨R,hR⟩:=aH (qy 0 l);have HR:Hid (qy 0 (l.drop 0)=R):=ah hR;have Gm:=ah hsz;rw[hR];clear hR hsz;go_enter func71,ntmps71
 go_wp2
 go_loopw [7] (fun vk wr=>∃k:Nat,k<=l.length/\vk=.int .i64 (k:Nat)/\Hid (qy k (l.drop k)=R)/\Ext w wr) (fun vk _=>l.length-(intOf vk).toNat)
 case atStart=>exact⟨0,bI _,rfl,HR,Ext.refl _⟩
 case round=>
  obtain⟨k,hk,rfl,Hk,hext⟩:=hrel;by_cases hlt:k<l.length
  ·have hk2:=Hk.out
   rw[VH hlt]at hk2;have f1:=eY k l.length;obtain⟨b,off,hA,hb,hcs⟩:=(hs.ext hext).at_ hlt;have hss:=Gm.out l[k] (dW hlt);obtain⟨s,hq⟩:=aH (l[k]);rw[hq]at hcs hk2 hss;have jD:=ah (show At wr b (off+k*2) (dG.E s)from hcs);have HA:=ah hA;have DC:=ah hk2;clear hcs hq hA hk2;rw[HA.out];go_upto_region 4 with(first|((with_reducible refine au dG (.tmp 10) ?_ ?_ ?_ b (off+k*2) ?_ s ?_ ?_);rfl;rfl;rfl;rfl;exact jD.out)|(refine aL dG rfl rfl fun wL uw TB Ca=> ?_)|((refine aD dG (.tmp 4) (.tmp 11) ?_ ?_ wr wr.heap.size ?_ s ?_ _ _ Ca ?_ uw (aI _) ?_);rfl;rfl;rfl;rfl;rfl;intro wS j4 hzS kL N7 hoS))
   have s0:=N7.zero (u:=.int .i64 s.k) rfl;have s1:=N7.one 1 (u:=.string s.l) rfl;simp only[bV]at s1;have Yr:=ah N7;have hbS:=ay kL;clear N7 kL TB uw Ca hoS;by_cases hk0:k=0
   ·subst hk0
    go_wp2_with ((with_reducible refine au dG (.tmp 4) ?_ ?_ ?_ wr.heap.size 0 ?_ s ?_ ?_);rfl;rfl;rfl;rfl;exact Yr.out)
    refine(PK s wS).mono ?_;rintro e w2 ⟨rfl,hx2⟩;have q0:w2.cell? ⟨wr.heap.size,0,none⟩=some (.int .i64 s.k):=(hx2.cell (p:=⟨wr.heap.size,0,none⟩) hbS).trans s0;have q1:w2.cell? ⟨wr.heap.size,1,none⟩=some (.string s.l):=(hx2.cell (p:=⟨wr.heap.size,1,none⟩) hbS).trans s1;clear s0 s1;obtain⟨N,hN⟩:=aH (ER s);have HN:=ah hN;rw[hN];clear hN;cases N with
    |true=>
     have uS:=ah (show qy 1 (l.drop 1)=R from by have h:=DC.out;simpa[HN.out]using h);have jf:=j4.trans hx2;go_wp2;go_roundw
     case rel=>exact⟨1,by omega,by go_num,uS,hext.trans jf⟩
     case measure=>simp[intOf];omega
    |false=>
     have uS:=ah (show(vE s&&qy (0+1) (l.drop (0+1)))=R from by have h:=DC.out;simpa[HN.out]using h);have jf:=j4.trans hx2;by_cases h1:s.k<=0
     ·have d1:decide (s.k<=0)=true:=bJ h1
      have CS:=ah (show R=false from by have h:=uS.out;unfold vE at h;rw[aY (show ¬0<s.k by omega)]at h;simpa using h.symm);clear h1;go_wp2;go_ret;exact⟨by rw[CS.out];rfl,hext.trans jf⟩
     ·have d1:decide (s.k<=0)=false:=aY h1
      by_cases h2:7<s.k
      ·have d2:decide (7<s.k)=true:=bJ h2
       have d3:decide (s.k>7)=true:=bJ h2;have CS:=ah (show R=false from by have h:=uS.out;unfold vE at h;rw[aY (show ¬s.k<=7 by omega)]at h;simpa using h.symm);clear h1 h2;go_wp2;go_ret;exact⟨by rw[CS.out];rfl,hext.trans jf⟩
      ·have d2:decide (7<s.k)=false:=aY h2
       have d3:decide (s.k>7)=false:=aY h2;have HB:=ah (show 0<s.k/\s.k<=7 from⟨by omega,by omega⟩);clear h1 h2;go_wp2_with fail
       refine(CV s.l w2 hss).mono ?_;rintro e w3 ⟨rfl,hx3⟩;obtain⟨M,hM⟩:=aH (sj s.l.data.toList);have HM:=ah hM;rw[hM];clear hM;cases M with
       |true=>
        have OW:=ah (show qy (0+1) (l.drop (0+1))=R from by have h:=uS.out;unfold vE at h;rw[bJ HB.out.1,bJ HB.out.2,HM.out]at h;simpa using h);go_wp2;go_roundw
        case rel=>exact⟨0+1,by omega,by go_num,OW,hext.trans (jf.trans hx3)⟩
        case measure=>simp[intOf];omega
       |false=>
        have CS:=ah (show R=false from by have h:=uS.out;unfold vE at h;rw[HM.out]at h;simpa using h.symm);go_wp2;go_ret;exact⟨by rw[CS.out];rfl,hext.trans (jf.trans hx3)⟩
   ·have dk:decide ((k:Int)=0)=false:=aY (by omega)
    have dk2:((k:Int)==0)=false:=by simp;omega
    have dk3:(k==0)=false:=by simp;omega
    have uS:=ah (show(vE s&&qy (k+1) (l.drop (k+1)))=R from by have h:=DC.out;simpa[hk0]using h);have jf:=j4;by_cases h1:s.k<=0
    ·have d1:decide (s.k<=0)=true:=bJ h1
     have CS:=ah (show R=false from by have h:=uS.out;unfold vE at h;rw[aY (show ¬0<s.k by omega)]at h;simpa using h.symm);clear h1;go_wp2;go_ret;exact⟨by rw[CS.out];rfl,hext.trans jf⟩
    ·have d1:decide (s.k<=0)=false:=aY h1
     by_cases h2:7<s.k
     ·have d2:decide (7<s.k)=true:=bJ h2
      have d3:decide (s.k>7)=true:=bJ h2;have CS:=ah (show R=false from by have h:=uS.out;unfold vE at h;rw[aY (show ¬s.k<=7 by omega)]at h;simpa using h.symm);clear h1 h2;go_wp2;go_ret;exact⟨by rw[CS.out];rfl,hext.trans jf⟩
     ·have d2:decide (7<s.k)=false:=aY h2
      have d3:decide (s.k>7)=false:=aY h2;have HB:=ah (show 0<s.k/\s.k<=7 from⟨by omega,by omega⟩);clear h1 h2;go_wp2_with fail
      refine(CV s.l wS hss).mono ?_;rintro e w3 ⟨rfl,hx3⟩;obtain⟨M,hM⟩:=aH (sj s.l.data.toList);have HM:=ah hM;rw[hM];clear hM;cases M with
      |true=>
       have OW:=ah (show qy (k+1) (l.drop (k+1))=R from by have h:=uS.out;unfold vE at h;rw[bJ HB.out.1,bJ HB.out.2,HM.out]at h;simpa using h);go_wp2;go_roundw
       case rel=>exact⟨k+1,by omega,by go_num,OW,hext.trans (jf.trans hx3)⟩
       case measure=>simp[intOf];omega
      |false=>
       have CS:=ah (show R=false from by have h:=uS.out;unfold vE at h;rw[HM.out]at h;simpa using h.symm);go_wp2;go_ret;exact⟨by rw[CS.out];rfl,hext.trans (jf.trans hx3)⟩
  ·have f1:=fT k l.length
   have HR1:=ah (show R=true from by have h:=Hk.out;rw[mH (by omega),qy]at h;exact h.symm);by_cases h9:l.length<=9
   ·have d9:decide ((l.length:Int)<=9)=true:=bJ (by omega)
    have H9:=ah h9;clear h9;go_wp2;go_ret;exact⟨by rw[HR1.out,bJ H9.out];rfl,hext⟩
   ·have d9:decide ((l.length:Int)<=9)=false:=aY (by omega)
    have H9:=ah h9;clear h9;go_wp2;go_ret;exact⟨by rw[HR1.out,aY H9.out];rfl,hext⟩
theorem qF:∀us vs:List av,bZ (us++vs)=bZ us+bZ vs
 |[],vs=>by rw[bZ];simp
 |u::us,vs=>by rw[jE,bZ,bZ,qF us vs];omega
theorem Dm(p:av->Bool):∀us:List av,bZ (us.filter p)<=bZ us
 |[]=>aI _
 |u::us=>by
  have h:=Dm p us;rw[List.filter_cons]
  split
  ·rw[bZ,bZ];omega
  ·rw[bZ];omega
def Yt(s:GStep)(x:av):List av:=x.kids.filter (jd · s)
def kE(xs:List av)(s:GStep):List av:=xs.flatMap (Yt s)
theorem Ii(s:GStep):∀xs:List av,bZ (kE xs s)<=bZ xs
 |[]=>aI _
 |x::xs=>by
  have h:=Ii s xs;have h2:=Dm (jd · s) x.kids;have h3:=jR x;unfold kE at h⊢;rw[List.flatMap_cons,qF,bZ];unfold Yt at h⊢;omega
def oh(u:av)(s:GStep):List av:=if ER s then [u]else(bO u).filter (jd · s)
def iO(u:av)(l:List GStep):List av:=if yc l then(match l with|[]=>[u]|s::r=>r.foldl kE (oh u s))else []
theorem TD:∀(us:List av) (n:Nat),(∀x∈us,cntF x<=n)->bZ us<=us.length*n
 |[],_,_=>by rw[bZ];exact bI _
 |u::us,n,h=>by
  have h1:=TD us n (fun x hx=>h x (lV _ hx));have h2:=h u (List.mem_cons_self ..);rw[bZ,iX,Nat.succ_mul];omega
theorem Ms(u:av)(s:GStep)(hok:dI u):bZ (oh u s)<=1000000:=by
 unfold oh
 split
 ·have:=hok.cnt;rw[bZ,bZ];omega
 ·refine bX (Dm _ _) (bX (TD _ 1000 fun x hx=>(hok.pre hx).cnt) ?_)
  rw[nW];have:=hok.cnt;omega
theorem Ij:∀(r:List GStep) (xs:List av),bZ (r.foldl kE xs)<=bZ xs
 |[],_=>aI _
 |s::r,xs=>bX (Ij r _) (Ii s xs)
mutual
theorem PL:∀{u x y:av},y∈bO u->x∈y.kids->x∈bO u
 |.mk a i n k l hd wd kids,x,y,hy,hx=>by
  rw[jy]at hy⊢;rcases List.mem_cons.1 hy with rfl|hy
  ·exact lV _ (TF hx)
  ·exact lV _ (PN (us:=kids) hy hx)
theorem PN:∀{us:List av} {x y:av},y∈eO us->x∈y.kids->x∈eO us
 |[],_,_,hy,_=>by rw[eO]at hy;cases hy
 |u::us,x,y,hy,hx=>by
  rw[eO]at hy⊢;rcases List.mem_append.1 hy with h|h
  ·exact List.mem_append.2 (.inl (PL h hx))
  ·exact List.mem_append.2 (.inr (PN h hx))
theorem TF:∀{us:List av} {x:av},x∈us->x∈eO us
 |u::us,x,h=>by
  rw[eO];rcases List.mem_cons.1 h with rfl|h
  ·exact List.mem_append.2 (.inl (by rw[jy];exact List.mem_cons_self ..))
  ·exact List.mem_append.2 (.inr (TF h))
end
theorem ad4{u:av}{xs:List av}(h:∀x∈xs,x∈bO u)(s:GStep):∀x∈kE xs s,x∈bO u:=by
 intro x hx;obtain⟨y,hy,hxy⟩:=List.mem_flatMap.1 hx;exact PL (h y hy) (List.mem_filter.1 hxy).1
theorem PO(u:av)(s:GStep):∀x∈oh u s,x∈bO u:=by
 intro x hx;unfold oh at hx
 split at hx
 ·rw[List.mem_singleton.1 hx,jy];exact List.mem_cons_self ..
 ·exact(List.mem_filter.1 hx).1
theorem KI{u:av}:∀(r:List GStep) (xs:List av),(∀x∈xs,x∈bO u)->∀x∈r.foldl kE xs,x∈bO u
 |[],_,h=>h
 |s::r,xs,h=>KI r (kE xs s) (ad4 h s)
theorem Ik(u:av)(l:List GStep):∀x∈iO u l,x∈bO u:=by
 unfold iO
 split
 ·cases l with
  |nil=>intro x hx;rw[List.mem_singleton.1 hx,jy];exact List.mem_cons_self ..
  |cons s r=>exact KI r _ (PO u s)
 ·intro x hx;cases hx
theorem abm(u:av)(l:List GStep)(hok:dI u):bZ (iO u l)<=1000000:=by
 unfold iO
 split
 ·cases l with
  |nil=>have:=hok.cnt;show bZ [u]<=_;rw[bZ,bZ];omega
  |cons s r=>exact bX (Ij r _) (Ms u s hok)
 ·rw[bZ];exact bI _
end Go.Proofs.YtgboomjahhnldaaGreatDoor
