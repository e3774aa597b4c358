/- A part of the proof of TopWritten, printed small: TTakes2 MapK8W EngG IdsV8W Lab10 LabB10W. -/
import Derived.Test.YtgboomjahhnldaaGreatDoorZ12
import Derived.Test.YtgboomjahhnldaaGreatDoorZ07
import Derived.Test.YtgboomjahhnldaaGreatDoorZ21
import Derived.Test.YtgboomjahhnldaaGreatDoorZ08
import Derived.MapKept
import Derived.Maps.OwnSet
import Derived.WideKeyRuns
import Derived.Test.YtgboomjahhnldaaGreatDoorZ03
import Derived.Test.YtgboomjahhnldaaGreatDoorZ15
import Derived.Shelf.Strings.FuncGrows
set_option maxRecDepth 100000
set_option maxHeartbeats 25600000
set_option linter.all false
namespace Go.Proofs.YtgboomjahhnldaaGreatDoor
open Go.Proofs.Tryz Go.RowKit
def Mg(k:Int)(l:ByteArray)(q:aB):Bool:=decide (q.kind=k)&&decide (q.label=l)
theorem Yh(q:aB)(k:Int)(l:ByteArray)(B:Nat)(w:World)(hB:B<w.heap.size)(h3:w.cell? ⟨B,3,none⟩=some (.int .i64 k))(h4:w.cell? ⟨B,4,none⟩=some (.string l)):
 Calls prog 163 #[.agg (aj.E q).toArray,.pointer (some ⟨B,0,none⟩)] w fun e w'=>e=.returned (.bool (Mg k l q))/\Ext w w':=by
 unfold Mg;obtain⟨b1,hb1⟩:=aH (decide (q.kind=k));obtain⟨b2,hb2⟩:=aH (decide (q.label=l));have g2:(q.label.toList==l.toList)=b2:=by rw[rW,hb2]
 have g1:(q.kind==k)=b1:=by rw[<-hb1];rfl
 rw[hb1,hb2];clear hb2;go_enter func163,ntmps163
 go_upto_region 1 with(refine aG aj (.tmp 0) rfl rfl q rfl fun wA aR bG bB aO=> ?_)
 have p3:=aO.one 3 (u:=.int .i64 q.kind) rfl;have p4:=aO.one 4 (u:=.string q.label) rfl;simp only[bV]at p3 p4;have r3:=(aR.cell (p:=⟨B,3,none⟩) hB).trans h3;have r4:=(aR.cell (p:=⟨B,4,none⟩) hB).trans h4;clear bG bB aO h3 h4;cases b1<;>cases b2<;>
 ·go_wp2
  go_ret;exact⟨rfl,aR⟩
def ou(w:World):Prop:=∃A c,w.cell? ⟨1,0,none⟩=some (.slice A 2 c)/\Sl fD w A [1,2]
theorem ou.ext{w w':World}(h:ou w)(hT:kN w)(he:Ext w w'):ou w':=by
 obtain⟨A,c,h1,h2⟩:=h;exact⟨A,c,(he.cell (p:=⟨_,0,none⟩) hT.blt).trans h1,h2.ext he⟩
theorem Vx(A:Option Addr)(c:Nat)(l:List Int)(x:Int)(w:World)(hs:Sl fD w A l)(hn:l.length<=1000000):
 Calls prog 233 #[.slice A l.length c,.int .i64 x] w fun e w'=>e=.returned (.int .i64 (gI (fun y=>x==y) l 0))/\Ext w w':=by
 obtain⟨R,hR⟩:=aH (gI (fun y=>x==y) l 0);have HR:Hid (gI (fun y=>x==y) (l.drop 0) 0=R):=ah hR;rw[hR];clear hR;go_enter func233,ntmps233
 go_wp2
 go_loopw [5,8] (fun _ vk wr=>∃k:Nat,k<=l.length/\vk=.int .i64 (k:Nat)/\Hid (gI (fun y=>x==y) (l.drop k) k=R)/\Ext w wr) (fun _ vk _=>l.length-(intOf vk).toNat)
 case atStart=>exact⟨0,bI _,rfl,HR,Ext.refl _⟩
 case round=>
  obtain⟨k,hk,rfl,Hk,hext⟩:=hrel;by_cases hlt:k<l.length
  ·obtain⟨b,off,lI,hb,u0⟩:=Eo (hs.ext hext) hlt
   subst lI;have hk2:=Hk.out;rw[zC hlt]at hk2;obtain⟨y,hy⟩:=aH (l[k]);rw[hy]at u0 hk2;have d1:=eY k l.length;clear hy;cases he:(x==y)with
   |true=>
    rw[bH he]at hk2;have og:=ah hk2;clear hk2;go_wp2;go_ret;exact⟨qD og.out,hext⟩
   |false=>
    rw[aU (by rw[he];simp)]at hk2;have og:=ah hk2;clear hk2;go_wp2;go_roundw
    case rel=>exact⟨k+1,by omega,by go_num,og,hext⟩
    case measure=>simp[intOf];omega
  ·have hk2:=Hk.out
   rw[mH (by omega),gI]at hk2;have og:=ah hk2;clear hk2;have d1:=fT k l.length;go_wp2;go_ret;exact⟨qD og.out,hext⟩
theorem Vy(A:Option Addr)(c:Nat)(w:World)(hs:Sl fD w A [1,2]):
 Calls prog 205 #[.slice A 2 c,.int .i64 2] w fun e w'=>e=.returned (.bool true)/\Ext w w':=by
 have Hi:=ah (Vx A c [1,2] 2 w hs (by simp));have e:gI (fun y=>(2:Int)==y) [1,2] 0=1:=by decide
 rw[e]at Hi;simp only[iX,List.length_nil]at Hi;clear hs e;go_enter func205,ntmps205
 go_wp2_with fail
 refine(Hi.out).mono ?_;rintro e w2 ⟨rfl,hx2⟩;go_wp2;go_ret;exact⟨rfl,hx2⟩
theorem adX(k x:Int)(w:World)(hT:kN w):Calls prog 161 #[.int .i64 k,.int .i64 x] w fun e w'=>∃b:Bool,e=.returned (.bool b)/\(ou w->k=0->x=2->b=true)/\Ext w w':=by
 by_cases h:ou w/\k=0/\x=2
 ·obtain⟨h0,rfl,rfl⟩:=h
  obtain⟨A,c,h1,h2⟩:=h0;have Hi:=ah (Vy A c w h2);clear hT h2;go_enter func161,ntmps161
  go_wp2_with fail
  refine(Hi.out).mono ?_;rintro e w2 ⟨rfl,hx2⟩;go_wp2;go_ret;exact⟨_,rfl,fun _ _ _=>rfl,hx2⟩
 ·refine(yS k x w hT).mono ?_
  rintro e w' ⟨b,h1,h2⟩;exact⟨b,h1,fun a b c=>absurd ⟨a,b,c⟩ h,h2⟩
def Tg(p x:av)(w:World)(e:Ending)(w':World):Prop:=∃E:Int,e=.returned (.int .i64 E)/\(ou w->p.kind=0->x.kind=2->p.kids=[]->E=0)/\Ext w w'
theorem Ie(p x:av)(r q:aB)(w:World)(hT:kN w)(hr:Reads w p r)(hq:Reads w x q)(hok:dI p):Calls prog 95 #[.agg r.cells.toArray,.agg q.cells.toArray] w (Tg p x w):=by
 unfold Tg;obtain⟨-,hkd,-,-,-,-,-,-,-,hkn,hkc,rs,hrs,hall,hrl⟩:=hr.j5;obtain⟨-,hqk,-⟩:=hq.j5;have XR:=hok.all.head.2.2.2.1;have anh:=ah (show p.kids=[]->rs=[]from fun h=>kM (by rw[hrl,h];rfl));have Mh:=ah hkd;have Hxk:=ah hqk;have Hrn:=ah (show r.kn=rs.length from by rw[hkn,hrl]);have hrl2:rs.length<=1000:=by omega
 clear hr hq hok hkd hqk hkn hall hrl XR;go_enter func95,ntmps95
 go_upto_region 1 with(first|(refine aG aj (.tmp 0) rfl rfl r rfl fun wA aR bG bB aO=> ?_)|(refine aG aj (.tmp 1) rfl rfl q rfl fun wB eH ji hkB eG=> ?_))
 have lA:=ay bB;have lB:=ay hkB;have hx:=aR.trans eH;have hA:=aO.ext eH lA;have p3:=hA.one 3 (u:=.int .i64 r.kind) rfl;have p7:=hA.one 7 (u:=.slice r.kA rs.length r.kc) (by rw[<-Hrn.out];rfl);have s3:=eG.one 3 (u:=.int .i64 q.kind) rfl;have s4:=eG.one 4 (u:=.string q.label) rfl;simp only[bV]at p3 p7 s3 s4;have hwA:wA.heap.size=w.heap.size+1:=bG;rw[hwA]at s3 s4 lB;have zV:=ah (adX r.kind q.kind wB (hT.ext hx));have NY:=ah (fun wq (he:Ext wB wq)=>aan 163 #[.pointer (some ⟨w.heap.size+1,0,none⟩)] call163 rs r.kA r.kc (Mg q.kind q.label) wq (hrs.ext (hx.trans he)) (by omega) (fun k h wq2 he2=>Yh rs[k] q.kind q.label (w.heap.size+1) wq2 (bQ lB (he.trans he2).size) (((he.trans he2).cell (p:=⟨w.heap.size+1,3,none⟩) lB).trans s3) (((he.trans he2).cell (p:=⟨w.heap.size+1,4,none⟩) lB).trans s4)));have HT0:=ah (fun(h:ou w)=>h.ext hT hx);have Hp7:=ah (fun wq (he:Ext wB wq)=>(he.cell (p:=⟨w.heap.size,7,none⟩) (bQ lA eH.size)).trans p7);clear aR bG bB aO eH ji hkB eG hA s4 p7 hT hrs hwA;go_wp2_with fail
 refine zV.out.mono ?_;rintro e w2 ⟨b,rfl,hb,hx2⟩;have Hb:=ah hb;clear hb zV p3 s3;cases b with
 |false=>
  go_wp2;go_ret
  exact⟨9,rfl,fun h1 h2 h3 _=>(by
   have:=Hb.out (HT0.out h1) (by rw[Mh.out];exact h2) (by rw[Hxk.out];exact h3);cases this),hx.trans hx2⟩
 |true=>
  have Hh:=ah (NY.out w2 hx2);have p7:=Hp7.out w2 hx2;obtain⟨sb,hsb⟩:=aH (rs.any (Mg q.kind q.label));rw[hsb]at Hh;have Hsb:=ah hsb;clear hsb NY;go_wp2_with fail
  refine Hh.out.mono ?_;rintro e w3 ⟨rfl,hx3⟩;cases sb with
  |true=>
   go_wp2;go_ret
   exact⟨10,rfl,fun _ _ _ h=>(by
    have h2:=Hsb.out;rw[anh.out h]at h2;cases h2),hx.trans (hx2.trans hx3)⟩
  |false=>
   go_wp2;go_ret;exact⟨0,rfl,fun _ _ _ _=>rfl,hx.trans (hx2.trans hx3)⟩
structure vX where
 k:Int
 l:ByteArray
deriving DecidableEq
def vX.cells(x:vX):List Value:=[.int .i64 x.k,.string x.l]
theorem checkId(w:World)(b:Bool)(x:bf):(Instr.checkKey b 10000 26 (.agg x.cells.toArray)).run prog w=.ok () w:=by
 have u:=underlying26;have v:=underlying3;have hk:=fun(z:Int)=>MapKept.run_checkKey (P:=prog) (w:=w) (kt:=3) v (k:=.int .i64 z) (by simp[MapKept.IsKey]) b 9998;obtain⟨a,i,n⟩:=x;simp only[bf.cells];rw[show(10000:Nat)=(9998+1)+1 from rfl,Instr.checkKey];generalize 9998+1=N at hk⊢;simp only[Sem.run_bind,run_underlying u,Result.andThen_ok]
 go_simp
theorem ah3(w:World)(b:Bool)(x:vX):(Instr.checkKey b 10000 296 (.agg x.cells.toArray)).run prog w=.ok () w:=by
 have u:=underlying296;have v:=underlying3;have v2:=underlying9;have hk:=fun(z:Int)=>MapKept.run_checkKey (P:=prog) (w:=w) (kt:=3) v (k:=.int .i64 z) (by simp[MapKept.IsKey]) b 9998;have hk2:=fun(z:ByteArray)=>MapKept.run_checkKey (P:=prog) (w:=w) (kt:=9) v2 (k:=.string z) (by simp[MapKept.IsKey]) b 9998;obtain⟨a,i⟩:=x;simp only[vX.cells];rw[show(10000:Nat)=(9998+1)+1 from rfl,Instr.checkKey];generalize 9998+1=N at hk hk2⊢;simp only[Sem.run_bind,run_underlying u,Result.andThen_ok]
 go_simp
theorem agj(w:World)(x y:bf):(Op.equal 26 (.agg x.cells.toArray) (.agg y.cells.toArray)).run prog w=.ok (decide (x=y)) w:=by
 obtain⟨a,b,c⟩:=x;obtain⟨a',b',c'⟩:=y;have h:=XC a b c a' b' c' w;simp only[bf.cells,Op.equal,Op.maxDepth,h]
theorem ani(a:Int)(b:ByteArray)(a':Int)(b':ByteArray)(w:World):(Op.equalIn 10000 296 (.agg #[.int .i64 a,.string b]) (.agg #[.int .i64 a',.string b'])).run prog w=.ok (decide ((⟨a,b⟩:vX)=⟨a',b'⟩)) w:=by
 have u3:=underlying3;have u4:=underlying9;have hS:prog.underlying 296=some (.struct (prog.fieldsOf 296)):=by kernel_rfl
 rw[show(10000:Nat)=9999+1 from rfl,run_equalIn_agg w 9999 296 _ _ hS (by kernel_rfl)];simp only[Program.fieldsOf,underlying296]
 go_simp
 have hb:(b.toList=b'.toList)↔b=b':=⟨fun h=>bytes_inj (by simpa only[ByteArray.toList_eq]using h),fun h=>by rw[h]⟩;by_cases h1:a=a'<;>by_cases h2:b=b'<;>simp[h1,h2,hb]
theorem anj(w:World)(x y:vX):(Op.equal 296 (.agg x.cells.toArray) (.agg y.cells.toArray)).run prog w=.ok (decide (x=y)) w:=by
 obtain⟨a,b⟩:=x;obtain⟨a',b'⟩:=y;have h:=ani a b a' b' w;simp only[vX.cells,Op.equal,Op.maxDepth,h]
structure KOk {κ:Type} [DecidableEq κ] (mt kt:TypeId) (K:κ->Value):Prop where
 ht:prog.underlying mt=some (.map kt 4)
 wide:(match prog.underlying kt with|some (.array _ _)|some (.struct _)=>true|_=>false)=true
 DW:∀(w:World) (b:Bool) (x:κ),(Instr.checkKey b 10000 kt (K x)).run prog w=.ok () w
 eq:∀(w:World) (x y:κ),(Op.equal kt (K x) (K y)).run prog w=.ok (decide (x=y)) w
 same:∀x:κ,Instr.sameBits 10000 (K x) (K x)=true
def rM{κ:Type}(K:κ->Value)(B:Nat)(w:World):Prop:=∃es clock,w.heap[B]? =some (.map es clock)/\∀e∈es.toList,(∃x,e.key=K x)/\∃b,e.val=.bool b
section
variable {κ:Type} {K:κ->Value} {w w':World} {B:Nat}
theorem rM.made(w:World):rM K w.heap.size (w.alloc (.map #[] 0)):=⟨#[],0,heap_alloc_new _ _,by simp⟩
theorem rM.lt(h:rM K B w):B<w.heap.size:=by
 obtain⟨es,clock,h1,_⟩:=h;exact ay h1
theorem rM.keep(h:rM K B w)(hb:w'.heap[B]? =w.heap[B]?):rM K B w':=by
 obtain⟨es,clock,h1,h2⟩:=h;exact⟨es,clock,hb.trans h1,h2⟩
theorem rM.ext(h:rM K B w)(he:Ext w w'):rM K B w':=h.keep (he.block h.lt)
variable [DecidableEq κ] {mt kt:TypeId}
theorem EN(hk:KOk mt kt K)(w:World)(x:κ):∀(es:List MapEntry) (i:Nat),(∀e∈es,(∃y,e.key=K y)/\∃b,e.val=.bool b)->
 (Instr.findAsking kt (K x) es i).run prog w=.ok none w∨∃j b,(Instr.findAsking kt (K x) es i).run prog w=.ok (some (i+j,.bool b)) w/\∃e,es[j]? =some e/\e.key=K x
 |[],i,_=>.inl rfl
 |e::es,i,h=>by
  obtain⟨⟨y,hy⟩,b,hb⟩:=h e (by simp);have he:=hk.eq w x y;by_cases hxy:x=y
  ·refine .inr ⟨0,b,?_,e,rfl,by rw[hy,hxy]⟩
   rw[Instr.findAsking,Sem.run_bind,hy,he,Result.andThen_ok,bJ hxy,hb];rfl
  ·have hr:(Instr.findAsking kt (K x) (e::es) i).run prog w=(Instr.findAsking kt (K x) es (i+1)).run prog w:=by
    rw[Instr.findAsking,Sem.run_bind,hy,he,Result.andThen_ok,aY hxy];rfl
   rw[hr];rcases EN hk w x es (i+1) (fun e he=>h e (by simp[he]))with h1|⟨j,b,h1,e',h2,h3⟩
   ·exact .inl h1
   ·exact .inr ⟨j+1,b,by rw[h1,show i+1+j=i+(j+1) by omega],e',by simpa using h2,h3⟩
theorem rM.look(hk:KOk mt kt K)(h:rM K B w)(x:κ):∃b,(Instr.lookup mt (.map (some B)) (K x) false).run prog w=.ok (.bool b) w:=by
 obtain⟨es,clock,h1,h2⟩:=h
 have hz:(zeroValue 4).run prog w=.ok (.bool false) w:=by
  have u:=underlying4
  go_simp
 rcases EN hk w x es.toList 0 h2 with hf|⟨j,b,hf,-⟩
 ·refine⟨false,?_⟩
  simp only[Instr.lookup,Sem.run_bind,run_underlying hk.ht,MapKept.run_getObj_map h1,hk.DW w,run_findKey_eq w hk.wide,hf,Result.andThen,hz,Sem.run_pure];simp only[Bool.false_eq_true,↓reduceIte]
 ·exact⟨b,by simp[Instr.lookup,run_underlying hk.ht,MapKept.run_getObj_map h1,hk.DW w,run_findKey_eq w hk.wide,hf,Result.andThen]⟩
theorem rM.set(hk:KOk mt kt K)(h:rM K B w)(x:κ)(c:Bool):∃w',(Instr.mapUpdate mt (.map (some B)) (K x) (.bool c)).run prog w=.ok () w'/\rM K B w'/\(∀j,j≠B->w'.heap[j]? =w.heap[j]?)/\w'.heap.size=w.heap.size/\w'.os=w.os/\w'.tape=w.tape/\w'.output=w.output:=by
 obtain⟨es,clock,h1,h2⟩:=h;rcases EN hk w x es.toList 0 h2 with hf|⟨j,b,hf,e,he,hek⟩
 ·refine⟨{w with heap:=w.heap.setIfInBounds B (.map (es.push ⟨K x,.bool c,clock⟩) (clock+1))},?_,⟨_,_,(MapKept.heap_set h1).1,?_⟩,fun j hj=>(MapKept.heap_set h1).2 j hj,by simp,rfl,rfl,rfl⟩
  ·simp[Instr.mapUpdate,run_underlying hk.ht,MapKept.run_getObj_map h1,hk.DW w,run_findKey_eq w hk.wide,hf,MapKept.run_setObj_map _ h1,Result.andThen]
  ·intro e he
   simp only[Array.toList_push,oo,kX]at he;rcases he with he|rfl
   ·exact h2 e he
   ·exact⟨⟨x,rfl⟩,c,rfl⟩
 ·have hj:es[j]? =some e:=by simpa using he
  refine⟨{w with heap:=w.heap.setIfInBounds B (.map (es.modify j fun e=>{e with key:=K x,val:=.bool c}) clock)},?_,⟨_,_,(MapKept.heap_set h1).1,?_⟩,fun j hj=>(MapKept.heap_set h1).2 j hj,by simp,rfl,rfl,rfl⟩
  ·simp[Instr.mapUpdate,run_underlying hk.ht,MapKept.run_getObj_map h1,hk.DW w,run_findKey_eq w hk.wide,hf,hj,hek,Instr.keyThatStays,hk.same x,MapKept.run_setObj_map _ h1,Result.andThen]
  ·intro e' he'
   rw[Array.mem_toList_iff,Array.mem_iff_getElem]at he';obtain⟨n,hn,rfl⟩:=he';rw[Array.getElem_modify]
   split
   ·exact⟨⟨x,rfl⟩,c,rfl⟩
   ·exact h2 _ (by simp)
variable {ops:Array Oper} {rest:List Oper} {o:Oper} {a:Act} {Q:Exit->Act->World->Prop}
end
theorem kId:KOk 297 26 (fun x:bf=>Value.agg x.cells.toArray):=⟨underlying297,by simp only[underlying26],checkId,agj,fun x=>by obtain⟨a,b,c⟩:=x;simp[bf.cells,Instr.sameBits]⟩
theorem kCl:KOk 294 296 (fun x:vX=>Value.agg x.cells.toArray):=⟨underlying294,by simp only[underlying296],ah3,anj,fun x=>by obtain⟨a,b⟩:=x;simp[vX.cells,Instr.sameBits,MapKept.bytes_beq]⟩
def iB(p:Prop)(T:Ty):Ty:=⟨fun v w=>(p/\T.p v w)∨(¬p/\v=undef),fun _ _ _ he h=>h.imp (fun⟨a,b⟩=>⟨a,T.mono _ _ _ he b⟩) id⟩
theorem iB.of{p:Prop}{T:Ty}{v:Value}{w:World}(h:(iB p T).p v w)(hp:p):T.p v w:=h.elim (fun h=>h.2) (fun h=>absurd hp h.1)
def Mi:List (Nat×Nat×Bool)->Nat->Option (Nat×Bool)
 |[],_=>none
 |(i,g,c)::r,j=>bif Nat.beq i j then some (g,c)else Mi r j
theorem Pt:∀{gs:List (Nat×Nat×Bool)} {j g:Nat} {c:Bool},Mi gs j=some (g,c)->(j,g,c)∈gs
 |(i,g',c')::r,j,g,c,h=>by
  unfold Mi at h;cases hb:Nat.beq i j with
  |true=>
   have:=Nat.eq_of_beq_eq_true hb;rw[hb,cond_true]at h;cases h
   subst this;simp
  |false=>
   rw[hb,cond_false]at h;exact lV _ (Pt h)
def gdT(gs:List (Nat×Nat×Bool))(T0:Nat->Ty)(v:Nat->Value)(j:Nat):Ty:=
 match Mi gs j with
 |some (g,c)=>iB (v g=.bool c) (T0 j)
 |none=>T0 j
theorem adY{ops:List Oper}(gs:List (Nat×Nat×Bool))(T0:Nat->Ty)(h:(gs.all fun x=>((Kc ops).getD x.1 []).contains x.2.1)=true):Looks ops (gdT gs T0):=by
 intro v v' j hv;unfold gdT;cases hf:Mi gs j with
 |none=>rfl
 |some q=>
  obtain⟨g,c⟩:=q;have hm:=Pt hf;have:=List.all_eq_true.1 h _ hm;simp only at this;simp only[hv g (qW (by simpa using this))]
theorem fB{ops:List Oper}{env:List (Nat×Value)}{a0:List Value}{j t:Nat}{x:Value}(hd:(ops[j]?).bind (·.dst)=some t)(hx:xD env a0 t=x):vI ops env a0 j=Ga x:=by
 unfold vI;rw[hd];simp only[hx]
theorem bL.gu{P:Program}{ρ:Operand->Value}{o:Oper}{w:World}{p:Prop}{T:Ty}(hp:p)(h:bL P ρ o w T.p):bL P ρ o w (iB p T).p:=h.imp fun _ _ h=>.inl ⟨hp,h⟩
theorem kD{P:Program}{ρ:Operand->Value}{o:Oper}{w:World}{y:Nat->Option Bool}{T:Ty}{x:Value}(g:Nat)(c:Bool)(hg:o.guard=some (g,c))(hy:y g=Ga x)(h:x=.bool c->bL P ρ o w T.p):
 if Region.wanted o y=true then bL P ρ o w (iB (x=.bool c) T).p else(iB (x=.bool c) T).p undef w:=by
 by_cases hx:x=.bool c
 ·subst hx
  refine bg g c c hg hy (fun _=>bL.gu rfl (h rfl)) (fun e=> ?_);cases c<;>cases e
 ·have hw:Region.wanted o y=false:=by
   unfold Region.wanted;rw[hg];simp only[hy];cases x with
   |bool b=>
    have:b≠c:=fun e=>hx (by rw[e]);cases b<;>cases c<;>first|exact absurd rfl this|rfl
   |_=>rfl
  rw[hw];simp only[Bool.false_eq_true,if_false];exact .inr ⟨hx,rfl⟩
theorem JJ{P:Program}{Q:Exit->Act->World->Prop}{w0:World}{a0:List Value}{ds:List Deferred}{id:Nat}{l:List Oper}(gs:List (Nat×Nat×Bool))(T0:Nat->Ty)(hgs:(gs.all fun x=>((Kc l).getD x.1 []).contains x.2.1)=true)(hm:P.follows .mixedOrders=true)(pQ:mE l=true)(hin:kR a0.length l=true)(n:Nat)(hn:n=l.length)
 (htail:tQ l n=true) (h:∀v,I5 P l (gdT gs T0 v) w0 a0 (fun l' w'=>Q .normal ⟨l'.toArray,ds⟩ w') v 0 l []):(Code.region id l.toArray true).wp P Q ⟨a0.toArray,ds⟩ w0:=by
 subst hn;refine Du l.length (gdT gs T0) (adY gs T0 hgs) hm pQ htail (aI _) hin fun v=> ?_;rw[List.drop_length,List.take_length];exact h v
def iQ(P:Prop):Ty:=⟨fun v _=>∃b:Bool,v=.bool b/\(b=true->P),fun _ _ _ _ h=>h⟩
def KF(V:Prop):Ty:=⟨fun v _=>∃z:Int,v=.int .i64 z/\(V->z=1),fun _ _ _ _ h=>h⟩
def Aj(V:Prop):Ty:=⟨fun v _=>∃b:Bool,v=.bool b/\(V->b=true),fun _ _ _ _ h=>h⟩
theorem Ti{P:Program}{ρ:Operand->Value}{o:Oper}{w:World}{κ ν:Type}{K:κ->Value}{U:ν->Value}{m:List (κ×ν)}{V:Prop}(x:Operand)(t:TypeId){a b:TypeId}(ht:P.underlying t=some (.map a b))(ho:o.op=.call {callee:=.builtin .len,args:= #[x],argTypes:= #[t]})(B:Nat)(hx:ρ x=.map (some B))(h:iG K U B w m)(hV:V->m.length=1):bL P ρ o w (KF V).p:=by
 obtain⟨es,clock,h1,h2⟩:=h;have hl:es.size=m.length:=by have:=nI List.length h2;simpa using this
 exact eT (w':=w) (v:=.int .i64 es.size) (by simp[execOp,ho,hx,resolve,invoke,builtin,Builtin.len_,goInt,run_underlying ht,MapKept.run_getObj_map h1]) (Ext.refl _) ⟨_,rfl,fun h=>by rw[hl,hV h];rfl⟩
theorem agm:vw 26 (fun x:bf=>Value.agg x.cells.toArray):=Wv (by simp only[underlying26]) checkId agj kId.same
theorem Vz{P:Program}{ρ:Operand->Value}{o:Oper}{w:World}{T:Value->World->Prop}(t t':TypeId)(x y:Operand)(ho:o.op=.binOp .eql t x y t')(a b:Bool)(hx:ρ x=.bool a)(hy:ρ y=.bool b)(h:T (.bool (a==b)) w)(ht:P.underlying t=some .bool:=by kernel_rfl):bL P ρ o w T:=by
 have hr:∀w,(binOp .eql t (.bool a) (.bool b)).run P w=.ok (.bool (a==b)) w:=fun w=>by
  have u:=ht
  go_simp
 exact eT (w':=w) (v:=.bool (a==b)) (by simp[execOp,ho,hx,hy,eqGuard,hr]) (Ext.refl _) h
theorem arA(u:av)(r:aB)(w:World)(hr:Reads w u r)(hok:dI u):Calls prog 242 #[.agg r.cells.toArray] w (EM True ((bO u).map av.id=[q8]) w):=by
 have KG:=ah (fun wq (he:Ext w wq)=>NK u r wq (Reads.ext he u r hr) hok);have hln:((bO u).map av.id).length<=1000:=by rw[jA,nW];exact hok.cnt
 have hb:=rE.new r w;have hx0:Ext w (w.alloc (.cells r.cells.toArray 30)):=(Ext.refl w).alloc _;obtain⟨l,hl⟩:=aH ((bO u).map av.id);rw[hl]at KG hln⊢;obtain⟨V,hV⟩:∃V:Prop,(l=[q8])=V:=⟨_,rfl⟩;have HV:=ah (show V->l=[q8]from by rw[<-hV];exact id);rw[hV];clear hV;obtain⟨ra,ri,rn,rk,rl,fU,hn,hc,wA,wn,wc,kA,kn,kc⟩:=r;simp only[aB.cells]at hb hx0 KG⊢;obtain⟨wb,hwb⟩:=aH (w.alloc (.cells #[.int .i64 ra,.int .i64 ri,.int .i64 rn,.int .i64 rk,.string rl,.slice fU hn hc,.slice wA wn wc,.slice kA kn kc] 30));rw[hwb]at hb hx0;have hbx:∀w',Ext wb w'->(aK [.int .i64 ra,.int .i64 ri,.int .i64 rn,.int .i64 rk,.string rl,.slice fU hn hc,.slice wA wn wc,.slice kA kn kc]).p (.pointer (some ⟨w.heap.size,0,none⟩)) w':=fun w' he=>(hb.ext he).t;have jv:=ah hx0;have jh:=ah hbx;have lH:=ah hwb;have H1:=ah (KG.out wb hx0);clear hr hok hl hbx hx0 hwb KG;go_enter func242,ntmps242
 go_wp2_with fail
 rw[lH.out];refine(H1.out).mono ?_;rintro e w1 ⟨v1,rfl,hown,hx1⟩;obtain⟨A3,c3,rfl,-,hsl⟩:=hown.form;have pK:=ah hsl;have tq:=ah (jv.out.trans hx1);have Hm:=ah (iG.made (K:=fun x:bf=>Value.agg x.cells.toArray) (V:=fun b:Bool=>Value.bool b) w1);have arB:=ah (fun wq (he:Ext w1 wq)=>jh.out wq (hx1.trans he));have Pv:=ah ((Ext.refl w1).alloc (.map #[] 0));clear hown hsl hx1 hb H1;have hmm:= @run_makeMap prog;go_wp2;clear hmm;obtain⟨B,hB⟩:=aH (w1.heap.size);obtain⟨wm,Pw⟩:=aH (w1.alloc (.map #[] 0));have HB0:=ah hB;rw[hB]at Hm⊢;rw[Pw]at Hm Pv⊢;clear hB Pw
 go_loopw [13] (fun vk wr=>∃k:Nat,k<=l.length/\vk=.int .i64 (k:Nat)/\Hid (Ext w1 wr)/\Hid (∃m,iG (fun x:bf=>Value.agg x.cells.toArray) (fun b:Bool=>Value.bool b) B wr m/\(V->m=if k=0 then []else [(q8,true)]))) (fun vk _=>l.length-(intOf vk).toNat)
 case atStart=>exact⟨0,bI _,rfl,Pv,ah ⟨[],Hm.out,fun _=>rfl⟩⟩
 case round=>
  obtain⟨k,hk,rfl,HX,HM0⟩:=hrel;obtain⟨m,hmm,hmv⟩:=HM0.out;have HM:=ah hmm;have Hmv:=ah hmv;clear hmm hmv HM0;by_cases hlt:k<l.length
  ·obtain⟨b,off,lI,hb,u0,u1,u2⟩:=ade (pK.out.ext HX.out) hlt
   obtain⟨q,hq⟩:=aH (l[k]);rw[hq]at u0 u1 u2;obtain⟨qa,qi,qn⟩:=q;dsimp only at u0 u1 u2;subst lI;have d1:=eY k l.length;have hxa:Ext wr (wr.alloc (.cells #[.int .i64 qa,.int .i64 qi,.int .i64 qn] 26)):=(Ext.refl _).alloc _;have Mj:=ah (HM.out.ext hxa);have Hxa:=ah hxa
   have HQ:=ah (show V->k=0/\(⟨qa,qi,qn⟩:bf)=q8 from fun h=>by
    have h1:=fP hlt;rw[hq,HV.out h]at h1
    match k,h1 with
    |0,h1=>exact⟨rfl,(lM h1).symm⟩
    |k+1,h1=>simp at h1)
   clear hq hxa;go_wp2_with (refine zq _ _ _ rfl agm underlying297 rfl Mj.out rfl (⟨qa,qi,qn⟩:bf) rfl true rfl ?_;intro w3 OB hw3 hs3 gQ gT gU)
   go_roundw
   case rel=>
    exact⟨k+1,by omega,by go_num,ah (Ext.put (HX.out.trans Hxa.out) (Nat.le_of_eq HB0.out) hw3 gQ gT gU hs3),ah ⟨_,OB,fun h=>by
     obtain⟨rfl,hq⟩:=HQ.out h;rw[hq,Hmv.out h];rfl⟩⟩
   case measure=>simp[intOf];omega
  ·have d1:=fT k l.length
   obtain⟨L,hL⟩:=aH (l.length)
   have HmL:=ah (show V->m=[(q8,true)]from fun h=>by
    have h2:=nI List.length (HV.out h);rw[Hmv.out h,aU (by simp at h2;omega)])
   have aj7:=ah (show V->m.length=1 from fun h=>by rw[HmL.out h];rfl);obtain⟨z,hz⟩:=aH ((assoc m ⟨0,0,0⟩).getD false);have HZ:=ah (show V->z=true from fun h=>by rw[<-hz,HmL.out h];decide);have Hz:=ah (show((assoc m ⟨0,0,0⟩).map (fun b:Bool=>Value.bool b)).getD (.bool false)=.bool z from by rw[<-hz];cases assoc m ⟨0,0,0⟩<;>rfl);clear hz;rw[hL]at d1⊢;have aj8:=HM;have jh:=ah (fun wq (he:Ext wr wq)=>arB.out wq (HX.out.trans he));go_wp2_with (refine GX _ _ rfl agm underlying297 _ (Si _) rfl HM.out rfl (⟨0,0,0⟩:bf) rfl (.bool z) Hz.out ?_)
   refine JJ [(2,1,true),(3,1,true),(4,1,true),(7,6,false),(8,6,false),(9,6,false),(10,6,false),(11,6,false),(12,6,false),(13,12,true),(14,12,true),(15,12,true),(16,12,true),(17,12,true),(18,12,true),(19,12,true),(20,12,true),(21,6,false)] (fun i=>match i with|0=>Ty.is (.bool z)|1=>Ty.is (.bool z)|2=>Ty.is (.map (some B))|3=>KF V|4=>Aj V|5=>Aj V|6=>Aj V|7=>Ty.is (.map (some B))|8=>KF V|9=>Ty.is (.slice A3 L c3)|10=>Ty.is (.int .i64 (L:Nat))|11=>iQ True|12=>iQ True|13=>aK [.int .i64 rk]|14=>Ty.is (.int .i64 rk)|15=>iQ True|16=>aK [.int .i64 ra,.int .i64 ri,.int .i64 rn]|17=>Ty.is (.agg #[.int .i64 ra,.int .i64 ri,.int .i64 rn])|18=>Ty.is (.agg #[.int .i64 0,.int .i64 0,.int .i64 0])|19=>iQ True|20=>iQ True|21=>iQ True|22=>Aj V|23=>Aj V|_=>Ty.any) (by kernel_rfl) (by first|assumption|kernel_rfl) (by kernel_rfl) (by kernel_rfl) 24 rfl (by kernel_rfl) ?_;intro v;refine⟨?_,?_,?_,?_,?_,?_,?_,?_,?_,?_,?_,?_,?_,?_,?_,?_,?_,?_,?_,?_,?_,?_,?_,?_,?_⟩
   ·exact fun wq hq _=>ak rfl (aF (.tmp 7) rfl rfl rfl)
   ·rintro wq hq ⟨h0,-⟩;exact ak rfl (aF (.tmp 23) rfl h0 rfl)
   ·rintro wq hq ⟨h0,-⟩
    change v 1=_ at h0;refine kD (T:=Ty.is (.map (some B))) 1 true rfl (fB rfl rfl) (fun hg=> ?_);exact aF (.tmp 4) rfl rfl rfl
   ·rintro wq hq ⟨h0,h1,h2,-⟩
    change (iB (v 1=.bool true) (Ty.is (.map (some B)))).p (v 2) wq at h0;change v 1=_ at h1;refine kD (T:=KF V) 1 true rfl (fB rfl rfl) (fun hg=> ?_);replace h0:=iB.of h0 hg;exact Ti (.tmp 25) 297 underlying297 rfl B h0 (aj8.out.ext hq) aj7.out
   ·rintro wq hq ⟨h0,h1,-⟩
    change (iB (v 1=.bool true) (KF V)).p (v 3) wq at h0;change v 1=_ at h1;refine kD (T:=Aj V) 1 true rfl (fB rfl rfl) (fun hg=> ?_);replace h0:=iB.of h0 hg;obtain⟨z0,hz0,hz1⟩:=h0;exact eF (c:=.bool (z0==1)) .eql 3 3 (.tmp 26) _ rfl _ _ hz0 rfl (fun w=>by go_simp) ⟨_,rfl,fun h=>by rw[hz1 h];rfl⟩
   ·rintro wq hq ⟨h0,h1,-⟩
    change v 1=_ at h0;change (iB (v 1=.bool true) (Aj V)).p (v 4) wq at h1;refine ak rfl ?_;obtain⟨b0,hb0⟩:∃b0,v 1=.bool b0:=⟨z,h0⟩;cases b0 with
    |false=>exact nT (c:=.bool false) (.tmp 24) (.tmp 27) _ rfl false hb0 (fun h=>by cases h) (fun _=>rfl) ⟨false,rfl,fun h=>by rw[h0]at hb0;injection hb0 with e;rw[<-e];exact HZ.out h⟩
    |true=>
     obtain⟨c,hc,hcv⟩:=iB.of h1 hb0;exact nT (c:=.bool c) (.tmp 24) (.tmp 27) _ rfl true hb0 (fun _=>hc) (fun h=>by cases h) ⟨c,rfl,hcv⟩
   ·rintro wq hq ⟨h0,h1,-⟩;exact ak rfl (aF (.tmp 28) rfl rfl h0)
   ·rintro wq hq ⟨h0,-⟩
    change (Aj V).p (v 6) wq at h0;refine kD (T:=Ty.is (.map (some B))) 6 false rfl (fB rfl rfl) (fun hg=> ?_);exact aF (.tmp 4) rfl rfl rfl
   ·rintro wq hq ⟨h0,h1,h2,-⟩
    change (iB (v 6=.bool false) (Ty.is (.map (some B)))).p (v 7) wq at h0;change (Aj V).p (v 6) wq at h1;refine kD (T:=KF V) 6 false rfl (fB rfl rfl) (fun hg=> ?_);replace h0:=iB.of h0 hg;exact Ti (.tmp 30) 297 underlying297 rfl B h0 (aj8.out.ext hq) aj7.out
   ·rintro wq hq ⟨h0,-⟩
    change (Aj V).p (v 6) wq at h0;refine kD (T:=Ty.is (.slice A3 L c3)) 6 false rfl (fB rfl rfl) (fun hg=> ?_);exact aF (.tmp 3) rfl rfl rfl
   ·rintro wq hq ⟨h0,h1,-⟩
    change (iB (v 6=.bool false) (Ty.is (.slice A3 L c3))).p (v 9) wq at h0;change (Aj V).p (v 6) wq at h1;refine kD (T:=Ty.is (.int .i64 (L:Nat))) 6 false rfl (fB rfl rfl) (fun hg=> ?_);replace h0:=iB.of h0 hg;exact Bg (.tmp 32) 143 _ underlying143 rfl _ _ _ h0 rfl
   ·rintro wq hq ⟨h0,h1,h2,-⟩
    change (iB (v 6=.bool false) (KF V)).p (v 8) wq at h0;change (iB (v 6=.bool false) (Ty.is (.int .i64 (L:Nat)))).p (v 10) wq at h1;change (Aj V).p (v 6) wq at h2;refine kD (T:=iQ True) 6 false rfl (fB rfl rfl) (fun hg=> ?_);replace h0:=iB.of h0 hg;replace h1:=iB.of h1 hg;obtain⟨z0,hz0,-⟩:=h0;exact eF (c:=.bool (z0==(L:Int))) .eql 3 3 (.tmp 31) (.tmp 33) rfl _ _ hz0 h1 (fun w=>by go_simp) ⟨_,rfl,fun _=>trivial⟩
   ·rintro wq hq ⟨h0,h1,h2,-⟩
    change (iB (v 6=.bool false) (iQ True)).p (v 11) wq at h0;change (Aj V).p (v 6) wq at h2;refine kD (T:=iQ True) 6 false rfl (fB rfl rfl) (fun hg=> ?_);replace h0:=iB.of h0 hg;exact aF (.tmp 34) rfl rfl h0
   ·rintro wq hq ⟨h0,-⟩
    change (iB (v 6=.bool false) (iQ True)).p (v 12) wq at h0;refine kD (T:=aK [.int .i64 rk]) 12 true rfl (fB rfl rfl) (fun hg=> ?_);exact dB 30 1 (.tmp 1) rfl _ underlying30 _ rfl 1 sizeOf3 (by decide) [.int .i64 ra,.int .i64 ri,.int .i64 rn,.int .i64 rk,.string rl,.slice fU hn hc,.slice wA wn wc,.slice kA kn kc] ((jh.out _ hq))
   ·rintro wq hq ⟨h0,h1,-⟩
    change (iB (v 12=.bool true) (aK [.int .i64 rk])).p (v 13) wq at h0;change (iB (v 6=.bool false) (iQ True)).p (v 12) wq at h1;refine kD (T:=Ty.is (.int .i64 rk)) 12 true rfl (fB rfl rfl) (fun hg=> ?_);replace h0:=iB.of h0 hg;exact bW 3 (.tmp 36) rfl isAgg3 (c:=.int .i64 rk) h0 rfl
   ·rintro wq hq ⟨h0,h1,-⟩
    change (iB (v 12=.bool true) (Ty.is (.int .i64 rk))).p (v 14) wq at h0;change (iB (v 6=.bool false) (iQ True)).p (v 12) wq at h1;refine kD (T:=iQ True) 12 true rfl (fB rfl rfl) (fun hg=> ?_);replace h0:=iB.of h0 hg;exact eF (c:=.bool (rk==0)) .eql 3 3 (.tmp 37) _ rfl _ _ h0 rfl (fun w=>by go_simp) ⟨_,rfl,fun _=>trivial⟩
   ·rintro wq hq ⟨h0,-⟩
    change (iB (v 6=.bool false) (iQ True)).p (v 12) wq at h0;refine kD (T:=aK [.int .i64 ra,.int .i64 ri,.int .i64 rn]) 12 true rfl (fB rfl rfl) (fun hg=> ?_);exact dB 30 0 (.tmp 1) rfl _ underlying30 _ rfl 3 sizeOf26 (by decide) [.int .i64 ra,.int .i64 ri,.int .i64 rn,.int .i64 rk,.string rl,.slice fU hn hc,.slice wA wn wc,.slice kA kn kc] ((jh.out _ hq))
   ·rintro wq hq ⟨h0,h1,-⟩
    change (iB (v 12=.bool true) (aK [.int .i64 ra,.int .i64 ri,.int .i64 rn])).p (v 16) wq at h0;change (iB (v 6=.bool false) (iQ True)).p (v 12) wq at h1;refine kD (T:=Ty.is (.agg #[.int .i64 ra,.int .i64 ri,.int .i64 rn])) 12 true rfl (fB rfl rfl) (fun hg=> ?_);replace h0:=iB.of h0 hg;exact bU 26 (.tmp 39) rfl isAgg26 3 sizeOf26 [.int .i64 ra,.int .i64 ri,.int .i64 rn] rfl h0 rfl
   ·rintro wq hq ⟨h0,-⟩
    change (iB (v 6=.bool false) (iQ True)).p (v 12) wq at h0;refine kD (T:=Ty.is (.agg #[.int .i64 0,.int .i64 0,.int .i64 0])) 12 true rfl (fB rfl rfl) (fun hg=> ?_);exact Cx 26 [] rfl [] trivial (fun w=>by go_simp) rfl
   ·rintro wq hq ⟨h0,h1,h2,-⟩
    change (iB (v 12=.bool true) (Ty.is (.agg #[.int .i64 ra,.int .i64 ri,.int .i64 rn]))).p (v 17) wq at h0;change (iB (v 12=.bool true) (Ty.is (.agg #[.int .i64 0,.int .i64 0,.int .i64 0]))).p (v 18) wq at h1;change (iB (v 6=.bool false) (iQ True)).p (v 12) wq at h2;refine kD (T:=iQ True) 12 true rfl (fB rfl rfl) (fun hg=> ?_);replace h0:=iB.of h0 hg;replace h1:=iB.of h1 hg;exact tT .eql 26 26 (.tmp 40) (.tmp 41) rfl _ _ h0 h1 (by kernel_rfl) (fun w=>Jd w _ _ _ _ _ _) ⟨_,rfl,fun _=>trivial⟩
   ·rintro wq hq ⟨h0,h1,h2,-⟩
    change (iB (v 12=.bool true) (iQ True)).p (v 15) wq at h0;change (iB (v 12=.bool true) (iQ True)).p (v 19) wq at h1;change (iB (v 6=.bool false) (iQ True)).p (v 12) wq at h2;refine kD (T:=iQ True) 12 true rfl (fB rfl rfl) (fun hg=> ?_);replace h0:=iB.of h0 hg;replace h1:=iB.of h1 hg;obtain⟨z0,hz0,-⟩:=h0;obtain⟨z1,hz1,-⟩:=h1;exact Vz 4 4 (.tmp 38) (.tmp 42) rfl _ _ hz0 hz1 ⟨_,rfl,fun _=>trivial⟩
   ·rintro wq hq ⟨h0,h1,h2,-⟩
    change (iB (v 6=.bool false) (iQ True)).p (v 12) wq at h0;change (iB (v 12=.bool true) (iQ True)).p (v 20) wq at h1;change (Aj V).p (v 6) wq at h2;refine kD (T:=iQ True) 6 false rfl (fB rfl rfl) (fun hg=> ?_);replace h0:=iB.of h0 hg;obtain⟨b0,hb0⟩:∃b0,v 12=.bool b0:=(by obtain⟨b0,hb0,-⟩:=h0;exact⟨b0,hb0⟩);cases b0 with
    |false=>exact nT (c:=.bool false) (.tmp 35) (.tmp 43) _ rfl false hb0 (fun h=>by cases h) (fun _=>rfl) ⟨false,rfl,fun _=>trivial⟩
    |true=>
     obtain⟨c,hc,-⟩:=iB.of h1 hb0;exact nT (c:=.bool c) (.tmp 35) (.tmp 43) _ rfl true hb0 (fun _=>hc) (fun h=>by cases h) ⟨c,rfl,fun _=>trivial⟩
   ·rintro wq hq ⟨h0,h1,-⟩
    change (Aj V).p (v 6) wq at h0;change (iB (v 6=.bool false) (iQ True)).p (v 21) wq at h1;refine ak rfl ?_;obtain⟨b0,hb0⟩:∃b0,v 6=.bool b0:=(by obtain⟨b0,hb0,-⟩:=h0;exact⟨b0,hb0⟩);cases b0 with
    |true=>exact nT (c:=.bool true) (.tmp 29) _ (.tmp 44) rfl true hb0 (fun _=>rfl) (fun h=>by cases h) ⟨true,rfl,fun _=>rfl⟩
    |false=>
     obtain⟨c,hc,-⟩:=iB.of h1 hb0;exact nT (c:=.bool c) (.tmp 29) _ (.tmp 44) rfl false hb0 (fun h=>by cases h) (fun _=>hc) ⟨c,rfl,fun h=>by obtain⟨b1,e1,hv1⟩:=h0;rw[e1]at hb0;injection hb0 with e;rw[hv1 h]at e;cases e⟩
   ·rintro wq hq ⟨h0,h1,h2,h3,h4,h5,h6,h7,h8,h9,h10,h11,h12,CB,Q9,OD,h16,h17,h18,h19,h20,h21,h22,h23,ZI,-⟩;exact ak rfl (jY (.tmp 45) rfl rfl h0)
   ·intro wq hq hT
    have k23:=hT 23 (by decide);change (Aj V).p (v 23) wq at k23;clear hT;simp only[List.drop_succ_cons,List.drop_zero,gH,dK,List.set_cons_succ,List.set_cons_zero,Nat.reduceAdd];generalize v 23=x23 at k23⊢;obtain⟨c,rfl,hc⟩:=k23;have Hc:=ah hc;clear hc;go_wp2;go_ret;exact⟨_,rfl,(fun _=>trivial),Hc.out,(tq.out.trans HX.out).trans hq⟩
theorem zW{a b:ByteArray}(h:a.data.toList=b.data.toList):a=b:=ByteArray.ext (Array.ext' h)
def tZ(o:List UInt8):ByteArray:=⟨o.toArray⟩
theorem Mk(o:List UInt8):(tZ o).size=o.length:=by show o.toArray.size=_;simp
theorem xY(o:List UInt8):(tZ o).data.toList=o:=by show o.toArray.toList=_;simp
theorem byte_at{s:ByteArray}{bs:List UInt8}(h:s.data.toList=bs){k:Nat}(hk:k<s.size)(hb:k<bs.length):s[k]=bs[k]:=by subst h;rfl
theorem Yi(s:ByteArray)(k:Nat):s.extract 0 k=tZ (s.data.toList.take k):=by
 refine zW ?_;rw[xY];simp only[ByteArray.data_extract,Array.toList_extract];rw[List.extract_eq_take_drop,List.drop_zero,Nat.sub_zero]
theorem Yj(s:ByteArray)(k:Nat):s.extract k s.size=tZ (s.data.toList.drop k):=by
 refine zW ?_;rw[xY];simp only[ByteArray.data_extract,Array.toList_extract];have h:s.data.toList.length=s.size:=lK;rw[List.extract_eq_take_drop,<-h,gY (by simp)]
def QG(c:UInt8):Bool:=decide (48<=c.toNat)&&decide (c.toNat<=57)
def EO(c:UInt8):Bool:=decide (65<=c.toNat)&&decide (c.toNat<=90)
def tu(l:List UInt8):Nat:=(l.takeWhile QG).length
def sj(l:List UInt8):Bool:=decide (1<=tu l)&&decide (tu l<=4)&& !(l.head? ==some 48)&&decide (l.length-tu l<=3)&&(l.drop (tu l)).all EO
theorem aa6(l:List UInt8):tu l<=l.length:=by unfold tu;exact(List.takeWhile_sublist _).length_le
theorem decode_high(s:ByteArray)(pos:Nat)(h:pos<s.size)(ha:128<=(s[pos]'h).toNat):128<=(Utf8.decode s pos).1:=by
 have e:s.get! (pos+0)=s[pos]'h:=by
  show s.get! pos=_;simp[ByteArray.get!,getElem!_pos,h];rfl
 simp only[Utf8.decode,e];rw[aU (by omega)]
 repeat' split
 all_goals first|(simp[Utf8.runeError];done)|(simp only;simp_all;omega)|(simp_all[Utf8.runeError]<;>omega)
theorem Tj(p:Nat->Bool)(hp:∀x,128<=x->p x=true)(s:ByteArray):∀(f pos:Nat),s.size<=pos+f->Lib.idxFuncFrom p true s f pos=match(s.data.toList.drop pos).findIdx? (fun c=>p c.toNat)with|some j=>((pos+j:Nat):Int)|none=> -1
 |0,pos,h=>by
  have hl:s.data.toList.length=s.size:=lK;rw[List.drop_of_length_le (by omega)];rfl
 |f+1,pos,h=>by
  have hl:s.data.toList.length=s.size:=lK;rw[Lib.idxFuncFrom]
  split
  ·rename_i hlt
   have hc:s.data.toList[pos]'(by omega)=s[pos]'hlt:=rfl;rw[iW (by omega),hc,List.findIdx?_cons];by_cases ha:(s[pos]'hlt).toNat<128
   ·rw[decode_ascii s pos hlt ha]
    by_cases hq:p (s[pos]'hlt).toNat=true
    ·rw[bH hq,bH hq];simp
    ·rw[aU hq,aU hq,Tj p hp s f (pos+1) (by omega)]
     cases(s.data.toList.drop (pos+1)).findIdx? (fun c=>p c.toNat)with
     |none=>rfl
     |some j=>
      show((pos+1+j:Nat):Int)=((pos+(j+1):Nat):Int)
      congr 1
      omega
   ·rw[bH (hp _ (decode_high s pos hlt (by omega))),bH (hp _ (by omega))];simp
  ·rename_i hlt
   rw[List.drop_of_length_le (by omega)];rfl
theorem Px(p:Nat->Bool)(hp:∀x,128<=x->p x=true)(s:ByteArray):Lib.idxFunc p true s=match s.data.toList.findIdx? (fun c=>p c.toNat)with|some j=>(j:Int)|none=> -1:=by
 rw[Lib.idxFunc,Tj p hp s s.size 0 (by omega),List.drop_zero];simp
theorem FV(q:UInt8->Bool):∀l:List UInt8,(match l.findIdx? (fun c=> !q c)with|some j=>(j:Int)|none=> -1)=if(l.takeWhile q).length<l.length then((l.takeWhile q).length:Int)else-1
 |[]=>by simp
 |c::r=>by
  have ih:=FV q r;rw[List.findIdx?_cons,List.takeWhile_cons];cases hq:q c with
  |false=>simp
  |true=>
   simp only[Bool.not_true,Bool.false_eq_true,if_false,if_true,iX];cases hf:r.findIdx? (fun c=> !q c)with
   |none=>
    rw[hf]at ih;simp only[Option.map_none]at ih⊢
    split at ih
    ·omega
    ·rw[aU (by omega)]
   |some j=>
    rw[hf]at ih;simp only[Option.map_some]at ih⊢
    split at ih
    ·rw[bH (by omega)]
     show((j+1:Nat):Int)=_;omega
    ·omega
theorem VA(q:UInt8->Bool)(l:List UInt8):decide ((0:Int)<=match l.findIdx? q with|some j=>(j:Int)|none=> -1)=l.any q:=by
 cases hf:l.findIdx? q with
 |none=>
  rw[List.findIdx?_eq_none_iff]at hf;rw[Bool.eq_iff_iff];simp only[decide_eq_true_eq,List.any_eq_true]
  constructor
  ·omega
  ·rintro⟨x,h1,h2⟩
   rw[hf x h1]at h2;cases h2
 |some j=>
  have h1:l.any q=true:=by
   obtain⟨h2,h3,h4⟩:=List.findIdx?_eq_some_iff_getElem.1 hf;exact List.any_eq_true.2 ⟨l[j],dW h2,h3⟩
  rw[h1];simp
def qw(x:Nat):Bool:=decide (x<48)||decide (57<x)
def qx(x:Nat):Bool:=decide (x<65)||decide (90<x)
theorem aa7(c:UInt8):qw c.toNat= !QG c:=by
 rw[Bool.eq_iff_iff];simp only[qw,QG,Bool.or_eq_true,decide_eq_true_eq,Bool.not_eq_true',Bool.and_eq_false_iff,decide_eq_false_iff_not];omega
theorem aa8(c:UInt8):qx c.toNat= !EO c:=by
 rw[Bool.eq_iff_iff];simp only[qx,EO,Bool.or_eq_true,decide_eq_true_eq,Bool.not_eq_true',Bool.and_eq_false_iff,decide_eq_false_iff_not];omega
theorem VB(x:Nat)(w:World)(hx:x<=1114111):Calls prog 219 #[.int .i32 (x:Nat)] w fun e w'=>e=.returned (.bool (qw x))/\w'=w:=by
 by_cases h1:x<48
 ·have d1:=eY x 48
  have hr:qw x=true:=by simp[qw,h1]
  rw[hr];go_enter func219,ntmps219
  go_wp2;go_ret;exact⟨rfl,rfl⟩
 ·have d1:=fT x 48
  by_cases h2:57<x
  ·have d2:decide ((x:Int)>57)=true:=bJ (by omega)
   have hr:qw x=true:=by simp[qw,h2]
   rw[hr];go_enter func219,ntmps219
   go_wp2;go_ret;exact⟨rfl,rfl⟩
  ·have d2:decide ((x:Int)>57)=false:=aY (by omega)
   have hr:qw x=false:=by simp[qw,h1,h2]
   rw[hr];go_enter func219,ntmps219
   go_wp2;go_ret;exact⟨rfl,rfl⟩
theorem Yk(x:Nat)(w:World)(hx:x<=1114111):Calls prog 185 #[.int .i32 (x:Nat)] w fun e w'=>e=.returned (.bool (qx x))/\w'=w:=by
 by_cases h1:x<65
 ·have d1:=eY x 65
  have hr:qx x=true:=by simp[qx,h1]
  rw[hr];go_enter func185,ntmps185
  go_wp2;go_ret;exact⟨rfl,rfl⟩
 ·have d1:=fT x 65
  by_cases h2:90<x
  ·have d2:decide ((x:Int)>90)=true:=bJ (by omega)
   have hr:qx x=true:=by simp[qx,h2]
   rw[hr];go_enter func185,ntmps185
   go_wp2;go_ret;exact⟨rfl,rfl⟩
  ·have d2:decide ((x:Int)>90)=false:=aY (by omega)
   have hr:qx x=false:=by simp[qx,h1,h2]
   rw[hr];go_enter func185,ntmps185
   go_wp2;go_ret;exact⟨rfl,rfl⟩
theorem Tk(w:World):PredGrows prog 219 #[] qw w:=fun W x hx _=>(VB x W hx).mono fun _ _ ⟨h1,h2⟩=>⟨h1,h2▸Below.refl _ _⟩
theorem VD(w:World):PredGrows prog 185 #[] qx w:=fun W x hx _=>(Yk x W hx).mono fun _ _ ⟨h1,h2⟩=>⟨h1,h2▸Below.refl _ _⟩
theorem adZ(s:ByteArray)(w:World):Calls prog 218 #[.string s,.func (.func 219) #[] #[]] w fun e w'=>e=.returned (.int .i64 (if tu s.data.toList<s.size then(tu s.data.toList:Int)else-1))/\Ext w w':=by
 refine(Tryz.strings_IndexFunc_grows _ #[] call219 qw s w (Tk w)).mono fun e w' ⟨h1,h2⟩=>⟨?_,h2⟩;rw[h1,Px qw (fun x hx=>by simp[qw];omega) s];have h3:(fun c:UInt8=>qw c.toNat)=fun c=> !QG c:=funext aa7;have hl:s.data.toList.length=s.size:=lK;rw[h3,FV,hl];rfl
theorem VE(s:ByteArray)(w:World):Calls prog 186 #[.string s,.func (.func 185) #[] #[]] w fun e w'=>e=.returned (.bool (!s.data.toList.all EO))/\Ext w w':=by
 refine(Tryz.strings_ContainsFunc_grows _ #[] call185 qx s w (VD w)).mono fun e w' ⟨h1,h2⟩=>⟨?_,h2⟩;have h3:(fun c:UInt8=>qx c.toNat)=fun c=> !EO c:=funext aa8;rw[h1,Px qx (fun x hx=>by simp[qx];omega) s,h3,VA,List.all_eq_not_any_not,Bool.not_not]
theorem Yl(s:ByteArray):tZ s.data.toList=s:=zW (by rw[xY])
theorem Ym(s:ByteArray)(w:World)(hs:s.size<=1048576):Calls prog 184 #[.string s] w fun e w'=>
 e=.returned (.tuple #[.string (tZ (s.data.toList.take (tu s.data.toList))),.string (tZ (s.data.toList.drop (tu s.data.toList)))])/\Ext w w':=by
 have hl:s.data.toList.length=s.size:=lK;have hd:=aa6 s.data.toList;have hi:=fun w=>adZ s w;obtain⟨d,hdd⟩:=aH (tu s.data.toList);rw[hdd]at hd hi⊢;by_cases h:d<s.size
 ·simp only[bH h]at hi
  have Hi:=ah hi;have E1:=Yi s d;have E2:=Yj s d;obtain⟨A,hA⟩:=aH (tZ (s.data.toList.take d));obtain⟨B,hB⟩:=aH (tZ (s.data.toList.drop d));rw[hA]at E1⊢;rw[hB]at E2⊢;have d1:=fT d 0;have d2:((d:Int)<=(s.size:Int)):=by omega
  clear hi hdd hl hA hB;go_enter func184,ntmps184
  go_wp2_with fail
  refine(Hi.out _).mono ?_;rintro e w1 ⟨rfl,hx1⟩;go_wp2;go_quiet (fail)
  go_wp2
  go_ret2
  exact⟨rfl,hx1.drewN _⟩
 ·simp only[aU h]at hi
  have Hi:=ah hi;have hA:tZ (s.data.toList.take d)=s:=by rw[gY (by omega),Yl]
  have hB:tZ (s.data.toList.drop d)=⟨#[]⟩:=by rw[List.drop_of_length_le (by omega)];rfl
  rw[hA,hB];clear hi hdd hl hA hB;go_enter func184,ntmps184
  go_wp2_with fail
  refine(Hi.out _).mono ?_;rintro e w1 ⟨rfl,hx1⟩;go_wp2
  go_ret2
  exact⟨rfl,hx1⟩
theorem CV(s:ByteArray)(w:World)(hs:s.size<=1048576):Calls prog 131 #[.string s] w fun e w'=>e=.returned (.bool (sj s.data.toList))/\Ext w w':=by
 have hl:s.data.toList.length=s.size:=lK;have hd:=aa6 s.data.toList;have Hp:=ah (fun w=>Ym s w hs);obtain⟨l,hll⟩:=aH (s.data.toList);rw[hll]at Hp hd hl⊢;obtain⟨D,hD⟩:=aH (tZ (l.take (tu l)));obtain⟨C,hC⟩:=aH (tZ (l.drop (tu l)));rw[hD,hC]at Hp;have hDs:D.size=tu l:=by rw[<-hD,Mk,fu];omega
 have hCs:C.size=l.length-tu l:=by rw[<-hC,Mk,jV]
 have Hc:=ah (fun w=>VE C w);have hCl:C.data.toList=l.drop (tu l):=by rw[<-hC,xY]
 rw[hCl]at Hc;have HD:=ah hD;have Py:=ah hDs;have HCs:=ah hCs;clear hll hD hC hCl;by_cases n1:1<=tu l
 case neg=>
  have hr:sj l=false:=by simp[sj,n1]
  rw[hr];have d1:decide ((D.size:Int)≥1)=false:=aY (by omega);clear hr n1 hDs hCs hd;go_enter func131,ntmps131
  go_wp2_with fail
  refine(Hp.out _).mono ?_;rintro e w1 ⟨rfl,hx1⟩;go_wp2;go_ret;exact⟨rfl,hx1⟩
 have d1:decide ((D.size:Int)≥1)=true:=bJ (by omega);by_cases n2:tu l<=4
 case neg=>
  have hr:sj l=false:=by simp[sj,n2]
  rw[hr];have d2:decide ((D.size:Int)<=4)=false:=aY (by omega);clear hr n1 n2 hDs hCs hd;go_enter func131,ntmps131
  go_wp2_with fail
  refine(Hp.out _).mono ?_;rintro e w1 ⟨rfl,hx1⟩;go_wp2;go_ret;exact⟨rfl,hx1⟩
 have d2:decide ((D.size:Int)<=4)=true:=bJ (by omega)
 obtain⟨c,r,hcr⟩:∃c r,l=c::r:=by
  cases l with
  |nil=>simp[tu]at n1
  |cons c r=>exact⟨c,r,rfl⟩
 have hD0p:0<D.size:=by omega
 have hD0:D[0]'hD0p=c:=by
  have h1:D.data.toList=l.take (tu l):=by rw[<-HD.out,xY]
  rw[byte_at h1 hD0p (by rw[fu];omega)];simp[hcr]
 by_cases n3:c=48
 case pos=>
  have hr:sj l=false:=by simp[sj,hcr,n3]
  rw[hr];subst n3;have d3:((UInt8.toNat 48:Int) !=48)=false:=rfl;clear hr n1 n2 hDs hCs hd hcr;go_enter func131,ntmps131
  go_wp2_with fail
  refine(Hp.out _).mono ?_;rintro e w1 ⟨rfl,hx1⟩;go_wp2;go_ret;exact⟨rfl,hx1⟩
 have d3:((c.toNat:Int) !=48)=true:=by
  have:c.toNat≠48:=fun h=>n3 (UInt8.toNat_inj.1 h);simp only[bne_iff_ne,ne_eq];omega
 by_cases n4:l.length-tu l<=3
 case neg=>
  have hr:sj l=false:=by simp[sj,n4]
  rw[hr];have d4:decide ((C.size:Int)<=3)=false:=aY (by omega);clear hr n1 n2 n3 n4 hDs hCs hd hcr;go_enter func131,ntmps131
  go_wp2_with fail
  refine(Hp.out _).mono ?_;rintro e w1 ⟨rfl,hx1⟩;go_wp2;go_ret;exact⟨rfl,hx1⟩
 have d4:decide ((C.size:Int)<=3)=true:=bJ (by omega)
 have hr:sj l=(l.drop (tu l)).all EO:=by
  have h48:((some c==some (48:UInt8))=false):=by simp[n3]
  rw[sj,bJ n1,bJ n2,bJ n4];rw[show l.head? =some c by rw[hcr];rfl,h48];simp
 rw[hr];obtain⟨R,hR⟩:=aH ((l.drop (tu l)).all EO);rw[hR]at Hc⊢;clear hr n1 n2 n3 n4 hDs hCs hd hcr hR;go_enter func131,ntmps131
 go_wp2_with fail
 refine(Hp.out _).mono ?_;rintro e w1 ⟨rfl,hx1⟩;go_wp2_with fail
 refine(Hc.out _).mono ?_;rintro e w2 ⟨rfl,hx2⟩;go_wp2;go_ret;exact⟨oU (by simp),hx1.trans hx2⟩
end Go.Proofs.YtgboomjahhnldaaGreatDoor
