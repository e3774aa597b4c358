/- A part of the proof of TopWritten, printed small: Every8 Ids8 Depth8 TTakes TFunc TStrEq Shelf. -/
import Derived.Test.YtgboomjahhnldaaGreatDoorZ05
import Derived.Test.YtgboomjahhnldaaGreatDoorZ09
import Derived.Test.YtgboomjahhnldaaGreatDoorZ11
import Derived.Test.YtgboomjahhnldaaGreatDoorZ03
import Derived.Shelf.Strings.Builder1
import Derived.Shelf.Strings.Builder2
import Derived.Shelf.Strings.OnBuilder
import Derived.Shelf.Strings.Trim
import Derived.Shelf.Small.Utf8
import Derived.Shelf.Small.Bits
import Derived.Shelf.Small.Strs
import Derived.Shelf.Small.Wraps
import Derived.Shelf.Strings.BuilderF
import Derived.Shelf.Strings.BuilderK
import Derived.Shelf.Strings.Builder2Cap
import Derived.Shelf.Strconv.Itoa0
import Derived.Shelf.Strings.Search1
import Derived.Shelf.GgClosure.StringsIndexFunc
import Derived.Ground.GgwProg
import Derived.Shelf.GgClosure.StringsIndexFuncTop
import Derived.Shelf.GgClosure.StringsRunes
import Derived.Shelf.Strings.Prefix
import Derived.Shelf.Strings.Runes
import Derived.Shelf.Strings.AsciiSet
import Derived.Shelf.Bits.Mul64
import Derived.Shelf.Strings.Repeat
import Derived.Shelf.Unicode.DecodeSlow
import Derived.Shelf.Unicode.DecodeAny
import Derived.Shelf.Unicode.DecodeLast
import Derived.Shelf.Strings.FuncGrows
import Derived.Shelf.Strings.BuilderCap
import Derived.Ground.Names2Prog
import Derived.Shelf.Slices.CompactI
import Derived.Ground.SlgmProg
import Derived.Shelf.SortM.Plain
import Derived.Shelf.SortM.SortNone
import Derived.Test.YtgboomjahhnldaaGreatDoorProg
set_option maxRecDepth 100000
set_option maxHeartbeats 25600000
set_option linter.all false
namespace Go.Proofs.YtgboomjahhnldaaGreatDoor
open Go.Proofs.Tryz Go.RowKit
def Ku(F:FuncId)(cs:Array Value)(W0:World)(S:Bool)(Inv:(Nat->Bool)->List av->World->Prop)(all:List av)(N:Nat):Prop:=∀(u:av) (r:aB) (p:Nat->Bool) (acc:List av) (w:World),SizeOf.sizeOf u<=N->Reads W0 u r->dI u->(∃rest,all=acc++bO u++rest)->Inv p acc w->
 Calls prog 166 #[.agg r.cells.toArray,.func (.func F) #[] cs] w fun e w'=>∃(b:Bool) (p':Nat->Bool),e=.returned (.bool b)/\aZ (mask p w) (mask p' w')/\Ext W0 w'/\(b=true->Inv p' (acc++bO u) w')/\(S=true->b=true)
theorem Vn{F:FuncId}{cs:Array Value}(hF:∀args w,(callFunc F args).run prog w=.ok (.enter F args) w){W0:World}{S:Bool}{Inv:(Nat->Bool)->List av->World->Prop}{all:List av}(hext:∀p acc w,Inv p acc w->Ext W0 w)(hmono:∀p acc w w',Inv p acc w->Ext w w'->Inv p acc w')(LU:∀p acc w,Inv p acc w->∀j,p j=true->j<w.heap.size)
 (hstep:∀p acc x (rx:aB) w,dI x->Reads W0 x rx->(∃rest,all=acc++x::rest)->Inv p acc w->Calls prog F (#[.agg rx.cells.toArray]++cs) w fun e w'=>∃(b:Bool) (p':Nat->Bool),e=.returned (.bool b)/\aZ (mask p w) (mask p' w')/\Ext W0 w'/\(b=true->Inv p' (acc++[x]) w')/\(S=true->b=true))
 (N:Nat) (ih:Ku F cs W0 S Inv all N):Ku F cs W0 S Inv all (N+1):=by
 intro u r p acc w hN hr hok hin hI;obtain⟨-,-,-,-,-,-,-,-,-,hkn,hkc,rs,hrs,hall,hrl⟩:=hr.j5;have hkb:=hok.all.head.2.2.2.1;rw[<-hrl]at hkn hkb;have hx0:Ext w (w.alloc (.cells r.cells.toArray 30)):=(Ext.refl w).alloc _;have hI0:=hmono _ _ _ _ hI hx0;have hst:=hstep p acc u r _ hok hr (by obtain⟨rest,h⟩:=hin;exact⟨eO u.kids++rest,by rw[h,jy];simp⟩) hI0;have OY:=(rE.new r w).c7
 have hp0:p w.heap.size=false:=by
  cases h:p w.heap.size with
  |false=>rfl
  |true=>have:=LU _ _ _ hI _ h;omega
 have uG:=ah (fun x (hx:x∈u.kids)=>hok.kid hx);have LV:=ah (fun k (h:k<u.kids.length)=>ih u.kids[k]);have qE:=ah (fun k (h:k<u.kids.length)=>qO hN h);obtain⟨R,hR⟩:=aH (acc++bO u);have HR:=ah (show R=(acc++[u])++eO (u.kids.drop 0) by rw[<-hR,jy];simp);rw[hR]at hin⊢;have xK:=ah hin;obtain⟨kids,hkk⟩:=aH (u.kids);rw[hkk]at hall hrl uG LV qE HR;obtain⟨ra,ri,rn,rk,rl,fU,hn,hc,wA,wn,wc,kA,kn,kc⟩:=r;dsimp only at hkn hkc hrs OY;subst hkn;simp only[aB.cells]at hx0 hI0 hst OY⊢;obtain⟨wb,hwb⟩:=aH (w.alloc (.cells #[.int .i64 ra,.int .i64 ri,.int .i64 rn,.int .i64 rk,.string rl,.slice fU hn hc,.slice wA wn wc,.slice kA rs.length kc] 30));rw[hwb]at hx0 hI0 hst OY;have lH:=ah hwb;have nO:=ah hst;have Hb7:=ah (ng (p:=p) (q:=⟨w.heap.size,7,none⟩) hp0 OY);have jo:=ah hall;have Hrl:=ah hrl;have Hm:=ah hmono;have He:=ah hext;have jv:=ah (show aZ (mask p w) (mask p wb)from aZ.ext hx0);clear hin hstep LU ih hall hrl hR hwb hst OY hp0 hN hI hI0 hmono hext hx0 hr hok hkk;go_enter func166,ntmps166
 go_wp2_with fail
 rw[lH.out];refine(nO.out).mono ?_;rintro e w1 ⟨b,p1,rfl,hc1,ajc,hI1,hS1⟩;have h7:=((aZ.iV p1 w1).cell _ _ (hc1.cell _ _ Hb7.out));have Gy:=ah hS1;clear hS1;cases b with
 |false=>
  go_wp2;go_ret;exact⟨_,p1,rfl,jv.out.trans hc1,ajc,fun h=>(by cases h),Gy.out⟩
 |true=>
 have HI1:=ah (hI1 rfl);have Hc1:=ah hc1;clear hI1 hc1 ajc;go_wp2
 go_loopw [14] (fun vk wr=>∃(k:Nat) (p2:Nat->Bool) (XT:List av),k<=rs.length/\vk=.int .i64 (k:Nat)/\Hid (R=XT++eO (kids.drop k))/\Hid (Inv p2 XT wr)/\Hid (aZ (mask p wb) (mask p2 wr))) (fun vk _=>rs.length-(intOf vk).toNat)
 case atStart=>exact⟨0,p1,_,bI _,rfl,HR,HI1,Hc1⟩
 case round=>
  clear h7;obtain⟨k,p2,XT,hk,rfl,Hk,HI,HC⟩:=hrel;by_cases hlt:k<rs.length
  ·have hltk:k<kids.length:=by rw[<-Hrl.out];exact hlt
   have hk2:=Hk.out;rw[iW hltk,eO]at hk2;have hW:=He.out _ _ _ HI.out;obtain⟨q,hq⟩:=aH (rs[k]);obtain⟨b,off,lI,hb,u0,u1,u2,u3,u4,u5,u6,u7⟩:=qb (hrs.ext hW) hlt hq;subst lI;have hxa:Ext wr (wr.alloc (.cells #[.int .i64 q.a,.int .i64 q.i,.int .i64 q.n,.int .i64 q.kind,.string q.label,.slice q.hA q.hn q.hc,.slice q.wA q.wn q.wc,.slice q.kA q.kn q.kc] 30)):=(Ext.refl _).alloc _;have hrec:=LV.out k hltk rs[k] p2 XT _ (qE.out k hltk) (ReadsAll.get jo.out k hltk hlt) (uG.out _ (dW hltk)) (by obtain⟨rest,h⟩:=xK.out;exact⟨eO (kids.drop (k+1))++rest,by rw[h,hk2];simp⟩) (Hm.out _ _ _ _ HI.out hxa);rw[hq]at hrec;have iY:=ah hrec;have og:=ah hk2;have d1:=eY k rs.length;have HCa:=ah (HC.out.trans (aZ.ext hxa));clear hrec hk2 hq hW hxa;go_wp2_with fail
   refine(iY.out).mono ?_;rintro e w2 ⟨b,p3,rfl,hc3,hx3,hI3,hS3⟩;have Rt:=ah hS3;clear hS3;cases b with
   |false=>
    go_wp2;go_ret;exact⟨_,p3,rfl,(jv.out.trans HCa.out).trans hc3,hx3,fun h=>(by cases h),Rt.out⟩
   |true=>
    have HI3:=ah (hI3 rfl);have Hc3:=ah (HCa.out.trans hc3);clear hI3 hc3 hx3;go_wp2;go_roundw
    case rel=>exact⟨k+1,p3,_,by omega,by go_num,ah (by rw[og.out,dV]),HI3,Hc3⟩
    case measure=>simp[intOf];omega
  ·have hk2:=Hk.out
   rw[List.drop_of_length_le (by rw[<-Hrl.out];omega),eO,kY]at hk2;have og:=ah hk2;have d1:=fT k rs.length;clear hk2;go_wp2;go_ret;exact⟨_,p2,rfl,jv.out.trans HC.out,He.out _ _ _ HI.out,fun _=>(by rw[og.out];exact HI.out),fun _=>rfl⟩
theorem Gz{F:FuncId}{cs:Array Value}(hF:∀args w,(callFunc F args).run prog w=.ok (.enter F args) w){W0:World}{S:Bool}{Inv:(Nat->Bool)->List av->World->Prop}{all:List av}(hext:∀p acc w,Inv p acc w->Ext W0 w)(hmono:∀p acc w w',Inv p acc w->Ext w w'->Inv p acc w')(LU:∀p acc w,Inv p acc w->∀j,p j=true->j<w.heap.size)
 (hstep:∀p acc x (rx:aB) w,dI x->Reads W0 x rx->(∃rest,all=acc++x::rest)->Inv p acc w->Calls prog F (#[.agg rx.cells.toArray]++cs) w fun e w'=>∃(b:Bool) (p':Nat->Bool),e=.returned (.bool b)/\aZ (mask p w) (mask p' w')/\Ext W0 w'/\(b=true->Inv p' (acc++[x]) w')/\(S=true->b=true)):
 ∀N,Ku F cs W0 S Inv all N
 |0=>fun u _ _ _ _ h=>(xI h).elim
 |N+1=>Vn hF hext hmono LU hstep N (Gz hF hext hmono LU hstep N)
structure Di (W0:World) (B:Nat) (p:Nat->Bool) (acc:List av) (w:World):Prop where
 ext:Ext W0 w
 ge:W0.heap.size<=B
 dark:p B=true
 lt:∀j,p j=true->j<w.heap.size
 out:∃v,w.heap[B]? =some (.cells #[v] 143 (0,0))/\Own aM (B+1) w v (acc.map av.id)/\∀g,v.ownBlock=some g->p g=true/\g≠B
section
variable {W0 w w' wq w2 w3:World} {B:Nat} {p:Nat->Bool} {acc:List av}
theorem Di.grow(h:Di W0 B p acc w)(he:Ext w w'):Di W0 B p acc w':=by
 obtain⟨v,h1,h2,h3⟩:=h.out;exact⟨h.ext.trans he,h.ge,h.dark,fun j hj=>bQ (h.lt j hj) he.size,v,(he.block (ay h1)).trans h1,h2.ext he,h3⟩
theorem Di.step{x:av}{v v':Value}(h:Di W0 B p acc w)(he:Ext w wq)(hown:Own aM (B+1) w v (acc.map av.id))(hpo:∀g,v.ownBlock=some g->p g=true/\g≠B)(hg2:wq.grownBy w2 v.ownBlock)(hloc:v'.ownBlock=v.ownBlock∨v'.ownBlock=some wq.heap.size)
 (hown2:Own aM (B+1) w2 v' (acc.map av.id++[x.id])) (hw3:∀k,k≠B->w3.heap[k]? =w2.heap[k]?) (hos:w3.os=w2.os) (htp:w3.tape=w2.tape) (hou:w3.output=w2.output) (hs:w3.heap.size=w2.heap.size) (hbk:w3.heap[B]? =some (.cells #[v'] 143 (0,0))):
 ∃p',Di W0 B p' (acc++[x]) w3/\aZ (mask p w) (mask p' w3):=by
 obtain⟨p',a1,a2,a3,a4,_,a6,a7⟩:=Own.step (B:=W0.heap.size) he hown h.dark h.lt hpo hg2 hloc hown2 hw3 hos htp hou hs h.ge (by have:=h.ge;omega) h.ext.size;refine⟨p',⟨h.ext.trans' a7,h.ge,a1 _ h.dark,a2,v',hbk,?_,a3⟩,a4⟩;rw[List.map_append,gX,List.map_nil];exact a6
end
theorem adA(W0:World)(B:Nat)(all:List av)(hall:all.length<=1000)(p:Nat->Bool)(acc:List av)(x:av)(rx:aB)(w:World)(hr:Reads W0 x rx)(hin:∃rest,all=acc++x::rest)(hI:Di W0 B p acc w):
 Calls prog 168 #[.agg rx.cells.toArray,.pointer (some ⟨B,0,none⟩)] w fun e w'=>∃(b:Bool) (p':Nat->Bool),e=.returned (.bool b)/\aZ (mask p w) (mask p' w')/\Ext W0 w'/\(b=true->Di W0 B p' (acc++[x]) w')/\(true=true->b=true):=by
 obtain⟨rest,hrest⟩:=hin;have hla:(acc.map av.id).length<=1000:=by rw[hrest]at hall;simp at hall⊢;omega
 obtain⟨vO,CP,hO2,hO3⟩:=hI.out;have hid:rx.id=x.id:=hr.j5.1;obtain⟨Z,hZ⟩:=aH (acc.map av.id);rw[hZ]at hO2 hla;have HZ:=ah hZ;have hx0:Ext w (w.alloc (.cells rx.cells.toArray 30)):=(Ext.refl w).alloc _;have hbx:=rE.new rx w;have hBw:=ay CP;have JD:=(hx0.block hBw).trans CP;obtain⟨q,hq⟩:=aH (rx.id);rw[hq]at hid;have Hid':=ah hid;obtain⟨ra,ri,rn,rk,rl,fU,hn,hc,wA,wn,wc,kA,kn,kc⟩:=rx;simp only[aB.id]at hq;subst hq;simp only[aB.cells]at hx0 hbx JD⊢;obtain⟨wb,hwb⟩:=aH (w.alloc (.cells #[.int .i64 ra,.int .i64 ri,.int .i64 rn,.int .i64 rk,.string rl,.slice fU hn hc,.slice wA wn wc,.slice kA kn kc] 30));rw[hwb]at hx0 hbx JD;have lH:=ah hwb;obtain⟨hb0,c0,c1,c2,-,-,-,-,-⟩:=hbx;dsimp only at c0 c1 c2;obtain⟨AO,cO,rfl,-,-⟩:=hO2.form;have hcO:wb.cell? ⟨B,0,none⟩=some (.slice AO Z.length cO):=by simp[World.cell?,JD]
 have yG:=ah (hO2.ext hx0);have aqW:=ah hO2;have HO3:=ah hO3;have HbO:=ah JD;have HI:=ah hI;have jv:=ah hx0;have aqX:=hI.ge;have Hgb:=ah (bQ hBw hx0.size);clear hr hrest CP hO2 hO3 hI hid JD hZ hx0 hBw hall;go_enter func168,ntmps168
 go_wp2_with (first|(at_builtin;refine lq aM rfl (.tmp 4) (.tmp 7) rfl 1 rfl (yG.out.ext ((Ext.refl _).alloc _)) rfl (Sl.new aM (xs:=[⟨ra,ri,rn⟩]) (by simp[El.flat,aM,bf.cells])) (by simp;omega) (by have:=Hgb.out;simp;omega) ?_;intro v2 w2 hown2 hg2 hloc;have hblk2:=((hg2.block B (by have:=Hgb.out;simp;omega) (fun h=>(HO3.out _ h.symm).2 rfl)).trans (((Ext.refl _).alloc _).block Hgb.out)).trans HbO.out;obtain⟨Z2,hZ2⟩:∃Z2,Z++[(⟨ra,ri,rn⟩:bf)]=Z2:=⟨_,rfl⟩;rw[hZ2]at hown2;have HZ2:=ah hZ2;clear hZ2;obtain⟨A3,c3,hv3,-,-⟩:=hown2.form;subst hv3)|
  (refine aP rfl 143 (.tmp 1) (.tmp 8) rfl B 0 (.slice A3 Z2.length c3) rfl rfl [.slice A3 Z2.length c3] rfl sizeOf143 (by simp[Value.oneCell']) 143 _ hblk2 (by simp) ?_;intro w3 hw3 gQ gT gU hs3 jw))
 go_ret;have hgb:=Hgb.out;obtain⟨p',hI',hc'⟩:=HI.out.step (x:=x) (jv.out.trans ((Ext.refl _).alloc _)) (by rw[HZ.out];exact aqW.out) HO3.out hg2 hloc (by rw[HZ.out,<-Hid'.out,HZ2.out];exact hown2) hw3 gQ gT gU hs3 (by rw[jw];simp);exact⟨rfl,p',hc',hI'.ext,hI'⟩
theorem NK(u:av)(r:aB)(w:World)(hr:Reads w u r)(hok:dI u):
 Calls prog 98 #[.agg r.cells.toArray] w (Dw aM w ((bO u).map av.id)):=by
 have hx0:Ext w ((w.alloc (.cells r.cells.toArray 30)).alloc (.cells #[.slice none 0 0] 143)):=((Ext.refl w).alloc _).alloc _;have hsz1:(w.alloc (.cells r.cells.toArray 30)).heap.size=w.heap.size+1:=by simp
 have DT:((w.alloc (.cells r.cells.toArray 30)).alloc (.cells #[.slice none 0 0] 143)).heap[w.heap.size+1]? =some (.cells #[.slice none 0 0] 143 (0,0)):=by
  have h1:=heap_alloc_new (w.alloc (.cells r.cells.toArray 30)) (.cells #[.slice none 0 0] 143)
  rwa[hsz1]at h1
 have hI0:Di w (w.heap.size+1) (fun j=>decide (j=w.heap.size+1)) [] ((w.alloc (.cells r.cells.toArray 30)).alloc (.cells #[.slice none 0 0] 143)):=
  ⟨hx0,by omega,by simp,fun j hj=>by simp at hj;subst hj;exact ay DT,_,DT,Own.nil _,fun g hg=>by cases hg⟩
 have hev:=Gz (F:=168) (cs:= #[.pointer (some ⟨w.heap.size+1,0,none⟩)]) (fun _ _=>rfl) (W0:=w) (S:=true) (Inv:=Di w (w.heap.size+1)) (all:=bO u) (fun _ _ _ h=>h.ext) (fun _ _ _ _ h he=>h.grow he) (fun _ _ _ h=>h.lt)
  (fun p acc x rx w' _ hrx hin hI=>adA w (w.heap.size+1) (bO u) (by rw[nW];exact hok.cnt) p acc x rx w' hrx hin hI)
  _ u r _ [] _ (aI _) hr hok ⟨[],by simp⟩ hI0
 obtain⟨ra,ri,rn,rk,rl,fU,hn,hc,wA,wn,wc,kA,kn,kc⟩:=r;simp only[aB.cells]at hx0 hev⊢;have GA:=ah hev;clear hev hI0 DT hsz1 hr;obtain⟨wz,hwz⟩:=aH ((w.alloc (.cells #[.int .i64 ra,.int .i64 ri,.int .i64 rn,.int .i64 rk,.string rl,.slice fU hn hc,.slice wA wn wc,.slice kA kn kc] 30)).alloc (.cells #[.slice none 0 0] 143));rw[hwz]at GA hx0;have LC:=ah hwz;clear hwz;go_enter func98,ntmps98
 go_wp2_with fail
 rw[LC.out];refine(GA.out).mono ?_;rintro e w1 ⟨b1,p1,rfl,-,-,hI1,hS1⟩;have hb1:b1=true:=by simpa using hS1
 subst hb1;replace hI1:=hI1 rfl;obtain⟨v1,hv1,ho1,-⟩:=hI1.out;have hx1:=hI1.ext;have hc1:w1.cell? ⟨w.heap.size+1,0,none⟩=some v1:=by simp[World.cell?,hv1]
 have Ho1:=ah ho1;have tq:=ah hx1;obtain⟨A1,c1,rfl,-,-⟩:=ho1.form;obtain⟨Z,hZ⟩:=aH (List.map av.id ([]++bO u));rw[hZ]at hc1 Ho1;have HZ:=ah hZ;clear hI1 hv1 ho1 hx1 hZ hS1;go_wp2;go_ret;exact⟨_,rfl,by rw[<-jW (bO u),HZ.out];exact Ho1.out.mono (by omega),tq.out⟩
structure Kv (W0:World) (B:Nat) (p:Nat->Bool) (acc:List av) (w:World):Prop where
 ext:Ext W0 w
 ge:W0.heap.size<=B
 dark:p B=true
 lt:∀j,p j=true->j<w.heap.size
 out:w.heap[B]? =some (.cells #[.int .i64 (acc.length:Int)] 3 (0,0))
theorem Kv.grow{W0 w w':World}{B:Nat}{p:Nat->Bool}{acc:List av}(h:Kv W0 B p acc w)(he:Ext w w'):Kv W0 B p acc w':=
 ⟨h.ext.trans he,h.ge,h.dark,fun j hj=>bQ (h.lt j hj) he.size,(he.block (ay h.out)).trans h.out⟩
theorem adB(W0:World)(B:Nat)(all:List av)(hall:all.length<=1000)(p:Nat->Bool)(acc:List av)(x:av)(rx:aB)(w:World)(hin:∃rest,all=acc++x::rest)(hI:Kv W0 B p acc w):
 Calls prog 167 #[.agg rx.cells.toArray,.pointer (some ⟨B,0,none⟩)] w fun e w'=>∃(b:Bool) (p':Nat->Bool),e=.returned (.bool b)/\aZ (mask p w) (mask p' w')/\Ext W0 w'/\(b=true->Kv W0 B p' (acc++[x]) w')/\(true=true->b=true):=by
 obtain⟨rest,hrest⟩:=hin;have hla:acc.length<=1000:=by rw[hrest]at hall;simp at hall⊢;omega
 have CP:=hI.out;obtain⟨Z,hZ⟩:=aH (acc.length);rw[hZ]at hla CP;have HZ:=ah hZ;have hx0:Ext w (w.alloc (.cells rx.cells.toArray 30)):=(Ext.refl w).alloc _;have hBw:=ay CP;have JD:=(hx0.block hBw).trans CP;have aqX:=hI.ge;obtain⟨wb,hwb⟩:=aH (w.alloc (.cells rx.cells.toArray 30));rw[hwb]at hx0 JD;have hcO:wb.cell? ⟨B,0,none⟩=some (.int .i64 (Z:Int)):=by simp[World.cell?,JD]
 have HbO:=ah JD;have HI:=ah hI;have jv:=ah hx0;clear hrest CP hI JD hZ hx0 hall;go_enter func167,ntmps167
 go_wp2_with (refine aP rfl 3 (.tmp 1) (.tmp 5) rfl B 0 (.int .i64 ((Z:Int)+1)) rfl rfl [.int .i64 ((Z:Int)+1)] rfl sizeOf3 (by simp[Value.oneCell']) 3 _ HbO.out (by simp) ?_;intro w3 hw3 gQ gT gU hs3 jw)
 go_ret;have hx0:=jv.out;have hI:=HI.out;have hxe:Ext W0 w3:=Ext.put (hI.ext.trans hx0) hI.ge hw3 gQ gT gU hs3
 have hb3:w3.heap[B]? =some (.cells #[.int .i64 (((acc++[x]).length:Nat):Int)] 3 (0,0)):=by
  rw[jw,eu,HZ.out];simp
 refine⟨rfl,p,?_,hxe,hxe,hI.ge,hI.dark,fun j hj=>(by have:=hI.lt j hj;have:=hx0.size;omega),hb3⟩;refine aZ.keep (by have:=hx0.size;omega) fun k hk hpk=>⟨?_,hpk⟩;have hkB:k≠B:=fun h=>by subst h;rw[hI.dark]at hpk;cases hpk
 rw[hw3 k hkB];exact hx0.block hk
theorem GD(u:av)(r:aB)(w:World)(hr:Reads w u r)(hok:dI u):
 Calls prog 97 #[.agg r.cells.toArray] w fun e w'=>e=.returned (.int .i64 ((cntF u:Nat):Int))/\Ext w w':=by
 have hx0:Ext w ((w.alloc (.cells r.cells.toArray 30)).alloc (.cells #[.int .i64 0] 3)):=((Ext.refl w).alloc _).alloc _;have hsz1:(w.alloc (.cells r.cells.toArray 30)).heap.size=w.heap.size+1:=by simp
 have DT:((w.alloc (.cells r.cells.toArray 30)).alloc (.cells #[.int .i64 0] 3)).heap[w.heap.size+1]? =some (.cells #[.int .i64 0] 3 (0,0)):=by
  have h1:=heap_alloc_new (w.alloc (.cells r.cells.toArray 30)) (.cells #[.int .i64 0] 3)
  rwa[hsz1]at h1
 have hI0:Kv w (w.heap.size+1) (fun j=>decide (j=w.heap.size+1)) [] ((w.alloc (.cells r.cells.toArray 30)).alloc (.cells #[.int .i64 0] 3)):=
  ⟨hx0,by omega,by simp,fun j hj=>by simp at hj;subst hj;exact ay DT,DT⟩
 have hev:=Gz (F:=167) (cs:= #[.pointer (some ⟨w.heap.size+1,0,none⟩)]) (fun _ _=>rfl) (W0:=w) (S:=true) (Inv:=Kv w (w.heap.size+1)) (all:=bO u) (fun _ _ _ h=>h.ext) (fun _ _ _ _ h he=>h.grow he) (fun _ _ _ h=>h.lt)
  (fun p acc x rx w' _ hrx hin hI=>adB w (w.heap.size+1) (bO u) (by rw[nW];exact hok.cnt) p acc x rx w' hin hI)
  _ u r _ [] _ (aI _) hr hok ⟨[],by simp⟩ hI0
 obtain⟨ra,ri,rn,rk,rl,fU,hn,hc,wA,wn,wc,kA,kn,kc⟩:=r;simp only[aB.cells]at hx0 hev⊢;have GA:=ah hev;have GH:=ah (nW u);clear hev hI0 DT hsz1 hr;obtain⟨wz,hwz⟩:=aH ((w.alloc (.cells #[.int .i64 ra,.int .i64 ri,.int .i64 rn,.int .i64 rk,.string rl,.slice fU hn hc,.slice wA wn wc,.slice kA kn kc] 30)).alloc (.cells #[.int .i64 0] 3));rw[hwz]at GA hx0;have LC:=ah hwz;clear hwz;go_enter func97,ntmps97
 go_wp2_with fail
 try rw[LC.out]
 refine(GA.out).mono ?_;rintro e w1 ⟨b1,p1,rfl,-,-,hI1,hS1⟩;have hb1:b1=true:=by simpa using hS1
 subst hb1;replace hI1:=hI1 rfl;have hv1:=hI1.out;rw[jW,GH.out]at hv1;have hx1:=hI1.ext;have hc1:w1.cell? ⟨w.heap.size+1,0,none⟩=some (.int .i64 ((cntF u:Nat):Int)):=by simp[World.cell?,hv1]
 have tq:=ah hx1;clear hI1 hv1 hx1 hS1;go_wp2;go_ret;exact⟨rfl,tq.out⟩
def RU(n:Nat)(w:World)(e:Ending)(w':World):Prop:=∃d:Nat,e=.returned (.int .i64 (d:Int))/\d<=n/\Ext w w'
def NM(N:Nat):Prop:=∀(u:av) (r:aB) (w:World),SizeOf.sizeOf u<=N->Reads w u r->dI u->Calls prog 165 #[.agg r.cells.toArray] w (RU (cntF u) w)
theorem XU(N:Nat)(ih:NM N):NM (N+1):=by
 intro u r w hN hr hok;obtain⟨-,-,-,-,-,-,-,-,-,hkn,hkc,rs,hrs,hall,hrl⟩:=hr.j5;have Ag:=hok.cnt;rw[jR]at Ag;have hkl:=nV u.kids;have iY:=ah (show∀(k:Nat) (h:k<u.kids.length) (h2:k<rs.length) (wq:World),Ext w wq->Calls prog 165 #[.agg rs[k].cells.toArray] wq (RU (bZ u.kids) wq)from fun k h h2 wq hq=>(ih u.kids[k] rs[k] wq (qO hN h) (Reads.ext hq _ _ (ReadsAll.get hall k h h2)) (hok.kid (dW h))).mono (fun e w' ⟨d,h1,h3,h4⟩=>⟨d,h1,bX h3 (Ep (dW h)),h4⟩));rw[jR u];have hb:=rE.new r w;have hx0:Ext w (w.alloc (.cells r.cells.toArray 30)):=(Ext.refl w).alloc _;obtain⟨M,hM⟩:=aH (bZ u.kids);rw[hM]at iY hkl Ag⊢;obtain⟨ra,ri,rn,rk,rl,fU,hn,hc,wA,wn,wc,kA,kn,kc⟩:=r;dsimp only at hkn hkc hrs;rw[<-hrl]at hkn hkc;subst hkn;simp only[aB.cells]at hb hx0 iY⊢;obtain⟨wb,hwb⟩:=aH (w.alloc (.cells #[.int .i64 ra,.int .i64 ri,.int .i64 rn,.int .i64 rk,.string rl,.slice fU hn hc,.slice wA wn wc,.slice kA rs.length kc] 30));rw[hwb]at hb hx0;obtain⟨kl,hkk⟩:=aH (u.kids.length);have hrb:rs.length<=1000:=by omega
 have Hrl:=ah hrl;have jv:=ah hx0;have pK:=ah (hrs.ext hx0);have c7:=hb.c7;dsimp only at c7;clear hN hr hok hkc hrs hall hrl hb hx0 hkk ih hkl;go_enter func165,ntmps165
 go_wp2
 go_loopw [3,9] (fun vd vk wr=>∃(d k:Nat),k<=rs.length/\vk=.int .i64 (k:Nat)/\vd=.int .i64 (d:Nat)/\d<=M+1/\Ext wb wr) (fun _ vk _=>rs.length-(intOf vk).toNat)
 case atStart=>exact⟨0,0,bI _,rfl,rfl,by omega,Ext.refl _⟩
 case round=>
  obtain⟨d,k,hk,rfl,rfl,hd,hext⟩:=hrel;by_cases hlt:k<rs.length
  ·obtain⟨q,hq⟩:=aH (rs[k])
   obtain⟨b,off,lI,hbk,u0,u1,u2,u3,u4,u5,u6,u7⟩:=qb (pK.out.ext hext) hlt hq;subst lI;have hxa:Ext wr (wr.alloc (.cells #[.int .i64 q.a,.int .i64 q.i,.int .i64 q.n,.int .i64 q.kind,.string q.label,.slice q.hA q.hn q.hc,.slice q.wA q.wn q.wc,.slice q.kA q.kn q.kc] 30)):=(Ext.refl _).alloc _;have hrec:=iY.out k (by rw[<-Hrl.out];exact hlt) hlt (wr.alloc (.cells #[.int .i64 q.a,.int .i64 q.i,.int .i64 q.n,.int .i64 q.kind,.string q.label,.slice q.hA q.hn q.hc,.slice q.wA q.wn q.wc,.slice q.kA q.kn q.kc] 30)) ((jv.out.trans hext).trans hxa);simp only[hq]at hrec;have ana:=ah hrec;have aqY:=ah (hext.trans hxa);have d1:=eY k rs.length;clear hrec hq hxa hext;go_wp2_with fail
   refine(ana.out).mono ?_;rintro e w2 ⟨d2,rfl,hd2,hx2⟩;have eD:=ah hx2;clear hx2 u0 u1 u2 u3 u4 u5 u6 u7;go_wp2;go_roundw
   case rel=>exact⟨max d (1+d2),k+1,by omega,by go_num,by go_num,by omega,aqY.out.trans eD.out⟩
   case measure=>simp[intOf];omega
  ·have d1:=fT k rs.length
   go_wp2;go_ret;exact⟨_,rfl,by omega,jv.out.trans hext⟩
theorem OZ:∀N,NM N
 |0=>fun u _ _ h=>(xI h).elim
 |N+1=>XU N (OZ N)
theorem O0(u:av)(r:aB)(w:World)(hr:Reads w u r)(hok:dI u):Calls prog 165 #[.agg r.cells.toArray] w (RU (cntF u) w):=OZ _ u r w (aI _) hr hok
def TLe(n:Nat):Ty:=⟨fun v _=>∃k:Nat,v=.int .i64 (k:Nat)/\k<=n,fun _ _ _ _ h=>h⟩
def jU(p:Prop):Ty:=⟨fun v _=>∃b:Bool,v=.bool b/\(p->b=false),fun _ _ _ _ h=>h⟩
def ajf(n:Nat):Ty:=⟨fun v _=>∃(A:Option Addr) (k c:Nat),v=.slice A k c/\k<=n,fun _ _ _ _ h=>h⟩
theorem RX(u x:av)(r q:aB)(id:bf)(w:World)(hr:Reads w u r)(hok:dI u)(hq:Reads w x q)(hxo:dI x):
 Calls prog 96 #[.agg r.cells.toArray,.agg id.cells.toArray,.agg q.cells.toArray] w fun e w'=>∃b:Bool,e=.returned (.bool b)/\((cZ id u).length+1+cntF x<=8->b=false)/\Ext w w':=by
 have Ls:=ah (fun wq (he:Ext w wq)=>FB u r id wq (Reads.ext he u r hr) hok);have Hde:=ah (fun wq (he:Ext w wq)=>O0 x q wq (Reads.ext he x q hq) hxo);have hwl:=bX (vM id u) hok.cnt;have hcx:=hxo.cnt;obtain⟨W,hW⟩:=aH ((cZ id u).length);obtain⟨X,hX⟩:=aH (cntF x);rw[hW]at hwl⊢;rw[hX]at hcx⊢;have HW:=ah hW;have HX:=ah hX;clear hr hq hok hxo hW hX;go_enter func96,ntmps96
 go_upto_region 1 with(first|(refine aG aj (.tmp 0) rfl rfl r rfl fun wA aR bG bB aO=> ?_)|(refine aG aM (.tmp 1) rfl rfl id rfl fun wB eH ji hkB eG=> ?_)|(refine aG aj (.tmp 2) rfl rfl q rfl fun wC dD jK fE oW=> ?_))
 have Hx:=ah (aR.trans (eH.trans dD));have Hb3:=ah (show∀wq,Ext wC wq->(aK (aj.E r)).p (.pointer (some ⟨w.heap.size,0,none⟩)) wq from fun wq he=>⟨w.heap.size,0,rfl,bQ (ay bB) (eH.trans (dD.trans he)).size,fun j u hu=>aO.ext (eH.trans (dD.trans he)) (ay bB) j u hu⟩);have Hb4:=ah (show∀wq,Ext wC wq->(aK (aM.E id)).p (.pointer (some ⟨w.heap.size+1,0,none⟩)) wq from by rw[<-bG];exact fun wq he=>⟨wA.heap.size,0,rfl,bQ (ay hkB) (dD.trans he).size,fun j u hu=>eG.ext (dD.trans he) (ay hkB) j u hu⟩);have Hb5:=ah (show∀wq,Ext wC wq->(aK (aj.E q)).p (.pointer (some ⟨w.heap.size+1+1,0,none⟩)) wq from by rw[<-bG,<-ji];exact fun wq he=>⟨wB.heap.size,0,rfl,bQ (ay fE) he.size,fun j u hu=>oW.ext he (ay fE) j u hu⟩);clear aR bG bB aO eH ji hkB eG dD jK fE oW;refine iw (by kernel_rfl) (fun i=>match i with|0=>Ty.is (.agg (aj.E r).toArray)|1=>Ty.is (.agg (aM.E id).toArray)|2=>ajf W|3=>TLe W|4=>TLe (W+1)|5=>Ty.is (.agg (aj.E q).toArray)|6=>TLe X|7=>TLe (W+1+X)|8=>jU (W+1+X<=8)|9=>jU (W+1+X<=8)|_=>Ty.any) (by kernel_rfl) rfl ?_;intro v;refine⟨?_,?_,?_,?_,?_,?_,?_,?_,?_,?_,?_⟩
 ·intro wq hq hd
  exact ak rfl (bU 30 (.tmp 3) rfl isAgg30 8 sizeOf30 (aj.E r) rfl (Hb3.out _ hq) rfl)
 ·intro wq hq hd
  exact ak rfl (bU 26 (.tmp 4) rfl isAgg26 3 sizeOf26 (aM.E id) rfl (Hb4.out _ hq) rfl)
 ·rintro wq hq ⟨h0,h1,-⟩
  change v 0=_ at h0;change v 1=_ at h1;refine ak rfl ?_;refine fC 164 call164 _ _ rfl rfl [_,_] ⟨h0,h1,trivial⟩ ?_;refine(Ls.out wq (Hx.out.trans hq)).mono ?_;rintro e w' ⟨vv,xs,rfl,hl,hown,hx⟩;obtain⟨A,c,rfl,-,-⟩:=hown.form;exact⟨_,rfl,hx,A,_,c,rfl,by rw[<-HW.out];exact hl.2⟩
 ·rintro wq hq ⟨⟨A,k,c,h0,h1⟩,-⟩
  refine ak rfl ?_;exact Bg (.tmp 9) 143 _ underlying143 rfl _ _ _ h0 ⟨k,rfl,h1⟩
 ·rintro wq hq ⟨⟨k,h0,h1⟩,-⟩;exact ak rfl (eF .add 3 3 (.tmp 10) (.const (.int .i64 1)) rfl _ _ h0 rfl (fun w=>(oF _ _ _ (by omega) (by omega) w)) ⟨k+1,by simp,by omega⟩)
 ·intro wq hq hd
  exact ak rfl (bU 30 (.tmp 5) rfl isAgg30 8 sizeOf30 (aj.E q) rfl (Hb5.out _ hq) rfl)
 ·rintro wq hq ⟨h0,-⟩
  change v 5=_ at h0;refine ak rfl ?_;refine fC 165 call165 _ _ rfl rfl [_] ⟨h0,trivial⟩ ?_;refine(Hde.out wq (Hx.out.trans hq)).mono ?_;rintro e w' ⟨d,rfl,hl,hx⟩;exact⟨_,rfl,hx,d,rfl,by rw[<-HX.out];exact hl⟩
 ·rintro wq hq ⟨⟨k,h0,h1⟩,⟨k2,h2,h3⟩,-⟩;exact ak rfl (eF .add 3 3 (.tmp 11) (.tmp 13) rfl _ _ h0 h2 (fun w=>(oF _ _ _ (by omega) (by omega) w)) ⟨k+k2,by simp,by omega⟩)
 ·rintro wq hq ⟨⟨k,h0,h1⟩,-⟩;exact ak rfl (eF .gtr 3 3 (.tmp 14) (.const (.int .i64 8)) rfl _ _ h0 rfl (rV _ _ _) ⟨_,rfl,fun h=>aY (by omega)⟩)
 ·rintro wq hq ⟨⟨b,h0,h1⟩,-⟩
  refine ak rfl ?_;exact jY (.tmp 15) rfl h0 ⟨b,rfl,h1⟩
 ·intro wq hq hT
  obtain⟨b,k9,hb⟩:=(show(jU (W+1+X<=8)).p (v 9) wq from hT 9 (by decide));clear hT;simp only[List.drop_succ_cons,List.drop_zero,gH,dK,List.set_cons_succ,List.set_cons_zero,Nat.reduceAdd];rw[k9];go_wp2;go_ret;exact⟨b,rfl,hb,Hx.out.trans hq⟩
theorem Kw{α:Type}(q:α->Bool)(xs:List α):decide (0<=gI q xs 0)=xs.any q:=by
 have go:∀(xs:List α) (k:Nat),decide (0<=gI q xs k)=xs.any q:=by
  intro xs
  induction xs with
  |nil=>intro k;simp[gI]
  |cons x xs ih=>
   intro k;rw[gI,List.any_cons];by_cases h:q x=true
   ·rw[bH h,h]
    simp
   ·rw[aU h,ih (k+1)]
    simp[h]
 exact go xs 0
theorem aam(F:FuncId)(cs:Array Value)(hF:∀args w,(callFunc F args).run prog w=.ok (.enter F args) w)(xs:List aB)(A:Option Addr)(c:Nat)(q:aB->Bool)(w:World)(hs:Sl aj w A xs)(hn:xs.length<=100000)
 (hq:∀(k:Nat) (h:k<xs.length) (wq:World),Ext w wq->Calls prog F (#[.agg (aj.E xs[k]).toArray]++cs) wq fun e w'=>e=.returned (.bool (q xs[k]))/\Ext wq w'):
 Calls prog 179 #[.slice A xs.length c,.func (.func F) #[] cs] w fun e w'=>e=.returned (.int .i64 (gI q xs 0))/\Ext w w':=by
 obtain⟨R,hR⟩:=aH (gI q xs 0);have HR:Hid (gI q (xs.drop 0) 0=R):=ah hR;rw[hR];have Hq:=ah hq;clear hR hq;go_enter func179,ntmps179
 go_wp2
 go_loopw [5,8] (fun _ vk wr=>∃k:Nat,k<=xs.length/\vk=.int .i64 (k:Nat)/\Hid (gI q (xs.drop k) k=R)/\Ext w wr) (fun _ vk _=>xs.length-(intOf vk).toNat)
 case atStart=>exact⟨0,bI _,rfl,HR,Ext.refl _⟩
 case round=>
  obtain⟨k,hk,rfl,Hk,hext⟩:=hrel;by_cases hlt:k<xs.length
  ·have hk2:=Hk.out
   rw[zC hlt]at hk2;have hc2:=Hq.out k hlt wr hext;obtain⟨b,off,hA,hb,hcs⟩:=(hs.ext hext).at_ hlt;obtain⟨y,hy⟩:=aH (xs[k]);rw[hy]at hc2 hk2 hcs;have jD:=ah (show At wr b (off+k*8) (aj.E y)from hcs);obtain⟨N,hN⟩:=aH (q y);rw[hN]at hc2 hk2;have sQ:=ah hc2;have HA:=ah hA;have d1:=eY k xs.length;clear hy hN hc2 hcs hA;rw[HA.out];cases N with
   |true=>
    have og:=ah (show(k:Int)=R from hk2);clear hk2;go_wp2_with (((with_reducible refine au aj (.tmp 14) ?_ ?_ ?_ b (off+k*8) ?_ y ?_ ?_);rfl;rfl;rfl;rfl;exact jD.out))
    refine(sQ.out).mono ?_;rintro e w2 ⟨rfl,hx2⟩;go_wp2;go_ret;exact⟨qD og.out,hext.trans hx2⟩
   |false=>
    have og:=ah (show gI q (xs.drop (k+1)) (k+1)=R from hk2);clear hk2;go_wp2_with (((with_reducible refine au aj (.tmp 14) ?_ ?_ ?_ b (off+k*8) ?_ y ?_ ?_);rfl;rfl;rfl;rfl;exact jD.out))
    refine(sQ.out).mono ?_;rintro e w2 ⟨rfl,hx2⟩;go_wp2;go_roundw
    case rel=>exact⟨k+1,by omega,by go_num,og,hext.trans hx2⟩
    case measure=>simp[intOf];omega
  ·have hk2:=Hk.out
   rw[mH (by omega),gI]at hk2;have og:=ah hk2;clear hk2;have d1:=fT k xs.length;go_wp2;go_ret;exact⟨qD og.out,hext⟩
theorem aan(F:FuncId)(cs:Array Value)(hF:∀args w,(callFunc F args).run prog w=.ok (.enter F args) w)(xs:List aB)(A:Option Addr)(c:Nat)(q:aB->Bool)(w:World)(hs:Sl aj w A xs)(hn:xs.length<=100000)
 (hq:∀(k:Nat) (h:k<xs.length) (wq:World),Ext w wq->Calls prog F (#[.agg (aj.E xs[k]).toArray]++cs) wq fun e w'=>e=.returned (.bool (q xs[k]))/\Ext wq w'):
 Calls prog 162 #[.slice A xs.length c,.func (.func F) #[] cs] w fun e w'=>e=.returned (.bool (xs.any q))/\Ext w w':=by
 have Hi:=ah (aam F cs hF xs A c q w hs hn hq);have Ha:=ah (Kw q xs);clear hs hq;obtain⟨z,hz⟩:=aH (gI q xs 0);rw[hz]at Hi Ha;rw[<-Ha.out];clear hz Ha;go_enter func162,ntmps162
 go_wp2_with fail
 refine Hi.out.mono ?_;rintro e w2 ⟨rfl,hx2⟩;by_cases h0:0<=z
 ·have d1:decide (0<=z)=true:=bJ h0
  have d2:decide (z≥0)=true:=bJ h0;have H0:=ah h0;clear h0;go_wp2;go_ret;exact⟨by have h:=H0.out;simp[h],hx2⟩
 ·have d1:decide (0<=z)=false:=aY h0
  have d2:decide (z≥0)=false:=aY h0;have H0:=ah h0;clear h0;go_wp2;go_ret;exact⟨by have h:=H0.out;simp[h],hx2⟩
theorem aao(F:FuncId)(cs:Array Value)(hF:∀args w,(callFunc F args).run prog w=.ok (.enter F args) w)(xs:List bf)(A:Option Addr)(c:Nat)(q:bf->Bool)(w:World)(hs:Sl aM w A xs)(hn:xs.length<=100000)
 (hq:∀(k:Nat) (h:k<xs.length) (wq:World),Ext w wq->Calls prog F (#[.agg (aM.E xs[k]).toArray]++cs) wq fun e w'=>e=.returned (.bool (q xs[k]))/\Ext wq w'):
 Calls prog 169 #[.slice A xs.length c,.func (.func F) #[] cs] w fun e w'=>e=.returned (.int .i64 (gI q xs 0))/\Ext w w':=by
 obtain⟨R,hR⟩:=aH (gI q xs 0);have HR:Hid (gI q (xs.drop 0) 0=R):=ah hR;rw[hR];have Hq:=ah hq;clear hR hq;go_enter func169,ntmps169
 go_wp2
 go_loopw [5,8] (fun _ vk wr=>∃k:Nat,k<=xs.length/\vk=.int .i64 (k:Nat)/\Hid (gI q (xs.drop k) k=R)/\Ext w wr) (fun _ vk _=>xs.length-(intOf vk).toNat)
 case atStart=>exact⟨0,bI _,rfl,HR,Ext.refl _⟩
 case round=>
  obtain⟨k,hk,rfl,Hk,hext⟩:=hrel;by_cases hlt:k<xs.length
  ·have hk2:=Hk.out
   rw[zC hlt]at hk2;have hc2:=Hq.out k hlt wr hext;obtain⟨b,off,hA,hb,hcs⟩:=(hs.ext hext).at_ hlt;obtain⟨y,hy⟩:=aH (xs[k]);rw[hy]at hc2 hk2 hcs;have jD:=ah (show At wr b (off+k*3) (aM.E y)from hcs);obtain⟨N,hN⟩:=aH (q y);rw[hN]at hc2 hk2;have sQ:=ah hc2;have HA:=ah hA;have d1:=eY k xs.length;clear hy hN hc2 hcs hA;rw[HA.out];cases N with
   |true=>
    have og:=ah (show(k:Int)=R from hk2);clear hk2;go_wp2_with (((with_reducible refine au aM (.tmp 14) ?_ ?_ ?_ b (off+k*3) ?_ y ?_ ?_);rfl;rfl;rfl;rfl;exact jD.out))
    refine(sQ.out).mono ?_;rintro e w2 ⟨rfl,hx2⟩;go_wp2;go_ret;exact⟨qD og.out,hext.trans hx2⟩
   |false=>
    have og:=ah (show gI q (xs.drop (k+1)) (k+1)=R from hk2);clear hk2;go_wp2_with (((with_reducible refine au aM (.tmp 14) ?_ ?_ ?_ b (off+k*3) ?_ y ?_ ?_);rfl;rfl;rfl;rfl;exact jD.out))
    refine(sQ.out).mono ?_;rintro e w2 ⟨rfl,hx2⟩;go_wp2;go_roundw
    case rel=>exact⟨k+1,by omega,by go_num,og,hext.trans hx2⟩
    case measure=>simp[intOf];omega
  ·have hk2:=Hk.out
   rw[mH (by omega),gI]at hk2;have og:=ah hk2;clear hk2;have d1:=fT k xs.length;go_wp2;go_ret;exact⟨qD og.out,hext⟩
theorem aap(F:FuncId)(cs:Array Value)(hF:∀args w,(callFunc F args).run prog w=.ok (.enter F args) w)(xs:List bf)(A:Option Addr)(c:Nat)(q:bf->Bool)(w:World)(hs:Sl aM w A xs)(hn:xs.length<=100000)
 (hq:∀(k:Nat) (h:k<xs.length) (wq:World),Ext w wq->Calls prog F (#[.agg (aM.E xs[k]).toArray]++cs) wq fun e w'=>e=.returned (.bool (q xs[k]))/\Ext wq w'):
 Calls prog 99 #[.slice A xs.length c,.func (.func F) #[] cs] w fun e w'=>e=.returned (.bool (xs.any q))/\Ext w w':=by
 have Hi:=ah (aao F cs hF xs A c q w hs hn hq);have Ha:=ah (Kw q xs);clear hs hq;obtain⟨z,hz⟩:=aH (gI q xs 0);rw[hz]at Hi Ha;rw[<-Ha.out];clear hz Ha;go_enter func99,ntmps99
 go_wp2_with fail
 refine Hi.out.mono ?_;rintro e w2 ⟨rfl,hx2⟩;by_cases h0:0<=z
 ·have d1:decide (0<=z)=true:=bJ h0
  have d2:decide (z≥0)=true:=bJ h0;have H0:=ah h0;clear h0;go_wp2;go_ret;exact⟨by have h:=H0.out;simp[h],hx2⟩
 ·have d1:decide (0<=z)=false:=aY h0
  have d2:decide (z≥0)=false:=aY h0;have H0:=ah h0;clear h0;go_wp2;go_ret;exact⟨by have h:=H0.out;simp[h],hx2⟩
theorem rW(a b:ByteArray):(a.toList==b.toList)=decide (a=b):=by
 by_cases h:a=b
 ·subst h;simp
 ·have:a.toList≠b.toList:=fun e=>h (bytes_inj e)
  simp[h,this]
end Go.Proofs.YtgboomjahhnldaaGreatDoor
namespace Go.Proofs
open Go.Shelf
def Tryz.lays156_ren:Go.Shelf.Ren:=⟨fun|156=>210|165=>238|166=>239|169=>240|240=>264|241=>265|276=>278|277=>279|n=>n,fun|31=>37|9=>9|3=>3|4=>4|0=>0|20=>20|72=>272|76=>276|70=>269|37=>270|75=>275|127=>293|164=>312|5=>5|80=>278|n=>n,fun|n=>n⟩
theorem Tryz.lays156:Go.Proofs.Lays.n156 prog Tryz.lays156_ren:={
 mixed:=by kernel_rfl
 f156:=func210.trans (congrArg some (by kernel_rfl))
 f165:=func238.trans (congrArg some (by kernel_rfl))
 f166:=func239.trans (congrArg some (by kernel_rfl))
 f169:=func240.trans (congrArg some (by kernel_rfl))
 f240:=func264.trans (congrArg some (by kernel_rfl))
 f241:=func265.trans (congrArg some (by kernel_rfl))
 f276:=func278.trans (congrArg some (by kernel_rfl))
 f277:=func279.trans (congrArg some (by kernel_rfl))
 t0:=underlying0
 a0:=isAgg0
 z0:=sizeOf0
 v0:=Tryz.zeroValue0
 t3:=underlying3
 a3:=isAgg3
 z3:=sizeOf3
 v3:=Tryz.zeroValue3
 t4:=underlying4
 a4:=isAgg4
 z4:=sizeOf4
 v4:=Tryz.zeroValue4
 t9:=underlying9
 a9:=isAgg9
 z9:=sizeOf9
 v9:=Tryz.zeroValue9
 t20:=underlying20
 a20:=isAgg20
 z20:=sizeOf20
 v20:=Tryz.zeroValue20
 t31:=underlying37
 a31:=isAgg37
 z31:=sizeOf37
 v31:=Tryz.zeroValue37
 t37:=underlying270
 a37:=isAgg270
 z37:=sizeOf270
 v37:=Tryz.zeroValue270
 t70:=underlying269
 a70:=isAgg269
 z70:=sizeOf269
 v70:=Tryz.zeroValue269
 t72:=underlying272
 a72:=isAgg272
 z72:=sizeOf272
 v72:=Tryz.zeroValue272
 t75:=underlying275
 a75:=isAgg275
 z75:=sizeOf275
 v75:=Tryz.zeroValue275
 t76:=underlying276
 a76:=isAgg276
 z76:=sizeOf276
 v76:=Tryz.zeroValue276
 t127:=underlying293
 a127:=isAgg293
 z127:=sizeOf293
 v127:=Tryz.zeroValue293
 t164:=underlying312
 a164:=isAgg312
 z164:=sizeOf312
 v164:=Tryz.zeroValue312}
theorem Tryz.Builder_Extra_156:Builder.Extra prog Tryz.lays156_ren:={
 sizeBuilder:=by kernel_rfl
 liesBuilder:=by kernel_rfl
 t5:=underlying5
 a5:=isAgg5
 z5:=sizeOf5
 v5:=Tryz.zeroValue5
 infoByte:=by kernel_rfl
 cellsByte:=by kernel_rfl
 sizeByte:=by kernel_rfl
 neB5:=by decide}
open Go.RowKit in
theorem Tryz.strings_Join(bk o c:Nat)(xs:List ByteArray)(sep:ByteArray)(w:World)(hcells:∀(j:Nat) x,xs[j]? =some x->w.cell? ⟨bk,o+j,none⟩=some (.string x))(hbk:bk<w.heap.size)(hN:xs.length<=140737488355328)(hcap:xs.length<=c)(hlen:(Lib.join (xs.map (·.data.toList)) sep.data.toList).length<=140737488355328):
 Calls prog 210 #[.slice (some ⟨bk,o,none⟩) xs.length c,.string sep] w fun e w'=>e=.returned (.string ⟨(Lib.join (xs.map (·.data.toList)) sep.data.toList).toArray⟩)/\Below w.heap.size w w':=Any.strings_Join Tryz.lays156 Tryz.Builder_Extra_156 bk o c xs sep w hcells hbk hN hcap hlen
def Tryz.lays160_ren:Go.Shelf.Ren:=⟨fun|160=>141|232=>188|231=>187|227=>189|234=>191|233=>190|236=>193|235=>192|228=>220|271=>223|151=>222|197=>221|120=>250|152=>249|260=>248|137=>268|119=>269|224=>270|225=>271|217=>280|266=>285|n=>n,fun|9=>9|4=>4|3=>3|5=>5|117=>230|116=>229|0=>0|124=>233|21=>21|105=>258|46=>130|119=>299|139=>302|138=>301|n=>n,fun|3=>2|4=>3|n=>n⟩
theorem Tryz.lays160:Go.Proofs.Lays.n160 prog Tryz.lays160_ren:={
 mixed:=by kernel_rfl
 f119:=func269.trans (congrArg some (by kernel_rfl))
 f120:=func250.trans (congrArg some (by kernel_rfl))
 f137:=func268.trans (congrArg some (by kernel_rfl))
 f151:=func222.trans (congrArg some (by kernel_rfl))
 f152:=func249.trans (congrArg some (by kernel_rfl))
 f160:=func141.trans (congrArg some (by kernel_rfl))
 f197:=func221.trans (congrArg some (by kernel_rfl))
 f217:=func280.trans (congrArg some (by kernel_rfl))
 f224:=func270.trans (congrArg some (by kernel_rfl))
 f225:=func271.trans (congrArg some (by kernel_rfl))
 f227:=func189.trans (congrArg some (by kernel_rfl))
 f228:=func220.trans (congrArg some (by kernel_rfl))
 f231:=func187.trans (congrArg some (by kernel_rfl))
 f232:=func188.trans (congrArg some (by kernel_rfl))
 f233:=func190.trans (congrArg some (by kernel_rfl))
 f234:=func191.trans (congrArg some (by kernel_rfl))
 f235:=func192.trans (congrArg some (by kernel_rfl))
 f236:=func193.trans (congrArg some (by kernel_rfl))
 f260:=func248.trans (congrArg some (by kernel_rfl))
 f266:=func285.trans (congrArg some (by kernel_rfl))
 f271:=func223.trans (congrArg some (by kernel_rfl))
 t0:=underlying0
 a0:=isAgg0
 z0:=sizeOf0
 v0:=Tryz.zeroValue0
 t3:=underlying3
 a3:=isAgg3
 z3:=sizeOf3
 v3:=Tryz.zeroValue3
 t4:=underlying4
 a4:=isAgg4
 z4:=sizeOf4
 v4:=Tryz.zeroValue4
 t5:=underlying5
 a5:=isAgg5
 z5:=sizeOf5
 v5:=Tryz.zeroValue5
 t9:=underlying9
 a9:=isAgg9
 z9:=sizeOf9
 v9:=Tryz.zeroValue9
 t21:=underlying21
 a21:=isAgg21
 z21:=sizeOf21
 v21:=Tryz.zeroValue21
 t46:=underlying130
 a46:=isAgg130
 z46:=sizeOf130
 v46:=Tryz.zeroValue130
 t105:=underlying258
 a105:=isAgg258
 z105:=sizeOf258
 v105:=Tryz.zeroValue258
 t116:=underlying229
 a116:=isAgg229
 z116:=sizeOf229
 t117:=underlying230
 a117:=isAgg230
 z117:=sizeOf230
 v117:=Tryz.zeroValue230
 t119:=underlying299
 a119:=isAgg299
 z119:=sizeOf299
 t124:=underlying233
 a124:=isAgg233
 z124:=sizeOf233
 v124:=Tryz.zeroValue233
 t138:=underlying301
 a138:=isAgg301
 z138:=sizeOf301
 v138:=Tryz.zeroValue301
 t139:=underlying302
 a139:=isAgg302
 z139:=sizeOf302
 v139:=Tryz.zeroValue302
 g3:=by kernel_rfl
 g4:=by kernel_rfl}
def Tryz.lays122_ren:Go.Shelf.Ren:=⟨fun|122=>36|215=>43|n=>n,fun|3=>3|4=>4|n=>n,fun|n=>n⟩
theorem Tryz.lays122:Go.Proofs.Lays.n122 prog Tryz.lays122_ren:={
 mixed:=by kernel_rfl
 f122:=func36.trans (congrArg some (by kernel_rfl))
 f215:=func43.trans (congrArg some (by kernel_rfl))
 t3:=underlying3
 a3:=isAgg3
 z3:=sizeOf3
 v3:=Tryz.zeroValue3
 t4:=underlying4
 a4:=isAgg4
 z4:=sizeOf4
 v4:=Tryz.zeroValue4}
open Go.RowKit in
theorem Tryz.cmp_Compare_int(x y:Int)(w:World):
 Calls prog 36 #[.int .i64 x,.int .i64 y] w fun e w'=>e=.returned (.int .i64 (Lib.compareInt x y))/\w'=w:=Any.cmp_Compare_int Tryz.lays122 x y w
def Tryz.laysGw15_ren:Go.Shelf.Ren:=⟨fun|15=>218|20=>247|n=>n,fun|9=>9|23=>225|3=>3|4=>4|0=>0|21=>21|n=>n,fun|n=>n⟩
theorem Tryz.laysGw15:Go.Proofs.LaysGw.n15 prog Tryz.laysGw15_ren:={
 mixed:=by kernel_rfl
 f15:=func218.trans (congrArg some (by kernel_rfl))
 f20:=func247.trans (congrArg some (by kernel_rfl))
 t0:=underlying0
 a0:=isAgg0
 z0:=sizeOf0
 v0:=Tryz.zeroValue0
 i0:=by kernel_rfl
 t3:=underlying3
 a3:=isAgg3
 z3:=sizeOf3
 v3:=Tryz.zeroValue3
 i3:=by kernel_rfl
 t4:=underlying4
 a4:=isAgg4
 z4:=sizeOf4
 v4:=Tryz.zeroValue4
 i4:=by kernel_rfl
 t9:=underlying9
 a9:=isAgg9
 z9:=sizeOf9
 v9:=Tryz.zeroValue9
 i9:=by kernel_rfl
 t21:=underlying21
 a21:=isAgg21
 z21:=sizeOf21
 v21:=Tryz.zeroValue21
 i21:=by kernel_rfl
 t23:=underlying225
 a23:=isAgg225
 z23:=sizeOf225
 v23:=Tryz.zeroValue225
 i23:=by kernel_rfl}
def Tryz.laysGw17_ren:Go.Shelf.Ren:=⟨fun|17=>186|15=>218|20=>247|n=>n,fun|9=>9|23=>225|4=>4|3=>3|0=>0|21=>21|n=>n,fun|n=>n⟩
theorem Tryz.laysGw17:Go.Proofs.LaysGw.n17 prog Tryz.laysGw17_ren:={
 mixed:=by kernel_rfl
 f15:=func218.trans (congrArg some (by kernel_rfl))
 f17:=func186.trans (congrArg some (by kernel_rfl))
 f20:=func247.trans (congrArg some (by kernel_rfl))
 t0:=underlying0
 a0:=isAgg0
 z0:=sizeOf0
 v0:=Tryz.zeroValue0
 i0:=by kernel_rfl
 t3:=underlying3
 a3:=isAgg3
 z3:=sizeOf3
 v3:=Tryz.zeroValue3
 i3:=by kernel_rfl
 t4:=underlying4
 a4:=isAgg4
 z4:=sizeOf4
 v4:=Tryz.zeroValue4
 i4:=by kernel_rfl
 t9:=underlying9
 a9:=isAgg9
 z9:=sizeOf9
 v9:=Tryz.zeroValue9
 i9:=by kernel_rfl
 t21:=underlying21
 a21:=isAgg21
 z21:=sizeOf21
 v21:=Tryz.zeroValue21
 i21:=by kernel_rfl
 t23:=underlying225
 a23:=isAgg225
 z23:=sizeOf225
 v23:=Tryz.zeroValue225
 i23:=by kernel_rfl}
def Tryz.lays105_ren:Go.Shelf.Ren:=⟨fun|105=>261|212=>275|99=>276|165=>238|166=>239|170=>277|169=>240|263=>282|264=>283|206=>284|240=>264|241=>265|276=>278|277=>279|n=>n,fun|9=>9|3=>3|4=>4|20=>20|0=>0|46=>130|109=>307|5=>5|72=>272|76=>276|51=>158|146=>316|53=>160|148=>318|70=>269|37=>270|75=>275|127=>293|164=>312|80=>278|n=>n,fun|n=>n⟩
theorem Tryz.lays105:Go.Proofs.Lays.n105 prog Tryz.lays105_ren:={
 mixed:=by kernel_rfl
 f99:=func276.trans (congrArg some (by kernel_rfl))
 f105:=func261.trans (congrArg some (by kernel_rfl))
 f165:=func238.trans (congrArg some (by kernel_rfl))
 f166:=func239.trans (congrArg some (by kernel_rfl))
 f169:=func240.trans (congrArg some (by kernel_rfl))
 f170:=func277.trans (congrArg some (by kernel_rfl))
 f206:=func284.trans (congrArg some (by kernel_rfl))
 f212:=func275.trans (congrArg some (by kernel_rfl))
 f240:=func264.trans (congrArg some (by kernel_rfl))
 f241:=func265.trans (congrArg some (by kernel_rfl))
 f263:=func282.trans (congrArg some (by kernel_rfl))
 f264:=func283.trans (congrArg some (by kernel_rfl))
 f276:=func278.trans (congrArg some (by kernel_rfl))
 f277:=func279.trans (congrArg some (by kernel_rfl))
 t0:=underlying0
 a0:=isAgg0
 z0:=sizeOf0
 v0:=Tryz.zeroValue0
 t3:=underlying3
 a3:=isAgg3
 z3:=sizeOf3
 v3:=Tryz.zeroValue3
 t4:=underlying4
 a4:=isAgg4
 z4:=sizeOf4
 v4:=Tryz.zeroValue4
 t5:=underlying5
 a5:=isAgg5
 z5:=sizeOf5
 v5:=Tryz.zeroValue5
 t9:=underlying9
 a9:=isAgg9
 z9:=sizeOf9
 v9:=Tryz.zeroValue9
 t20:=underlying20
 a20:=isAgg20
 z20:=sizeOf20
 v20:=Tryz.zeroValue20
 t37:=underlying270
 a37:=isAgg270
 z37:=sizeOf270
 v37:=Tryz.zeroValue270
 t46:=underlying130
 a46:=isAgg130
 z46:=sizeOf130
 v46:=Tryz.zeroValue130
 t51:=underlying158
 a51:=isAgg158
 z51:=sizeOf158
 v51:=Tryz.zeroValue158
 t53:=underlying160
 a53:=isAgg160
 z53:=sizeOf160
 v53:=Tryz.zeroValue160
 t70:=underlying269
 a70:=isAgg269
 z70:=sizeOf269
 v70:=Tryz.zeroValue269
 t72:=underlying272
 a72:=isAgg272
 z72:=sizeOf272
 v72:=Tryz.zeroValue272
 t75:=underlying275
 a75:=isAgg275
 z75:=sizeOf275
 v75:=Tryz.zeroValue275
 t76:=underlying276
 a76:=isAgg276
 z76:=sizeOf276
 v76:=Tryz.zeroValue276
 t109:=underlying307
 a109:=isAgg307
 z109:=sizeOf307
 v109:=Tryz.zeroValue307
 t127:=underlying293
 a127:=isAgg293
 z127:=sizeOf293
 v127:=Tryz.zeroValue293
 t146:=underlying316
 a146:=isAgg316
 z146:=sizeOf316
 v146:=Tryz.zeroValue316
 t148:=underlying318
 a148:=isAgg318
 z148:=sizeOf318
 v148:=Tryz.zeroValue318
 t164:=underlying312
 a164:=isAgg312
 z164:=sizeOf312
 v164:=Tryz.zeroValue312}
theorem Tryz.Builder_Extra_105:Builder.Extra prog Tryz.lays105_ren:={
 sizeBuilder:=by kernel_rfl
 liesBuilder:=by kernel_rfl
 t5:=underlying5
 a5:=isAgg5
 z5:=sizeOf5
 v5:=Tryz.zeroValue5
 infoByte:=by kernel_rfl
 cellsByte:=by kernel_rfl
 sizeByte:=by kernel_rfl
 neB5:=by decide}
open Go.RowKit Go.Lib in
theorem Tryz.strings_Repeat(s:ByteArray)(c:Nat)(w:World)(hc:c<=9223372036854775807)(hlen:s.size*c<=140737488355328):
 Calls prog 261 #[.string s,.int .i64 c] w fun e w'=>e=.returned (.string ⟨(Lib.repeatL s.data.toList c).toArray⟩)/\Below w.heap.size w w':=Any.strings_Repeat Tryz.lays105 Tryz.Builder_Extra_105 s c w hc hlen
open Go.RowKit Go.Lib in
theorem Tryz.strings_IndexFunc_grows(g:Nat)(lb:Array Value)(eg:∀args w,(callFunc g args).run prog w=.ok (.enter g args) w)(p:Nat->Bool)(s:ByteArray)(w:World)(hp:PredGrows prog g lb p w):
 Calls prog 218 #[.string s,.func (.func g) #[] lb] w fun e w'=>e=.returned (.int .i64 (Lib.idxFunc p true s))/\Below w.heap.size w w':=Any.strings_IndexFunc_grows Tryz.laysGw15 g lb eg p s w hp
open Go.RowKit Go.Lib in
theorem Tryz.strings_ContainsFunc_grows(g:Nat)(lb:Array Value)(eg:∀args w,(callFunc g args).run prog w=.ok (.enter g args) w)(p:Nat->Bool)(s:ByteArray)(w:World)(hp:PredGrows prog g lb p w):
 Calls prog 186 #[.string s,.func (.func g) #[] lb] w fun e w'=>e=.returned (.bool (decide (0<=Lib.idxFunc p true s)))/\Below w.heap.size w w':=Any.strings_ContainsFunc_grows Tryz.laysGw17 g lb eg p s w hp
def Tryz.laysNm220_ren:Go.Shelf.Ren:=⟨fun|20=>201|n=>n,fun|22=>103|3=>3|4=>4|0=>0|n=>n,fun|n=>n⟩
theorem Tryz.laysNm220:Go.Proofs.Lays2.n20 prog Tryz.laysNm220_ren:={
 mixed:=by kernel_rfl
 f20:=func201.trans (congrArg some (by kernel_rfl))
 t0:=underlying0
 a0:=isAgg0
 z0:=sizeOf0
 v0:=Tryz.zeroValue0
 t3:=underlying3
 a3:=isAgg3
 z3:=sizeOf3
 v3:=Tryz.zeroValue3
 t4:=underlying4
 a4:=isAgg4
 z4:=sizeOf4
 v4:=Tryz.zeroValue4
 t22:=underlying103
 a22:=isAgg103
 z22:=sizeOf103
 v22:=Tryz.zeroValue103
 i3:=by kernel_rfl}
open Go.RowKit Go.Lib Go.Sort in
theorem Tryz.slices_Compact_int(blk off cap:Nat)(zs:List Int)(w:World)(hH:Holds (Value.int .i64) w blk off zs.toArray)(hsz:zs.length<=9223372036854775807)(hcap:zs.length<=cap):
 Calls prog 201 #[.slice (some ⟨blk,off,none⟩) zs.length cap] w fun e w'=>e=.returned (.slice (some ⟨blk,off,none⟩) (Lib.compact zs).length cap)/\∃q,w'=putRow (Value.int .i64) (Sort.ahead w q) blk off (Lib.compact zs++List.replicate (zs.length-(Lib.compact zs).length) 0).toArray:=Any.slices_Compact_int Tryz.laysNm220 blk off cap zs w hH hsz hcap
open Go.RowKit Go.Lib Go.Sort in
theorem Tryz.slices_Compact_int_empty(a:Option Addr)(cap:Nat)(w:World):
 Calls prog 201 #[.slice a 0 cap] w fun e w'=>e=.returned (.slice a 0 cap)/\w'=w:=Any.slices_Compact_int_empty Tryz.laysNm220 a cap w
end Go.Proofs
