/- A part of the proof of TopWritten, printed small: TActs TCorr. -/
import Derived.Test.YtgboomjahhnldaaGreatDoorZ19
set_option maxRecDepth 100000
set_option maxHeartbeats 25600000
set_option linter.all false
namespace Go.Proofs.YtgboomjahhnldaaGreatDoor
open Go.Proofs.Tryz Go.RowKit
theorem Yf(fv:Value)(w:World):Calls prog 56 #[.slice none 0 0,.int .i64 0,.int .i64 0,fv] w fun e w'=>e=.returned (.tuple #[])/\w'=w:=by
 go_enter func56,ntmps56
 go_wp2
 go_loopw [8] (fun vi wr=>vi=.int .i64 1/\wr=w) (fun _ _=>0)
 case atStart=>exact⟨rfl,rfl⟩
 case round=>
  obtain⟨rfl,rfl⟩:=hrel;go_wp2;exact bodyPost_end (results_none rfl _ _ _) rfl ⟨rfl,rfl⟩
theorem Qt(fv:Value)(w:World):Calls prog 42 #[.slice none 0 0,.int .i64 0,fv] w fun e w'=>e=.returned (.tuple #[])/\w'=w:=by
 have Hi:=ah (Yf fv w);go_enter func42,ntmps42
 go_wp2_with fail
 go_loopw [7,8] (fun va vb wr=>va=.int .i64 0/\vb=.int .i64 20/\wr=w) (fun _ _ _=>0)
 case atStart=>exact⟨rfl,rfl,rfl⟩
 case round=>
  obtain⟨rfl,rfl,rfl⟩:=hrel;go_wp2_with fail
  refine(Hi.out).mono ?_;rintro e w2 ⟨rfl,rfl⟩;go_wp2
  go_loopw [6] (fun va wr=>va=.int .i64 20/\wr=w2) (fun _ _=>0)
  case atStart=>exact⟨rfl,rfl⟩
  case round=>
   obtain⟨rfl,rfl⟩:=hrel;go_wp2;exact bodyPost_end (results_none rfl _ _ _) rfl ⟨rfl,rfl⟩
theorem Vu(fv:Value)(w:World):Calls prog 33 #[.slice none 0 0,fv] w fun e w'=>e=.returned (.tuple #[])/\w'=w:=by
 have Hi:=ah (Qt fv w);go_enter func33,ntmps33
 go_wp2_with fail
 refine(Hi.out).mono ?_;rintro e w2 ⟨rfl,rfl⟩;go_wp2;exact bodyPost_end (results_none rfl _ _ _) rfl ⟨rfl,rfl⟩
def rU(x y:bn):Bool:=decide (x.day<y.day∨(x.day=y.day/\x.number<y.number))
theorem SB:Wk rU where
 Lm x:=by simp[rU]
 tr x y z h1 h2:=by simp only[rU,decide_eq_true_eq]at*;omega
 nt x y z h1 h2:=by simp only[rU,decide_eq_false_iff_not]at*;omega
theorem ajS:Wk BR where
 Lm x:=by simp[BR]
 tr x y z h1 h2:=by simp only[BR,decide_eq_true_eq]at*;omega
 nt x y z h1 h2:=by simp only[BR,decide_eq_false_iff_not]at*;omega
def Dk(x:bn):List bn->List bn
 |[]=>[x]
 |y::l=>if rU x y then x::y::l else y::Dk x l
def Md(l:List bn):List bn:=l.foldl (fun acc x=>Dk x acc) []
theorem SC(x:bn):∀{M:List bn},fA rU M->∃B1 B2,M=B1++B2/\Dk x M=B1++x::B2/\(∀y∈B1,rU x y=false)/\(∀y∈B2,rU x y=true)
 |[],_=>⟨[],[],rfl,rfl,by simp,by simp⟩
 |y::l,h=>by
  have hc:=List.pairwise_cons.1 h;cases hxy:rU x y with
  |true=>
   refine⟨[],y::l,rfl,by rw[Dk,hxy];rfl,by simp,fun z hz=> ?_⟩;rcases List.mem_cons.1 hz with rfl|hz
   ·exact hxy
   ·cases hxz:rU x z with
    |true=>rfl
    |false=>have:=SB.nt x z y hxz (hc.1 z hz);rw[hxy]at this;cases this
  |false=>
   obtain⟨B1,B2,h1,h2,h3,h4⟩:=SC x hc.2;refine⟨y::B1,B2,by rw[h1];rfl,by rw[Dk,hxy,h2];rfl,fun z hz=> ?_,h4⟩;rcases List.mem_cons.1 hz with rfl|hz
   ·exact hxy
   ·exact h3 z hz
theorem ahX(x:bn){M:List bn}(h:fA rU M):fA rU (Dk x M)/\SO rU (M++[x]) (Dk x M):=by
 obtain⟨B1,B2,rfl,h2,h3,h4⟩:=SC x h;rw[h2];exact Ki SB h h3 h4
theorem SE:∀(l acc A0:List bn),fA rU acc->SO rU A0 acc->fA rU (l.foldl (fun acc x=>Dk x acc) acc)/\SO rU (A0++l) (l.foldl (fun acc x=>Dk x acc) acc)
 |[],acc,A0,h,h2=>by rw[kY];exact⟨h,h2⟩
 |x::l,acc,A0,h,h2=>by
  have hi:=ahX x h;have:=SE l (Dk x acc) (A0++[x]) hi.1 ((h2.append (SO.refl [x])).trans hi.2)
  rwa[dV]at this
theorem EI(l:List bn):fA rU (Md l)/\SO rU l (Md l):=SE l [] [] fA.nil (SO.refl [])
def mJ(gs:List jJ):List bn:=Md ((kP gs).foldl nY [])
theorem SF{W:World}{ps M:List (bM×bn)}(hrd:∀p∈ps,kS W p.2 p.1)(hs:fA BR M)(ho:SO BR ps M):M.map Prod.snd=Md (ps.map Prod.snd):=by
 have hM:∀p∈M,kS W p.2 p.1:=fun p hp=>hrd p (ho.perm.mem_iff.2 hp)
 have hl:∀p q:bM×bn,kS W p.2 p.1->kS W q.2 q.1->BR p q=rU p.2 q.2:=fun p q h1 h2=>by
  unfold BR rU;rw[h1.day,h1.number,h2.day,h2.number]
 have hs':fA rU (M.map Prod.snd):=by
  unfold fA;rw[List.pairwise_map];refine List.Pairwise.imp_of_mem (fun {p q} hp hq h=> ?_) hs;rw[<-hl q p (hM q hq) (hM p hp)];exact h
 have ho':SO rU (ps.map Prod.snd) (M.map Prod.snd):=by
  refine⟨fun z=> ?_,ho.perm.map _⟩;have hz:=ho.cls (⟨z.number,z.title,z.day,z.sk,z.sd,z.se,none,0,0⟩,z)
  have e:∀l:List (bM×bn),(∀p∈l,kS W p.2 p.1)->(l.map Prod.snd).filter (eqv rU z)=(l.filter (eqv BR (⟨z.number,z.title,z.day,z.sk,z.sd,z.se,none,0,0⟩,z))).map Prod.snd:=fun l hl=>by
   rw[List.filter_map]
   congr 1
   refine List.filter_congr fun p hp=> ?_;have h1:=hl p hp;simp only[Function.comp,eqv,BR,rU,h1.day,h1.number]
  rw[e ps hrd,e M hM,hz]
 have h2:=EI (ps.map Prod.snd);exact fA.uniq SB hs' h2.1 (ho'.symm.trans h2.2)
theorem G9:∀M:List (bM×bn),Ac.bD.flat M=eB.flat (M.map Prod.fst)
 |[]=>rfl
 |p::M=>by
  have:=G9 M;simp only[El.flat,List.flatMap_cons,gX]at this⊢;rw[this];rfl
theorem Own.ajT{P:Program}{α:Type}{D:El P α}{b b' g n c:Nat}{w:World}{xs:List α}(h:Own D b w (.slice (some ⟨g,0,none⟩) n c) xs)(hg:b'<=g):Own D b' w (.slice (some ⟨g,0,none⟩) n c) xs:=by
 refine⟨h.1,?_⟩;rcases h.2 with⟨hv,_⟩|⟨g',cap,cur,hv,hg',r⟩
 ·cases hv
 ·cases hv
  exact .inr ⟨_,_,cur,rfl,hg,r⟩
theorem Own.ajU{b g c:Nat}{w:World}{M:List (bM×bn)}(h:Own Ac.bD b w (.slice (some ⟨g,0,none⟩) M.length c) M):Own eB b w (.slice (some ⟨g,0,none⟩) M.length c) (M.map Prod.fst):=by
 unfold Own at h⊢;rw[<-G9,jA];exact h
theorem Own.ajV{b g c n:Nat}{w:World}{M:List (bM×bn)}(h:Own eB b w (.slice (some ⟨g,0,none⟩) n c) (M.map Prod.fst)):Own Ac.bD b w (.slice (some ⟨g,0,none⟩) n c) M:=by
 unfold Own at h⊢;rw[G9];rw[jA]at h;exact h
theorem ahY(g:Nat):Ac.EF g BR (fun _=>True) (fun _=>True) (.func (.func 34) #[] #[]):=
 ⟨fun _ _ _ _=>trivial,#[],rfl,fun x y w _ _ _=>aaV x y w⟩
def ahZ(R0 w:World)(acts:List bn)(e:Ending)(w':World):Prop:=∃v xs,e=.returned v/\Ext w w'/\Own eB w.heap.size w' v xs/\fq (kS R0) acts xs
theorem SG(gs:List jJ)(rs:List nX)(A:Option Addr)(c:Nat)(R0 w:World)(hR0:Ext R0 w)(hs:Sl lW R0 A rs)(hall:fq (jZ R0) gs rs)(hok:rF gs 24):
 Calls prog 19 #[.slice A rs.length c] w (ahZ R0 w (mJ gs)):=by
 have hBb:(w.alloc (.cells #[.slice none 0 0] 62)).heap[w.heap.size]? =some (.cells #[.slice none 0 0] 62 (0,0)):=heap_alloc_new w _;have GA:=ah (aaI gs rs A c w.heap.size R0 w (w.alloc (.cells #[.slice none 0 0] 62)) hR0 hs hall hok ((Ext.refl w).alloc _) (aI _) hBb);obtain⟨wz,hwz⟩:=aH (w.alloc (.cells #[.slice none 0 0] 62));rw[hwz]at GA;have LC:=ah hwz;obtain⟨R,hR⟩:=aH (mJ gs);rw[hR];have HR:=ah hR;clear hwz hBb hR hs hall hok;go_enter func19,ntmps19
 go_wp2_with fail
 rw[LC.out];refine(GA.out).mono ?_;rintro e w2 ⟨rfl,M,ps,hE,hM,hps,hpl⟩;obtain⟨v,hv,hown⟩:=hE.out;have hE2:=hE.ext;have hrd:=hE.rd;have HR2:=ah (show Md (ps.map Prod.snd)=R by rw[hps,<-HR.out];rfl);have hc2:w2.cell? ⟨w.heap.size,0,none⟩=some v:=by simp[World.cell?,hv]
 have Hv:=ah hv;have qZ:=ah hrd;have HE2:=ah hE2;clear hE hps hv hrd hE2 GA;rcases hown.2 with⟨hv0,hl0⟩|⟨g,cap,cur,hv0,hg,r⟩
 ·have hp:ps=[]:=List.map_eq_nil_iff.1 (kM hl0)
  subst hp hv0;have Hs:=ah (Vu (.func (.func 34) #[] #[]) w2);clear hown;go_wp2_with fail
  refine(Hs.out).mono ?_;rintro e w3 ⟨rfl,rfl⟩;go_wp2;go_ret;exact⟨_,[],rfl,HE2.out,Own.nil _,by rw[<-HR2.out];exact trivial⟩
 ·subst hv0
  rw[jA]at hown hc2 Hv;have hlt:=(hown.lt g rfl).2;have hop:=Own.ajV hown;have Hs:=ah (Ac.NS (ahY g) ajS cap ps.length ps w2 (by omega) (fun _ _=>trivial) trivial ⟨rfl,hop.mono (by omega)⟩);have Hg:=ah hg;clear hown hop r hg;go_wp2_with fail
  refine(Hs.out).mono ?_;rintro e w3 ⟨rfl,hk,M',hsr,hso,hrw⟩;have hg:=Hg.out
  have hc3:w3.cell? ⟨w.heap.size,0,none⟩=some (.slice (some ⟨g,0,none⟩) ps.length cap):=by
   have h:=hk.block w.heap.size (ay Hv.out) (by omega);simp[World.cell?,h,Hv.out]
  have Hk:=ah hk;have Hso:=ah hso;have Hsr:=ah hsr;have Hrw:=ah hrw;clear hk hso hsr hrw Hs hc2;go_wp2;go_ret;have hx3:=Hk.out.uZ HE2.out (by omega);have hlen:=Hrw.out.len
  have qK:Own eB w.heap.size w3 (.slice (some ⟨g,0,none⟩) ps.length cap) (M'.map Prod.fst):=by
   have h1:=Hrw.out.own;have h2:=Own.ajT (Own.ajU h1) (b':=w.heap.size) (by omega);rw[hlen]at h2;exact h2
  have hall:∀M0:List (bM×bn),(∀p∈M0,kS R0 p.2 p.1)->fq (kS R0) (M0.map Prod.snd) (M0.map Prod.fst):=by
   intro M0
   induction M0 with
   |nil=>intro _;exact trivial
   |cons p M0 ih=>intro h;exact⟨h p (by simp),ih fun q hq=>h q (by simp[hq])⟩
  refine⟨_,M'.map Prod.fst,rfl,hx3,qK,?_⟩;rw[<-HR2.out,<-SF qZ.out Hsr.out Hso.out];exact hall M' fun p hp=>qZ.out p (Hso.out.perm.mem_iff.2 hp)
def kT(k:Int):Bool:=decide (0<=k)&&decide (k<=6)
theorem uV(k:Int)(w:World):Calls prog 22 #[.int .i64 k] w fun e w'=>e=.returned (.bool (kT k))/\w'=w:=by
 unfold kT;by_cases h1:0<=k
 ·have e1:decide (0<=k)=true:=bJ h1
  by_cases h2:k<=6
  ·have e2:decide (k<=6)=true:=bJ h2
   rw[e1,e2];go_enter func22,ntmps22
   go_wp2;go_ret;exact⟨rfl,rfl⟩
  ·have e2:decide (k<=6)=false:=aY h2
   rw[e1,e2];go_enter func22,ntmps22
   go_wp2;go_ret;exact⟨rfl,rfl⟩
 ·have e1:decide (0<=k)=false:=aY h1
  rw[e1];go_enter func22,ntmps22
  go_wp2;go_ret;exact⟨rfl,rfl⟩
def JH(x:Int×Int):Value:=.agg #[.int .i64 x.1,.int .i64 x.2]
theorem ah0(w:World)(b:Bool)(x:Int×Int):(Instr.checkKey b 10000 71 (JH x)).run prog w=.ok () w:=by
 have u:=underlying71;have v:=underlying3;have hk:=fun(z:Int)=>MapKept.run_checkKey (P:=prog) (w:=w) (kt:=3) v (k:=.int .i64 z) (by simp[MapKept.IsKey]) b 9998;obtain⟨a,i⟩:=x;simp only[JH];rw[show(10000:Nat)=(9998+1)+1 from rfl,Instr.checkKey];generalize 9998+1=N at hk⊢;simp only[Sem.run_bind,run_underlying u,Result.andThen_ok]
 go_simp
theorem anf(a b a' b':Int)(w:World):(Op.equalIn 10000 71 (.agg #[.int .i64 a,.int .i64 b]) (.agg #[.int .i64 a',.int .i64 b'])).run prog w=.ok (decide ((a,b)=(a',b'))) w:=by
 have u3:=underlying3;have hS:prog.underlying 71=some (.struct (prog.fieldsOf 71)):=by kernel_rfl
 rw[show(10000:Nat)=9999+1 from rfl,run_equalIn_agg w 9999 71 _ _ hS (by kernel_rfl)];simp only[Program.fieldsOf,underlying71]
 go_simp
 by_cases h1:a=a'<;>by_cases h2:b=b'<;>simp[h1,h2]
theorem arj(w:World)(x y:Int×Int):(Op.equal 71 (JH x) (JH y)).run prog w=.ok (decide (x=y)) w:=by
 obtain⟨a,b⟩:=x;obtain⟨a',b'⟩:=y;have h:=anf a b a' b' w;simp only[JH,Op.equal,Op.maxDepth,h]
theorem af7:vw 71 JH:=Wv (by simp only[underlying71]) ah0 arj (fun x=>by
 rw[show(10000:Nat)=9998+1+1 from rfl,JH,Instr.sameBits];simp[Instr.sameBits])
theorem WC{κ ν:Type}[DecidableEq κ]:∀{l:List (κ×ν)} {x:κ} {v:ν} {p:κ×ν},p∈upd l x v->p∈l∨p=(x,v)
 |[],x,v,p,h=>by rw[upd]at h;simp at h;exact .inr h
 |q::l,x,v,p,h=>by
  rw[upd]at h
  split at h
  ·rcases List.mem_cons.1 h with h|h
   ·exact .inr h
   ·exact .inl (lV _ h)
  ·rcases List.mem_cons.1 h with h|h
   ·exact .inl (by rw[h];exact List.mem_cons_self)
   ·rcases WC h with h|h
    ·exact .inl (lV _ h)
    ·exact .inr h
def xX(y:fM):Bool:=decide (y.x.kind=11)&&(match y.sK with|[]=>false|z::_=>kT z.x.kind)
def mR(f:Int×Int->Option fM)(y:fM):Int×Int->Option fM:=if xX y then fun k=>if k=(y.x.act,y.x.item)then y.sK.head? else f k else f
def EJ(acts:List bn):Int×Int->Option fM:=(acts.flatMap bn.items).foldl mR (fun _=>none)
def itV(p:bE×fM):Value:=.agg p.1.cells.toArray
structure CI (R0 W0:World) (M:Nat) (f:Int×Int->Option fM) (w:World):Prop where
 ext:Ext W0 w
 map:∃l:List ((Int×Int)×(bE×fM)),iG JH itV M w l/\(∀p∈l,eZ R0 p.2.2 p.2.1)/\∀k,(assoc l k).map Prod.snd=f k
theorem CI.mono{R0 W0 w w':World}{M:Nat}{f:Int×Int->Option fM}(h:CI R0 W0 M f w)(he:Ext w w'):CI R0 W0 M f w':=by
 obtain⟨h1,l,h2,h3⟩:=h;exact⟨h1.trans he,l,h2.ext he,h3⟩
theorem adP(acts:List bn)(rs:List bM)(A:Option Addr)(c:Nat)(R0 w:World)(h0:Ext R0 w)(hs:Sl eB w A rs)(hall:fq (kS R0) acts rs)(hn:acts.length<=100)(hi:∀a∈acts,a.items.length<=100):
 Calls prog 20 #[.slice A rs.length c] w fun e w'=>∃M,e=.returned (.map (some M))/\w.heap.size<=M/\CI R0 w M (EJ acts) w':=by
 have hlen:=hall.length;rw[hlen];have jo:=ah hall;have H0x:=ah h0;clear h0;have Hi:=ah hi;obtain⟨R,hR⟩:=aH (EJ acts);rw[hR];have HR:=ah hR;clear hall hi hR;go_enter func20,ntmps20
 have hmm:= @run_makeMap prog;have HI0:=ah (show CI R0 w w.heap.size (fun _=>none) (w.alloc (.map #[] 0))from⟨(Ext.refl w).alloc _,[],iG.made w,by simp,fun k=>rfl⟩);obtain⟨w1,hw1⟩:=aH (w.alloc (.map #[] 0));rw[hw1]at HI0;have DX:=ah hw1;clear hw1;go_wp2;rw[DX.out]
 go_loopw [11] (fun vi wr=>∃(k:Nat) (f:Int×Int->Option fM),k<=acts.length/\vi=.int .i64 (k:Nat)/\Hid (R=((acts.drop k).flatMap bn.items).foldl mR f)/\Hid (CI R0 w w.heap.size f wr)) (fun vi _=>acts.length-(intOf vi).toNat)
 case atStart=>exact⟨0,_,bI _,rfl,ah HR.out.symm,HI0⟩
 case round=>
  obtain⟨k,f,hk,rfl,Hr,HI⟩:=hrel;by_cases hlt:k<acts.length
  ·have f1:=eY k acts.length
   have mP:k<rs.length:=by omega
   obtain⟨b,off,rfl,hb,hcs⟩:=(hs.ext HI.out.ext).at_ mP;have Hgz:=ah ((jo.out).get k hlt mP);have hi1:=Hi.out _ (dW hlt);have Hdk:=ah (show(acts.drop k).flatMap bn.items=acts[k].items++(acts.drop (k+1)).flatMap bn.items by rw[iW hlt];rfl);obtain⟨g,hg⟩:=aH (acts[k]);rw[hg]at Hgz hi1 Hdk;obtain⟨p,hp⟩:=aH (rs[k]);rw[hp]at hcs Hgz;have jr:=ah (show At wr b (off+k*7) p.cells from hcs);have xK:=ah Hgz.out.iN;obtain⟨OO,Rk,xL⟩:=Hgz.out.it;have Lu:=ah xL;have CG:=xL.length;clear hg hp hcs xL;go_wp2_with (first|((with_reducible refine au eB (.tmp 13) ?_ ?_ ?_ b (off+k*7) ?_ p ?_ ?_);rfl;rfl;rfl;rfl;exact jr.out)|(refine aL eB rfl rfl fun w2 hx2 hz2 hk2=> ?_)|((with_reducible refine aD eB (.tmp 5) (.tmp 14) ?_ ?_ wr wr.heap.size ?_ p ?_ _ _ hk2 ?_ hx2 (aI _) ?_);rfl;rfl;rfl;rfl;rfl;intro w3 hx3 hz3 hk3 dX ho3;have p6:=dX.one 6 (u:=.slice p.iA p.iN p.iC) rfl;simp only[bV]at p6;clear hz3 hk3 dX ho3 hz2 hk2 hx2))
   have HI3:=ah (HI.out.mono hx3);clear HI hx3 p6
   go_loopw [18] (fun vi wr=>∃(j:Nat) (f:Int×Int->Option fM),j<=g.items.length/\vi=.int .i64 (j:Nat)/\Hid (R=(g.items.drop j++(acts.drop (k+1)).flatMap bn.items).foldl mR f)/\Hid (CI R0 w w.heap.size f wr)) (fun vi _=>g.items.length-(intOf vi).toNat)
   case atStart=>exact⟨0,f,bI _,rfl,ah (by rw[Hr.out,Hdk.out];rfl),HI3⟩
   case round=>
    obtain⟨j,F2,hj,rfl,xU,HI2⟩:=hrel;by_cases hlt2:j<g.items.length
    ·have hjq:j<p.iN:=by have:=xK.out;omega
     have f2:=eY j p.iN;have CJ:j<OO.length:=by omega
     obtain⟨b2,off2,hA2,hb2,hds⟩:=(Rk.ext (H0x.out.trans HI2.out.ext)).at_ CJ;have Wz:=ah (show g.items.drop j=g.items[j]::g.items.drop (j+1)from iW hlt2);have uo:=ah ((Lu.out).get j hlt2 CJ);obtain⟨y,hy⟩:=aH (g.items[j]);rw[hy]at uo Wz;obtain⟨q,hq⟩:=aH (OO[j]);rw[hq]at hds uo;have Ri:=ah (show At wr b2 (off2+j*25) q.cells from hds);have Hq:=ah hA2;obtain⟨hyN,hyC,j3,Xu,nL⟩:=uo.out.ys;have zi:=ah nL;have GQ:=ah (show q.yN=j3.length by rw[hyN,nL.length]);have Hyk:=ah hyN;have DF:=ah uo.out.it.kind;have ark:=ah uo.out.it.act;have arl:=ah uo.out.it.item;clear hy hq hds hA2 nL hyN hyC;rw[Hq.out];go_upto_region 8 with(first|((with_reducible refine au aT (.tmp 20) ?_ ?_ ?_ b2 (off2+j*25) ?_ q ?_ ?_);rfl;rfl;rfl;rfl;exact Ri.out)|(refine aL aT rfl rfl fun w2 hx2 hz2 hk2=> ?_)|((with_reducible refine aD aT (.tmp 7) (.tmp 21) ?_ ?_ wr wr.heap.size ?_ q ?_ _ _ hk2 ?_ hx2 (aI _) ?_);rfl;rfl;rfl;rfl;rfl;intro w3 hx3 hz3 hk3 dX ho3;have p0:=dX.zero (u:=.int .i64 q.kind) rfl;have p24:=dX.one 24 (u:=.slice q.yA q.yN q.yC) rfl;simp only[bV]at p24;have jq:=ah dX;have hl3:=ay hk3;clear hz3 hk3 dX ho3 hz2 hk2 hx2))
     simp only[Act.put,List.setIfInBounds_toArray,List.set_cons_succ,List.set_cons_zero];have HI3:=ah (HI2.out.mono hx3);have eU:=ah hx3;have ajY:=ah (fun wq (he:Ext w3 wq)=>(Xu.ext (H0x.out.trans (HI2.out.ext.trans hx3))).ext he);clear HI2 hx3;go_cut [38] (fun s38 wx=>wx=w3/\∃bb:Bool,s38=.bool bb/\Hid (bb=xX y))
     case first=>
      have hkk:=DF.out;by_cases H8:q.kind=11
      case neg=>
       have d1:decide (q.kind=11)=false:=aY H8;have d1':(q.kind==11)=false:=by simpa using H8
       have Hf:=ah (show false=xX y by unfold xX;rw[aY (by rw[<-hkk];exact H8)];rfl);clear hkk H8;go_wp2_with fail
       go_meet
       case rel=>exact⟨rfl,false,rfl,Hf⟩
      have d1:decide (q.kind=11)=true:=bJ H8;have d1':(q.kind==11)=true:=by simpa using H8
      have BH:=ah (show decide (y.x.kind=11)=true from bJ (by rw[<-hkk];exact H8));clear hkk H8;by_cases hy0:q.yN=0
      ·have Hf:=ah (show false=xX y by
        unfold xX;have:y.sK=[]:=kM (by rw[<-Hyk.out];exact hy0);rw[this,Bool.and_false])
       rw[hy0]at p24;clear hy0;go_wp2_with fail
       go_meet
       case rel=>exact⟨rfl,false,rfl,Hf⟩
      ·have e1:decide (0<q.yN)=true:=bJ (by omega)
       have e2:=eY (0:Int) q.yN;have e3:0<q.yN:=by omega
       have h0:0<j3.length:=by rw[<-GQ.out];exact e3
       obtain⟨b3,Rl,hA3,hb3,hes⟩:=(ajY.out _ (Ext.refl _)).at_ h0
       have ZL:∃z0 zs,y.sK=z0::zs:=by
        cases BS:y.sK with
        |nil=>have:=Hyk.out;rw[BS]at this;simp at this;omega
        |cons z0 zs=>exact⟨z0,zs,rfl⟩
       obtain⟨z0,zs,BS⟩:=ZL;have hz0:=(zi.out).get 0 (by rw[BS];simp) h0;have hk0:=hz0.it.kind;have hg0:y.sK[0]'(by rw[BS];simp)=z0:=by simp[BS]
       rw[hg0]at hk0;obtain⟨z,hz⟩:=aH (j3[0]);rw[hz]at hes hk0;have z0k:w3.cell? ⟨b3,Rl,none⟩=some (.int .i64 z.kind):=by simpa using hes 0 (.int .i64 z.kind) rfl
       rw[hA3]at p24;have Hf:=ah (show kT z.kind=xX y by unfold xX;rw[BH.out,BS,hk0];rfl);have BU:=ah (uV z.kind w3);generalize kT z.kind=BB at Hf BU;clear hes BS hz0 hk0 hg0 hz hA3 hy0;go_wp2_with fail
       refine(BU.out).mono ?_;rintro e w4 ⟨rfl,rfl⟩;go_wp2_with fail
       go_meet
       case rel=>exact⟨rfl,BB,by simp,Hf⟩
     case rest=>
     obtain⟨hwc,bb,hbb,BQ⟩:=hcut;have hwc':=hwc.symm;clear hwc;subst hwc' hbb;cases bb with
     |false=>
      have BN:=ah (show R=(g.items.drop (j+1)++(acts.drop (k+1)).flatMap bn.items).foldl mR F2 by
       rw[xU.out,Wz.out,jE,List.foldl_cons]
       congr 1
       unfold mR;rw[<-BQ.out];rfl)
      go_wp2;go_roundw
      case rel=>exact⟨j+1,F2,by omega,by go_num,BN,HI3⟩
      case measure=>simp[intOf];omega
     |true=>
      have hys:∃z0 zs,y.sK=z0::zs:=by
       have h:=BQ.out;unfold xX at h;cases BS:y.sK with
       |nil=>rw[BS,Bool.and_false]at h;cases h
       |cons z0 zs=>exact⟨z0,zs,rfl⟩
      obtain⟨z0,zs,BS⟩:=hys;have hl0:0<j3.length:=by rw[<-GQ.out,Hyk.out,BS];simp
      obtain⟨z,hz⟩:=aH (j3[0]);have Hz:=ah (show j3[0]? =some z by rw[fP hl0,hz])
      have Hrz:=ah (show eZ R0 z0 z by
       have h0:=(zi.out).get 0 (by rw[BS];simp) hl0;rw[hz]at h0;simpa[BS]using h0)
      have nO:=ah (show∀kk,mR F2 y kk=if kk=(q.act,q.item)then some z0 else F2 kk from fun kk=>by
       unfold mR;rw[<-BQ.out,BS,ark.out,arl.out];rfl)
      have BN:=ah (show R=(g.items.drop (j+1)++(acts.drop (k+1)).flatMap bn.items).foldl mR (mR F2 y) by
       rw[xU.out,Wz.out,jE,List.foldl_cons])
      obtain⟨l,hml,hrl,hfl⟩:=HI3.out.map;have Hml:=ah hml;have Hrl:=ah hrl;have WE:=ah hfl;have zh:=HI3.out.ext;have Da:=ah (show∀wq,Ext w3 wq->(aK [.int .i64 q.kind,.slice q.aA q.aN q.aC,.slice q.bA q.bN q.bC,.int .i64 q.wh,.int .i64 q.nth,.int .i64 q.u.a,.int .i64 q.u.i,.int .i64 q.u.n,.int .i64 q.u.kind,.string q.u.label,.slice q.u.hA q.u.hn q.u.hc,.slice q.u.wA q.u.wn q.u.wc,.slice q.u.kA q.u.kn q.u.kc,.slice q.oA q.oN q.oC,.slice q.nA q.nN q.nC,.string q.label,.string q.fr,.int .i64 q.sk,.int .i64 q.sd,.string q.se,.int .i64 q.act,.int .i64 q.item,.int .i64 q.day,.string q.ev,.slice q.yA q.yN q.yC]).p (.pointer (some ⟨wr.heap.size,0,none⟩)) wq from fun wq he=>⟨wr.heap.size,0,rfl,bQ hl3 he.size,jq.out.ext he hl3⟩);clear BS hz hml hrl hfl p0 p24;go_upto_region 9 with fail
      refine iJ 10 (fun i=>match i with|0=>Ty.is (.map (some w.heap.size))|1=>aK [.int .i64 q.act]|2=>Ty.is (.int .i64 q.act)|3=>aK [.int .i64 q.item]|4=>Ty.is (.int .i64 q.item)|5=>Ty.is (.agg #[.int .i64 q.act,.int .i64 q.item])|6=>aK [.slice q.yA q.yN q.yC]|7=>Ty.is (.slice q.yA q.yN q.yC)|8=>aK (aT.E z)|9=>Ty.is (.agg (aT.E z).toArray)|_=>Ty.any) (by kernel_rfl) (by kernel_rfl) (by kernel_rfl) (by decide) rfl ?_;intro v;refine⟨?_,?_,?_,?_,?_,?_,?_,?_,?_,?_,?_⟩
      ·exact fun wq hq _=>ak rfl (aF (.tmp 3) rfl rfl rfl)
      ·exact fun wq hq _=>ak rfl (dB 42 11 (.tmp 7) rfl _ underlying42 _ rfl 1 sizeOf3 (by decide) [.int .i64 q.kind,.slice q.aA q.aN q.aC,.slice q.bA q.bN q.bC,.int .i64 q.wh,.int .i64 q.nth,.int .i64 q.u.a,.int .i64 q.u.i,.int .i64 q.u.n,.int .i64 q.u.kind,.string q.u.label,.slice q.u.hA q.u.hn q.u.hc,.slice q.u.wA q.u.wn q.u.wc,.slice q.u.kA q.u.kn q.u.kc,.slice q.oA q.oN q.oC,.slice q.nA q.nN q.nC,.string q.label,.string q.fr,.int .i64 q.sk,.int .i64 q.sd,.string q.se,.int .i64 q.act,.int .i64 q.item,.int .i64 q.day,.string q.ev,.slice q.yA q.yN q.yC] ((Da.out _ hq)))
      ·rintro wq hq ⟨h0,-⟩;exact ak rfl (bW 3 (.tmp 40) rfl isAgg3 (c:=.int .i64 q.act) h0 rfl)
      ·exact fun wq hq _=>ak rfl (dB 42 12 (.tmp 7) rfl _ underlying42 _ rfl 1 sizeOf3 (by decide) [.int .i64 q.kind,.slice q.aA q.aN q.aC,.slice q.bA q.bN q.bC,.int .i64 q.wh,.int .i64 q.nth,.int .i64 q.u.a,.int .i64 q.u.i,.int .i64 q.u.n,.int .i64 q.u.kind,.string q.u.label,.slice q.u.hA q.u.hn q.u.hc,.slice q.u.wA q.u.wn q.u.wc,.slice q.u.kA q.u.kn q.u.kc,.slice q.oA q.oN q.oC,.slice q.nA q.nN q.nC,.string q.label,.string q.fr,.int .i64 q.sk,.int .i64 q.sd,.string q.se,.int .i64 q.act,.int .i64 q.item,.int .i64 q.day,.string q.ev,.slice q.yA q.yN q.yC] ((Da.out _ hq)))
      ·rintro wq hq ⟨h0,-⟩;exact ak rfl (bW 3 (.tmp 42) rfl isAgg3 (c:=.int .i64 q.item) h0 rfl)
      ·rintro wq hq ⟨h0,h1,-⟩
       change v 2=_ at h0;change v 4=_ at h1;refine ak rfl ?_;exact Cx 71 [(0,_),(1,_)] rfl [(0,.int .i64 q.act),(1,.int .i64 q.item)] ⟨⟨rfl,h0⟩,⟨rfl,h1⟩,trivial⟩ (fun w=>by go_simp) rfl
      ·exact fun wq hq _=>ak rfl (dB 42 15 (.tmp 7) rfl _ underlying42 _ rfl 1 sizeOf40 (by decide) [.int .i64 q.kind,.slice q.aA q.aN q.aC,.slice q.bA q.bN q.bC,.int .i64 q.wh,.int .i64 q.nth,.int .i64 q.u.a,.int .i64 q.u.i,.int .i64 q.u.n,.int .i64 q.u.kind,.string q.u.label,.slice q.u.hA q.u.hn q.u.hc,.slice q.u.wA q.u.wn q.u.wc,.slice q.u.kA q.u.kn q.u.kc,.slice q.oA q.oN q.oC,.slice q.nA q.nN q.nC,.string q.label,.string q.fr,.int .i64 q.sk,.int .i64 q.sd,.string q.se,.int .i64 q.act,.int .i64 q.item,.int .i64 q.day,.string q.ev,.slice q.yA q.yN q.yC] ((Da.out _ hq)))
      ·rintro wq hq ⟨h0,-⟩;exact ak rfl (bW 40 (.tmp 45) rfl isAgg40 (c:=.slice q.yA q.yN q.yC) h0 rfl)
      ·rintro wq hq ⟨h0,-⟩
       change v 7=_ at h0;refine ak rfl ?_;exact iq aT (.tmp 46) (.const (.int .i64 0)) rfl _ j3 q.yC (h0.trans (by rw[GQ.out])) 0 rfl (ajY.out _ hq) z Hz.out
      ·rintro wq hq ⟨h0,-⟩;exact ak rfl (bU 42 (.tmp 47) rfl isAgg42 25 sizeOf42 (aT.E z) (aT.hE z) h0 rfl)
      ·intro wq hq hT
       have k0:=hT 0 (by decide);change v 0=_ at k0;have k5:=hT 5 (by decide);change v 5=_ at k5;have k9:=hT 9 (by decide);change v 9=_ at k9;clear hT;simp only[List.drop_succ_cons,List.drop_zero,gH,dK,List.set_cons_succ,List.set_cons_zero,Nat.reduceAdd];rw[k0];rw[k5];rw[k9];clear k0 k5 k9;go_wp2_with ((refine zq (K:=JH) (V:=itV) (.tmp 39) (.tmp 44) (.tmp 48) rfl af7 underlying64 rfl (Hml.out.ext hq) rfl (q.act,q.item) rfl (z,z0) rfl ?_;intro w5 FQ hb5 hs5 nu ny nD;have Sq:=ah FQ;have hx5:Ext w w5:=Ext.put (zh.trans hq) (b:=w.heap.size) (aI _) hb5 nu ny nD hs5;clear FQ hb5 hs5 nu ny nD))
       have HCI:=ah (show CI R0 w w.heap.size (mR F2 y) w5 from⟨hx5,_,Sq.out,fun p hp=>by
        rcases WC hp with hp|rfl
        ·exact Hrl.out p hp
        ·exact Hrz.out,fun kk=>by
        rw[GU,nO.out,<-WE.out]
        split<;>rfl⟩)
       go_roundw
       case rel=>exact⟨j+1,_,by omega,by go_num,BN,HCI⟩
       case measure=>simp[intOf];omega
    ·have f2:decide ((j:Int)<(p.iN:Int))=false:=aY (by have:=xK.out;omega)
     have f2':decide (j<p.iN)=false:=aY (by have:=xK.out;omega);have hr2:=xU.out;rw[mH (by omega),jW]at hr2;have BN:=ah hr2;clear hr2;go_wp2;go_roundw
     case rel=>exact⟨k+1,F2,by omega,by go_num,BN,HI2⟩
     case measure=>simp[intOf];omega
  ·have f1:=fT k acts.length
   have hr:=Hr.out;rw[mH (by omega)]at hr;have HI2:=ah (show CI R0 w w.heap.size R wr by rw[hr];exact HI.out);clear hr;go_wp2;go_ret;exact⟨w.heap.size,rfl,aI _,HI2.out⟩
end Go.Proofs.YtgboomjahhnldaaGreatDoor
