/- A part of the proof of TopWritten, printed small: Par8W Par9W TPar TWithP TWith. -/
import Derived.Test.YtgboomjahhnldaaGreatDoorZ08
import Derived.Test.YtgboomjahhnldaaGreatDoorZ06
set_option maxRecDepth 100000
set_option maxHeartbeats 25600000
set_option linter.all false
namespace Go.Proofs.YtgboomjahhnldaaGreatDoor
open Go.Proofs.Tryz Go.RowKit
theorem qD{k:IntKind}{a b:Int}(h:a=b):Ending.returned (.int k a)=.returned (.int k b):=by rw[h]
theorem FB(u:av)(r:aB)(id:bf)(w:World)(hr:Reads w u r)(hok:dI u):Calls prog 164 #[.agg r.cells.toArray,.agg id.cells.toArray] w fun e w'=>∃v xs,e=.returned v/\(xs.length<=1000/\xs.length<=(cZ id u).length)/\Own aM w.heap.size w' v xs/\Ext w w':=by
 have vN:=ah (fun wq (he:Ext w wq)=>Bl _ u r id wq (aI _) (Reads.ext he u r hr) hok);have hln:=bX (vM id u) hok.cnt;obtain⟨W,hW⟩:=aH (cZ id u);rw[hW]at vN hln⊢;have uq:=UI.new r id w;have hx0:Ext w ((w.alloc (.cells r.cells.toArray 30)).alloc (.cells id.cells.toArray 26)):=((Ext.refl w).alloc _).alloc _;obtain⟨ra,ri,rn,rk,rl,fU,hn,hc,wA,wn,wc,kA,kn,kc⟩:=r;obtain⟨ia,ii,iN⟩:=id;simp only[aB.cells,bf.cells]at*;obtain⟨wb,hwb⟩:=aH ((w.alloc (.cells #[.int .i64 ra,.int .i64 ri,.int .i64 rn,.int .i64 rk,.string rl,.slice fU hn hc,.slice wA wn wc,.slice kA kn kc] 30)).alloc (.cells #[.int .i64 ia,.int .i64 ii,.int .i64 iN] 26));rw[hwb]at uq hx0;have BG:=ah (show w.heap.size+2=wb.heap.size by rw[<-hwb];simp);have lH:=ah hwb;have Rz:=ah uq;have jv:=ah hx0;clear hwb uq hx0 hr hok hW;have xQ:=ah (vN.out wb jv.out);obtain⟨c0,c1,c2,c3,c4,c5,c6,c7,i0,i1,i2⟩:=Rz.out.cells;dsimp only at c0 c1 c2 c3 c4 c5 c6 c7 i0 i1 i2;go_enter func164,ntmps164
 go_wp2_with fail
 rw[lH.out];go_wp2_with fail
 refine(xQ.out).mono ?_;rintro e w2 ⟨hx2,hres⟩
 have hres2:∃A c rs,e=.returned (.slice A rs.length c)/\(rs.length<=1000/\rs.length<=W.length)/\Sl aj w2 A rs:=by
  rcases hres with⟨-,rfl⟩|⟨hne,b2,c2,j3,rfl,hl2,hown2,-⟩
  ·exact⟨none,0,[],rfl,⟨by simp,by simp⟩,Sl.nil⟩
  ·obtain⟨A',c',hv,-,hs⟩:=hown2.form
   cases hv
   exact⟨_,_,j3,rfl,⟨by omega,by omega⟩,hs⟩
 obtain⟨A,c,rs,rfl,⟨hrl,hrw⟩,hsl⟩:=hres2;clear c0 c1 c2 c3 c4 c5 c6 c7 i0 i1 i2 vN xQ hres;have lX:=jv.out.trans hx2;have hsz2:=lX.size;go_wp2
 go_loopw [5,7] (fun vo vi wr=>∃(z:Int) (xs:List bf),vi=.int .i64 z/\(xs.length:Int)+z=(rs.length:Int)-2/\-2<=z/\Own aM w2.heap.size wr vo xs/\Ext w2 wr) (fun _ vi _=>(intOf vi+2).toNat)
 case atStart=>exact⟨(rs.length:Int)-2,[],by go_num,by simp,by omega,Own.nil _,Ext.refl _⟩
 case round=>
  obtain⟨z,xs,rfl,hz1,hz2,hown,hext⟩:=hrel;by_cases hz:0<=z
  ·obtain⟨k,rfl⟩:∃k:Nat,z=(k:Int):=⟨z.toNat,by omega⟩
   have hlt:k<rs.length:=by omega
   have d1:decide ((k:Int)≥0)=true:=bJ (by omega);obtain⟨q,hq⟩:=aH (rs[k]);obtain⟨b,off,rfl,hb,u0,u1,u2,u3,u4,u5,u6,u7⟩:=qb (hsl.ext hext) hlt hq;have hsz:=hext.size;go_wp2_with (at_builtin;refine fK aM rfl _ _ rfl 1 rfl (hown.ext (Ext.alloc (Ext.refl _) _)) (ys:=[⟨q.a,q.i,q.n⟩]) rfl (Sl.new aM rfl) (by simp;omega) (by simp;omega) ?_;intro v' w3 hown' hb1 hg1)
   have mW:Ext w2 w3:=(hext.alloc _).trans' hb1;go_wp2;go_roundw
   case rel=>exact⟨(k:Int)-1,xs++[⟨q.a,q.i,q.n⟩],by go_num,by simp;omega,by omega,hown',mW⟩
   case measure=>simp[intOf]<;>omega
  ·have d1:decide (z≥0)=false:=aY (by omega)
   go_wp2;go_ret;exact⟨_,rfl,xs,⟨by omega,by omega⟩,hown.mono hsz2,lX.trans hext⟩
mutual
theorem Et(id:bf):∀u,2<=(cZ id u).length->∀p,(cZ id u)[(cZ id u).length-2]? =some p->gV id p.kids≠[]
 |.mk a i n k l hd wd kids,h2,p,hp=>by
  rw[cZ]at h2 hp
  split at h2
  ·simp at h2
  ·rename_i hne
   rw[aU hne]at hp
   split at h2
   ·simp at h2
   ·rename_i hwl
    rw[aU hwl]at hp;have hlen:1<=(gV id kids).length:=List.length_pos_iff.2 hwl;rcases gM 1 (gV id kids).length with h|h
    ·rw[iX,show(gV id kids).length+1-2=((gV id kids).length-2)+1 by omega,List.getElem?_cons_succ]at hp
     exact LG id kids (by omega) p hp
    ·rw[iX,show(gV id kids).length+1-2=0 by omega,List.getElem?_cons_zero]at hp
     cases hp
     exact hwl
theorem LG(id:bf):∀us,2<=(gV id us).length->∀p,(gV id us)[(gV id us).length-2]? =some p->gV id p.kids≠[]
 |[],h2,p,hp=>by rw[gV]at h2;simp at h2
 |u::us,h2,p,hp=>by
  rw[gV]at h2 hp
  split at h2
  ·rename_i h
   rw[bH h]at hp;exact LG id us h2 p hp
  ·rename_i h
   rw[aU h]at hp;exact Et id u h2 p hp
end
def nM(id:bf)(x:av):Bool:= !(cZ id x).isEmpty
theorem Gp{id:bf}{x:av}:nM id x=true↔cZ id x≠[]:=by simp[nM]
theorem RB(id:bf):∀us,gV id us≠[]->∃x∈us,cZ id x≠[]
 |[],h=>by rw[gV]at h;exact absurd rfl h
 |u::us,h=>by
  rw[gV]at h
  split at h
  ·obtain⟨x,hx,h2⟩:=RB id us h
   exact⟨x,lV _ hx,h2⟩
  ·rename_i h2
   exact⟨u,List.mem_cons_self,h2⟩
theorem Vj(u:av)(r:aB)(id:bf)(B:Nat)(w:World)(hr:Reads w u r)(hok:dI u)(hB:B<w.heap.size)(h0:w.cell? ⟨B,0,none⟩=some (.int .i64 id.a))(h1:w.cell? ⟨B,1,none⟩=some (.int .i64 id.i))(h2:w.cell? ⟨B,2,none⟩=some (.int .i64 id.n)):
 Calls prog 180 #[.agg r.cells.toArray,.pointer (some ⟨B,0,none⟩)] w fun e w'=>e=.returned (.bool (nM id u))/\Ext w w':=by
 have Hw:=ah (fun wq (he:Ext w wq)=>Bl _ u r id wq (aI _) (Reads.ext he u r hr) hok);have hb:=rE.new r w;have he1:Ext w (w.alloc (.cells r.cells.toArray 30)):=(Ext.refl w).alloc _;have i0:=(he1.cell (p:=⟨B,0,none⟩) hB).trans h0;have i1:=(he1.cell (p:=⟨B,1,none⟩) hB).trans h1;have i2:=(he1.cell (p:=⟨B,2,none⟩) hB).trans h2;have OU:=ah (show nM id u= !(cZ id u).isEmpty from rfl);obtain⟨W,hW⟩:=aH (cZ id u);rw[hW]at Hw OU;obtain⟨b,hbb⟩:=aH (nM id u);rw[hbb]at OU⊢;obtain⟨ra,ri,rn,rk,rl,fU,hn,hc,wA,wn,wc,kA,kn,kc⟩:=r;obtain⟨ia,ii,iN⟩:=id;simp only[aB.cells,bf.cells]at hb he1 i0 i1 i2 Hw⊢;have zF:=ah (Hw.out _ he1);have He1:=ah he1;obtain⟨hlt,c0,c1,c2,c3,c4,c5,c6,c7⟩:=hb;dsimp only at c0 c1 c2 c3 c4 c5 c6 c7;clear hr hok h0 h1 h2 hW hbb he1;go_enter func180,ntmps180
 go_wp2_with fail
 refine(zF.out).mono ?_;rintro e w2 ⟨hx2,hres⟩;rcases hres with⟨rfl,rfl⟩|⟨hne,b2,c2',j3,rfl,-,-,-⟩
 ·have hqn:=fun W=>run_neq_slice_nil_any (P:=prog) W 28 30 none 0 0 0 0 underlying28
  go_wp2;go_ret;exact⟨oU (by rw[OU.out];rfl),He1.out.trans hx2⟩
 ·have hqn:=fun W=>run_neq_slice_nil_any (P:=prog) W 28 30 (some ⟨b2,0,none⟩) j3.length c2' 0 0 underlying28
  have Z0:=ah (show W.isEmpty=false by simpa using hne);clear hne;go_wp2;go_ret;exact⟨oU (by rw[OU.out,Z0.out];rfl),He1.out.trans hx2⟩
theorem LH(us:List av)(A:Option Addr)(c:Nat)(rs:List aB)(id:bf)(B:Nat)(w:World)(hs:Sl aj w A rs)(hall:ReadsAll w us rs)(hok:∀x∈us,dI x)(hn:rs.length<=1000)(hB:B<w.heap.size)(h0:w.cell? ⟨B,0,none⟩=some (.int .i64 id.a))(h1:w.cell? ⟨B,1,none⟩=some (.int .i64 id.i))(h2:w.cell? ⟨B,2,none⟩=some (.int .i64 id.n)):
 Calls prog 179 #[.slice A rs.length c,.func (.func 180) #[] #[.pointer (some ⟨B,0,none⟩)]] w fun e w'=>e=.returned (.int .i64 (gI (nM id) us 0))/\Ext w w':=by
 have hl:=ReadsAll.length hall;have LJ:=ah (fun k (h:k<us.length) (h3:k<rs.length) wq (he:Ext w wq)=>Vj us[k] rs[k] id B wq (Reads.ext he _ _ (ReadsAll.get hall k h h3)) (hok _ (dW h)) (bQ hB he.size) ((he.cell (p:=⟨B,0,none⟩) hB).trans h0) ((he.cell (p:=⟨B,1,none⟩) hB).trans h1) ((he.cell (p:=⟨B,2,none⟩) hB).trans h2));simp only[aB.cells]at LJ;obtain⟨R,hR⟩:=aH (gI (nM id) us 0);have HR:Hid (gI (nM id) (us.drop 0) 0=R):=ah hR;rw[hR];have Hl:=ah hl;clear hR hall hok h0 h1 h2 hl;go_enter func179,ntmps179
 go_wp2
 go_loopw [5,8] (fun _ vk wr=>∃k:Nat,k<=rs.length/\vk=.int .i64 (k:Nat)/\Hid (gI (nM id) (us.drop k) k=R)/\Ext w wr) (fun _ vk _=>rs.length-(intOf vk).toNat)
 case atStart=>exact⟨0,bI _,rfl,HR,Ext.refl _⟩
 case round=>
  obtain⟨k,hk,rfl,Hk,hext⟩:=hrel;by_cases hlt:k<rs.length
  ·have aiS:k<us.length:=by rw[<-Hl.out];exact hlt
   have hk2:=Hk.out;rw[zC aiS]at hk2;have hc2:=LJ.out k aiS hlt wr hext;obtain⟨q,hq⟩:=aH (rs[k]);obtain⟨b,off,rfl,hb,u0,u1,u2,u3,u4,u5,u6,u7⟩:=qb (hs.ext hext) hlt hq;rw[hq]at hc2;obtain⟨N,hN⟩:=aH (nM id us[k]);rw[hN]at hc2 hk2;have sQ:=ah hc2;have d1:=eY k rs.length;clear hq hN hc2;cases N with
   |true=>
    have og:=ah (show(k:Int)=R from hk2);clear hk2;go_wp2_with fail
    refine(sQ.out).mono ?_;rintro e w2 ⟨rfl,hx2⟩;go_wp2;go_ret;exact⟨qD og.out,hext.trans hx2⟩
   |false=>
    have og:=ah (show gI (nM id) (us.drop (k+1)) (k+1)=R from hk2);clear hk2;go_wp2_with fail
    refine(sQ.out).mono ?_;rintro e w2 ⟨rfl,hx2⟩;go_wp2;go_roundw
    case rel=>exact⟨k+1,by omega,by go_num,og,hext.trans hx2⟩
    case measure=>simp[intOf];omega
  ·have hk2:=Hk.out
   rw[adf (by rw[<-Hl.out];omega)]at hk2;have og:=ah hk2;have d1:=fT k rs.length;clear hk2;go_wp2;go_ret;exact⟨qD og.out,hext⟩
theorem gN{fn:Func}{t u x:Tmp}(h:fn.results= #[.cell t 26,.tmp u,.tmp x])(tmps:Array Value)(w:World)(b:Nat)(r:bf)(hp:tmps.getD t undef=.pointer (some ⟨b,0,none⟩))(hc:w.heap[b]? =some (.cells r.cells.toArray 26 (0,0))):
 (results fn tmps).run prog w=.ok (.tuple #[.agg r.cells.toArray,tmps.getD u undef,tmps.getD x undef]) w:=by
 have hl:=run_loadCells_list (P:=prog) w ⟨b,0,none⟩ r.cells (fun j u hu=>by
  have hadd:(⟨b,0,none⟩:Addr).add j=⟨b,j,none⟩:=by unfold Addr.add;split<;>simp_all
  rw[hadd];simp only[World.cell?,hc];simpa using hu)
 have hp':tmps[t]?.getD undef=.pointer (some ⟨b,0,none⟩):=by simpa using hp
 have hn:∀w,(sizeOf 26).run prog w=.ok r.cells.length w:=sizeOf26;simp[results,h,hp',asAddr,loadVar,isAgg26,hn,hl]
theorem OV{id:bf}{us:List av}(h:gV id us≠[]):∃j:Nat,gI (nM id) us 0=(j:Int)/\j<us.length:=by
 obtain⟨x,hx,hw⟩:=RB id us h;rcases Ll (nM id) us 0 with h2|⟨j,h2,h3,-⟩
 ·have:=(Rc (nM id) us 0).1 (by rw[h2];decide) x hx
  rw[Gp.2 hw]at this;cases this
 ·exact⟨j,by rw[h2];simp,h3⟩
structure pF (id:bf) (u p:av) (j:Nat):Prop where
 mem:p∈bO u
 lt:j<p.kids.length
 at_:(cZ id u)[(cZ id u).length-2]? =some p
 idx:gI (nM id) p.kids 0=(j:Int)
 two:2<=(cZ id u).length
def Z4(id:bf)(u:av)(w:World)(e:Ending)(w':World):Prop:=Ext w w'/\((cZ id u).length<2/\e=.returned (.tuple #[.agg (bf.cells ⟨0,0,0⟩).toArray,.int .i64 (-1),.bool false])∨∃(p:av) (j:Nat),e=.returned (.tuple #[.agg p.id.cells.toArray,.int .i64 (j:Nat),.bool true])/\pF id u p j)
theorem uR(u:av)(r:aB)(id:bf)(w:World)(hr:Reads w u r)(hok:dI u):Calls prog 112 #[.agg r.cells.toArray,.agg id.cells.toArray] w (Z4 id u w):=by
 have vN:=ah (fun wq (he:Ext w wq)=>Bl _ u r id wq (aI _) (Reads.ext he u r hr) hok);have fI:=ah (fun x (hx:x∈cZ id u)=>hok.pre (yT id u x hx));have qE:=ah (yT id u);have Fz:=ah (Et id u);unfold Z4;have hln:=bX (vM id u) hok.cnt;have HW0:=ah (show∀W,cZ id u=W->∀p j,2<=W.length->W[W.length-2]? =some p->p∈bO u->j<p.kids.length->gI (nM id) p.kids 0=(j:Int)->pF id u p j from fun W hW p j h1 h2 h3 h4 h5=>⟨h3,h4,by rw[hW];exact h2,h5,by rw[hW];exact h1⟩);obtain⟨W,hW⟩:=aH (cZ id u);have HW:=ah (HW0.out W hW);clear HW0;rw[hW]at vN fI hln qE Fz⊢;have uq:=UI.new r id w;have hx0:Ext w ((w.alloc (.cells r.cells.toArray 30)).alloc (.cells id.cells.toArray 26)):=((Ext.refl w).alloc _).alloc _;have hx3:Ext ((w.alloc (.cells r.cells.toArray 30)).alloc (.cells id.cells.toArray 26)) (((w.alloc (.cells r.cells.toArray 30)).alloc (.cells id.cells.toArray 26)).alloc (.cells #[.int .i64 0,.int .i64 0,.int .i64 0] 26)):=(Ext.refl _).alloc _;have xP:=heap_alloc_new ((w.alloc (.cells r.cells.toArray 30)).alloc (.cells id.cells.toArray 26)) (.cells #[.int .i64 0,.int .i64 0,.int .i64 0] 26);replace uq:=uq.ext hx3;replace hx0:=hx0.trans hx3;clear hx3;rw[show((w.alloc (.cells r.cells.toArray 30)).alloc (.cells id.cells.toArray 26)).heap.size=w.heap.size+2 by simp]at xP;obtain⟨ra,ri,rn,rk,rl,fU,hn,hc,wA,wn,wc,kA,kn,kc⟩:=r;obtain⟨ia,ii,iN⟩:=id;simp only[aB.cells,bf.cells]at*;obtain⟨wb,hwb⟩:=aH (((w.alloc (.cells #[.int .i64 ra,.int .i64 ri,.int .i64 rn,.int .i64 rk,.string rl,.slice fU hn hc,.slice wA wn wc,.slice kA kn kc] 30)).alloc (.cells #[.int .i64 ia,.int .i64 ii,.int .i64 iN] 26)).alloc (.cells #[.int .i64 0,.int .i64 0,.int .i64 0] 26));rw[hwb]at uq hx0 xP;have BG:=ah (show w.heap.size+3=wb.heap.size by rw[<-hwb];simp);have lH:=ah hwb;have Rz:=ah uq;have jv:=ah hx0;have uz:=ah xP;have xQ:=ah (vN.out wb hx0);obtain⟨c0,c1,c2,c3,c4,c5,c6,c7,i0,i1,i2⟩:=uq.cells;dsimp only at c0 c1 c2 c3 c4 c5 c6 c7 i0 i1 i2;clear hwb uq hx0 xP hr hok hW;go_enter func112,ntmps112
 go_wp2_with fail
 rw[lH.out];go_wp2_with fail
 refine(xQ.out).mono ?_;rintro e w2 ⟨hx2,hres⟩;have xM:=(hx2.block (k:=w.heap.size+2) (by rw[<-BG.out];omega)).trans uz.out;have hlt2:w.heap.size+2<w2.heap.size:=by have:=hx2.size;have:=ay uz.out;omega
 clear c0 c1 c2 c3 c4 c5 c6 c7 i0 i1 i2 vN xQ;rcases hres with⟨rfl,rfl⟩|⟨hne,b2,c2,j3,rfl,hl2,hown2,xO⟩
 ·go_wp2_with (refine aP rfl 26 (.tmp 4) (.tmp 16) rfl (w.heap.size+2) 0 (.agg #[.int .i64 0,.int .i64 0,.int .i64 0]) rfl rfl [.int .i64 0,.int .i64 0,.int .i64 0] rfl sizeOf26 (by simp[Value.oneCell']) 26 _ xM (by simp) ?_;intro w4 hw4 dP dQ dR hs4 eX)
  have hfin:w4.heap[w.heap.size+2]? =some (.cells (bf.cells ⟨0,0,0⟩).toArray 26 (0,0)):=by
   rw[eX];simp[bf.cells]
  refine bodyPost_ret (gN rfl _ _ (w.heap.size+2) _ rfl hfin) rfl ?_;exact⟨(jv.out.trans hx2).put (by omega) hw4 dP dQ dR hs4,.inl rfl⟩
 have hsl2:Sl aj w2 (some ⟨b2,0,none⟩) j3:=by
  obtain⟨A',c',hv,-,hs⟩:=hown2.form;cases hv
  exact hs
 by_cases h2:j3.length<2
 ·have f1:=eY j3.length 2
  have aqT:=ah (show W.length<2 from by omega);go_wp2_with (refine aP rfl 26 (.tmp 4) (.tmp 16) rfl (w.heap.size+2) 0 (.agg #[.int .i64 0,.int .i64 0,.int .i64 0]) rfl rfl [.int .i64 0,.int .i64 0,.int .i64 0] rfl sizeOf26 (by simp[Value.oneCell']) 26 _ xM (by simp) ?_;intro w4 hw4 dP dQ dR hs4 eX)
  have hfin:w4.heap[w.heap.size+2]? =some (.cells (bf.cells ⟨0,0,0⟩).toArray 26 (0,0)):=by
   rw[eX];simp[bf.cells]
  refine bodyPost_ret (gN rfl _ _ (w.heap.size+2) _ rfl hfin) rfl ?_;exact⟨(jv.out.trans hx2).put (by omega) hw4 dP dQ dR hs4,.inl ⟨aqT.out,rfl⟩⟩
 obtain⟨j,hj⟩:∃j,j3.length=j+2:=⟨j3.length-2,by omega⟩;have hlt:j<j3.length:=by omega
 have hltW:j<W.length:=by omega
 obtain⟨q,hq⟩:=aH (j3[j]);obtain⟨_,_,lI,hb2,u0,u1,u2,u3,u4,u5,u6,u7⟩:=qb hsl2 hlt hq;cases lI
 obtain⟨x,hx⟩:=aH (W[j]);have Gn:Reads w2 x q:=by rw[<-hx,<-hq];exact ReadsAll.get xO _ hltW hlt
 have hmem:x∈W:=by rw[<-hx];exact dW hltW
 have Es:dI x:=fI.out x hmem;have hW2:W[W.length-2]? =some x:=(by rw[show W.length-2=j by omega,fP hltW,hx]);have hwl:=Fz.out (by omega) x (by rw[show W.length-2=j by omega,fP hltW,hx]);obtain⟨jj,hjj,hjl⟩:=OV hwl;obtain⟨aiT,hqk,-,-,-,-,-,-,-,hkn,hkc,ks,hks,LK,hkl⟩:=Gn.j5;have hkb:=Es.all.head.2.2.2.1;have aqU:=(Rz.out.ext hx2).cells;obtain⟨-,-,-,-,-,-,-,-,i0,i1,i2⟩:=aqU;dsimp only at i0 i1 i2;have Hix:=ah (fun wq (he:Ext w2 wq)=>LH x.kids q.kA q.kc ks ⟨ia,ii,iN⟩ (w.heap.size+1) wq (hks.ext he) (ReadsAll.ext he _ _ LK) (fun y hy=>Es.kid hy) (by omega) (bQ (by omega) he.size) ((he.cell (p:=⟨w.heap.size+1,0,none⟩) (by show w.heap.size+1<_;omega)).trans i0) ((he.cell (p:=⟨w.heap.size+1,1,none⟩) (by show w.heap.size+1<_;omega)).trans i1) ((he.cell (p:=⟨w.heap.size+1,2,none⟩) (by show w.heap.size+1<_;omega)).trans i2));simp only[hjj,hkl,<-hkn]at Hix;have Hq:=ah (show(⟨q.a,q.i,q.n⟩:bf)=x.id from aiT);have Hx:=ah (HW.out x jj (by omega) hW2 (qE.out x hmem) hjl hjj);rw[bV]at u0 u1 u2 u3 u4 u5 u6 u7;have hjb:j<=1000:=by omega
 rw[hj];clear hq hx Gn Es xO hown2 hsl2 fI hlt hltW hl2 hne hj hmem hwl hjj hjl aiT hqk hkn hkc hks LK hkl hkb i0 i1 i2 h2 qE Fz hW2 HW;have hwk:Ext w2 (w2.alloc (.cells #[.int .i64 q.a,.int .i64 q.i,.int .i64 q.n,.int .i64 q.kind,.string q.label,.slice q.hA q.hn q.hc,.slice q.wA q.wn q.wc,.slice q.kA q.kn q.kc] 30)):=(Ext.refl _).alloc _;have Hbq:=ah (rE.new q w2);simp only[aB.cells]at Hbq;have aiV:=ah (Hix.out _ hwk);have Hwk:=ah hwk;clear Hix hwk;go_wp2_with fail
 refine(aiV.out).mono ?_;rintro e w3 ⟨rfl,hx3⟩;have Km:=((Hwk.out.trans hx3).block hlt2).trans xM;obtain⟨-,f0,f1,f2,f3,f4,f5,f6,f7⟩:=Hbq.out.ext hx3;have adr:=(Hwk.out.trans hx3).size;clear u0 u1 u2 u3 u4 u5 u6 u7 xM aiV;go_wp2_with (refine aP rfl 26 (.tmp 4) (.tmp 28) rfl (w.heap.size+2) 0 (.agg #[.int .i64 q.a,.int .i64 q.i,.int .i64 q.n]) rfl rfl [.int .i64 q.a,.int .i64 q.i,.int .i64 q.n] rfl sizeOf26 (by simp[Value.oneCell']) 26 _ Km (by simp) ?_;intro w4 hw4 dP dQ dR hs4 eX)
 have hfin:w4.heap[w.heap.size+2]? =some (.cells (bf.cells ⟨q.a,q.i,q.n⟩).toArray 26 (0,0)):=by
  rw[eX];simp[bf.cells]
 refine bodyPost_ret (gN rfl _ _ (w.heap.size+2) _ rfl hfin) rfl ?_;refine⟨(((jv.out.trans hx2).trans Hwk.out).trans hx3).put (by omega) hw4 dP dQ dR hs4,.inr ⟨x,jj,?_,Hx.out⟩⟩;rw[<-Hq.out];rfl
def av.dJ:av->List av->av|.mk a i n k l hd wd _,ks=>.mk a i n k l hd wd ks
def av.setHead:av->List aJ->av|.mk a i n k l _ wd kids,h=>.mk a i n k l h wd kids
def av.kV:av->List aJ->av|.mk a i n k l hd _ kids,x=>.mk a i n k l hd x kids
def av.kH:av->ByteArray->av|.mk a i n k _ hd wd kids,l=>.mk a i n k l hd wd kids
mutual
def fZ(id:bf)(f:av->av):av->av
 |.mk a i n k l hd wd kids=>if(⟨a,i,n⟩:bf)=id then f (.mk a i n k l hd wd kids)else .mk a i n k l hd wd (lD id f kids)
def lD(id:bf)(f:av->av):List av->List av
 |[]=>[]
 |u::us=>if cZ id u=[]then u::lD id f us else fZ id f u::us
end
theorem RD(id:bf)(f:av->av)(u:av):fZ id f u=if u.id=id then f u else u.dJ (lD id f u.kids):=by
 cases u
 rw[fZ];rfl
theorem Eu(id:bf)(f:av->av):∀(us:List av) (k:Nat),(∀x∈us.take k,cZ id x=[])->lD id f us=us.take k++lD id f (us.drop k)
 |us,0,_=>by simp
 |[],k+1,_=>by simp[lD]
 |u::us,k+1,h=>by
  have h1:=h u (by simp);rw[lD,bH h1,Eu id f us k fun x hx=>h x (by simp[hx])];simp
theorem Z5(id:bf)(f:av->av)(us:List av)(k:Nat)(hk:k<us.length)(h:∀x∈us.take k,cZ id x=[])(hx:cZ id us[k]≠[]):lD id f us=us.set k (fZ id f us[k]):=by
 rw[Eu id f us k h,iW hk,lD,aU hx,List.set_eq_take_append_cons_drop,bH hk]
theorem XF(id:bf)(f:av->av)(us:List av)(h:∀x∈us,cZ id x=[]):lD id f us=us:=by
 rw[Eu id f us us.length (by rwa[List.take_length])];simp[lD]
def FC(p:Nat->Bool)(v:Value):Nat->Bool:=fun k=>p k||decide (v.ownBlock=some k)
theorem Gq{p:Nat->Bool}{v:Value}{k:Nat}(h:FC p v k=false):p k=false/\v.ownBlock≠some k:=by
 simpa[FC]using h
structure XG (n b:Nat) (p:Nat->Bool) (w:World) (x:av) (r:aB):Prop where
 id:r.id=x.id
 kind:r.kind=x.kind
 label:r.label=x.label
 hn:r.hn=x.head.length
 hc:x.head.length<=r.hc
 hs:Sl aQ (mask (FC p (.slice r.kA r.kn r.kc)) w) r.hA x.head
 wn:r.wn=x.words.length
 wc:x.words.length<=r.wc
 ws:Sl aQ (mask (FC p (.slice r.kA r.kn r.kc)) w) r.wA x.words
 k:∃rs,Own aj n w (.slice r.kA r.kn r.kc) rs/\ReadsAll (mask (FC p (.slice r.kA r.kn r.kc)) w) x.kids rs/\∀g,(Value.slice r.kA r.kn r.kc).ownBlock=some g->g≠b/\p g=false
theorem Reads.of{w:World}{u:av}{r:aB}(h1:r.id=u.id)(h2:r.kind=u.kind)(h3:r.label=u.label)(h4:r.hn=u.head.length)(h5:u.head.length<=r.hc)(h6:Sl aQ w r.hA u.head)(h7:r.wn=u.words.length)(h8:u.words.length<=r.wc)(h9:Sl aQ w r.wA u.words)
 (h10:r.kn=u.kids.length) (h11:u.kids.length<=r.kc) {rs:List aB} (h12:Sl aj w r.kA rs) (CB:ReadsAll w u.kids rs):Reads w u r:=by
 obtain⟨a,i,n,k,l,hd,wd,kids⟩:=u;rw[Reads];simp only[aB.id,av.id,bf.mk.injEq]at h1;exact⟨⟨h1.1,h1.2.1,h1.2.2,h2,h3⟩,⟨h4,h5,h6⟩,⟨h7,h8,h9⟩,h10,h11,rs,h12,CB⟩
structure Kept (b:Nat) (g:Option Nat) (w w':World):Prop where
 os:w'.os=w.os
 tape:w'.tape=w.tape
 output:w'.output=w.output
 size:w.heap.size<=w'.heap.size
 block:∀k,k<w.heap.size->k≠b->g≠some k->w'.heap[k]? =w.heap[k]?
theorem ReadsAll.set{w:World}:∀{us:List av} {rs:List aB} (k:Nat) {u:av} {r:aB},ReadsAll w us rs->Reads w u r->ReadsAll w (us.set k u) (rs.set k r)
 |[],[],_,_,_,h,_=>by simpa using h
 |v::us,q::rs,0,u,r,h,h2=>by
  rw[ReadsAll]at h;rw[List.set_cons_zero,List.set_cons_zero,ReadsAll];exact⟨h2,h.2⟩
 |v::us,q::rs,k+1,u,r,h,h2=>by
  rw[ReadsAll]at h;rw[List.set_cons_succ,List.set_cons_succ,ReadsAll];exact⟨h.1,ReadsAll.set k h.2 h2⟩
 |[],_::_,_,_,_,h,_=>by rw[ReadsAll]at h;exact h.elim
 |_::_,[],_,_,_,h,_=>by rw[ReadsAll]at h;exact h.elim
theorem Z6{id:bf}{x:av}{w w':World}{e:Ending}(h:NG (findF id x) w e w'):∃(rr:aB) (bb:Bool),e=.returned (.tuple #[.agg (aj.E rr).toArray,.bool bb])/\(bb=false->cZ id x=[])/\(bb=true->cZ id x≠[])/\Ext w w':=by
 obtain⟨hx,h⟩:=h;cases hf:findF id x with
 |none=>
  rw[hf]at h;refine⟨dU,false,h,fun _=> ?_,fun h=>by simp at h,hx⟩;simpa[findF]using hf
 |some y=>
  rw[hf]at h;obtain⟨r',h,_⟩:=h;refine⟨r',true,h,fun h=>by simp at h,fun _ hn=> ?_,hx⟩;simp[findF,hn]at hf
theorem iL(u:av)(ks:List av):(u.dJ ks).head=u.head:=by cases u;rfl
theorem iy(u:av)(ks:List av):(u.dJ ks).words=u.words:=by cases u;rfl
theorem iM(u:av)(ks:List av):(u.dJ ks).kids=ks:=by cases u;rfl
theorem xR(u:av)(ks:List av):(u.dJ ks).id=u.id:=by cases u;rfl
theorem sU(u:av)(ks:List av):(u.dJ ks).kind=u.kind:=by cases u;rfl
theorem rT(u:av)(ks:List av):(u.dJ ks).label=u.label:=by cases u;rfl
theorem ReadsAll.erase{w:World}:∀{us:List av} {rs:List aB} (k:Nat),ReadsAll w us rs->ReadsAll w (us.eraseIdx k) (rs.eraseIdx k)
 |[],[],_,h=>by simpa using h
 |v::us,q::rs,0,h=>by
  rw[ReadsAll]at h;exact h.2
 |v::us,q::rs,k+1,h=>by
  rw[ReadsAll]at h;rw[List.eraseIdx_cons_succ,List.eraseIdx_cons_succ,ReadsAll];exact⟨h.1,ReadsAll.erase k h.2⟩
 |[],_::_,_,h=>by rw[ReadsAll]at h;exact h.elim
 |_::_,[],_,h=>by rw[ReadsAll]at h;exact h.elim
theorem ReadsAll.ins{w:World}:∀{us:List av} {rs:List aB} (k:Nat) {u:av} {r:aB},ReadsAll w us rs->Reads w u r->ReadsAll w (us.take k++u::us.drop k) (rs.take k++r::rs.drop k)
 |[],[],k,u,r,h,h2=>by
  simp only[List.take_nil,List.drop_nil,jW];rw[ReadsAll];exact⟨h2,h⟩
 |v::us,q::rs,0,u,r,h,h2=>by
  simp only[List.take_zero,List.drop_zero,jW];rw[ReadsAll];exact⟨h2,h⟩
 |v::us,q::rs,k+1,u,r,h,h2=>by
  rw[ReadsAll]at h;simp only[List.take_succ_cons,List.drop_succ_cons,jE];rw[ReadsAll];exact⟨h.1,ReadsAll.ins k h.2 h2⟩
 |[],_::_,_,_,_,h,_=>by rw[ReadsAll]at h;exact h.elim
 |_::_,[],_,_,_,h,_=>by rw[ReadsAll]at h;exact h.elim
def Dc(F:FuncId)(cs:Array Value)(f:av->av)(P:av->Prop)(w0:World)(d:Nat->Bool):Prop:=
 ∀(w:World) (b:Nat) (p:Nat->Bool) (x:av) (r:aB),Ext w0 w->p b=true->w0.heap.size<=b->(∀j,p j=true->(w0.heap.size<=j∨d j=true)/\j<w.heap.size)->w.heap[b]? =some (.cells r.cells.toArray 30 (0,0))->XG w0.heap.size b p w x r->dI x->P x->
  Calls prog F (#[.pointer (some ⟨b,0,none⟩)]++cs) w fun e w'=>∃r':aB,e=.returned (.tuple #[])/\w'.heap[b]? =some (.cells r'.cells.toArray 30 (0,0))/\Reads (mask p w') (f x) r'/\Kept b (Value.slice r.kA r.kn r.kc).ownBlock w w'
def RF(F:FuncId)(cs:Array Value)(f:av->av)(P:av->Prop)(w0:World)(d:Nat->Bool)(N:Nat):Prop:=
 ∀(u:av) (r:aB) (id:bf) (p:Nat->Bool) (w:World),SizeOf.sizeOf u<=N->Ext w0 w->(∀j,p j=true->(w0.heap.size<=j∨d j=true)/\j<w.heap.size)->Reads (mask p w) u r->dI u->(∀x∈bO u,x.id=id->P x)->
  Calls prog 102 #[.agg r.cells.toArray,.agg id.cells.toArray,.func (.func F) #[] cs] w fun e w'=>∃r':aB,e=.returned (.agg r'.cells.toArray)/\Ext w w'/\Reads (mask p w') (fZ id f u) r'
theorem Z7{F:FuncId}{cs:Array Value}{f:av->av}{P:av->Prop}{w0:World}{d:Nat->Bool}(hF:∀args w,(callFunc F args).run prog w=.ok (.enter F args) w)(hdo:Dc F cs f P w0 d)(N:Nat)(ih:RF F cs f P w0 d N):RF F cs f P w0 d (N+1):=by
 intro u r id p w hN hw0 hp hr hok hpre;obtain⟨hid,hkd,hlb,hhn,xH,mU,hwn,hwc,hws,hkn,hkc,rs,hrs,hall,hrl⟩:=hr.j5;have Ag:=hok.all.head.2.2.2.1;go_enter func102,ntmps102
 go_upto_region 1 with(first|(refine aG aj (.tmp 0) rfl rfl r rfl fun wA aR bG bB aO=> ?_)|(refine aG aM (.tmp 1) rfl rfl id rfl fun wB eH ji hkB eG=> ?_)|(refine aL aj rfl rfl fun wC dD jK fE=> ?_))
 have hq:=fun W=>Jd W r.a r.i r.n id.a id.i id.n;have hxw:=ah (aR.trans (eH.trans dD));have hA:=aO.ext (eH.trans dD) (ay bB);have hB:=eG.ext dD (ay hkB);have c0:=hA.zero (u:=.int .i64 r.a) rfl;have c1:=hA.one 1 (u:=.int .i64 r.i) rfl;have c2:=hA.one 2 (u:=.int .i64 r.n) rfl;have c7:=hA.one 7 (u:=.slice r.kA rs.length r.kc) (by rw[hrl,<-hkn];rfl);have i0:=hB.zero (u:=.int .i64 id.a) rfl;have i1:=hB.one 1 (u:=.int .i64 id.i) rfl;have i2:=hB.one 2 (u:=.int .i64 id.n) rfl;simp only[bV]at c1 c2 c7 i1 i2;have LM:=ah (((eH.trans dD).block (ay bB)).trans bB);have Hb2:=ah (dD.block (ay hkB));have BH:=ah fE;have qZ:=ah hr;have HB:=ah hB;have HA:=ah hA;have e1:=ah bG;have e2:=ah ji;have e3:=ah jK;have yH:=ah hrs;have jo:=ah hall;have LJ:=ah (XA r.kA r.kc rs wC ((hrs.cin (aZ.iV p w)).ext hxw.out) (by omega));obtain⟨p2,hp2⟩:∃p2:Nat->Bool,(fun j=>p j||(decide (j=w.heap.size)||decide (j=wB.heap.size)))=p2:=⟨_,rfl⟩;have Jw:=ah hp2;have aiX:(⟨r.a,r.i,r.n⟩:bf)=u.id:=hid;have ads:=ah hid;have DF:=ah hkd;have Hlb:=ah hlb;have Hhn:=ah hhn;have Z8:=ah hwn;have FD:=ah hkn;have Hrl:=ah hrl;clear aR bB aO eH bG ji jK hkB eG dD fE hr hA hB hrs hall hp2 hid hkd hlb hhn hwn hkn hrl;rw[aiX]at hq;clear aiX;have xS:=ah (show p2 w.heap.size=true by rw[<-Jw.out];simp);have Hpc:=ah (show p2 wB.heap.size=true by rw[<-Jw.out];simp)
 have LD:=ah (show∀k,k<w.heap.size->p k=false->p2 k=false from fun k hk h=>by
  have:=e1.out;have:=e2.out;rw[<-Jw.out];simp[h];omega)
 have Hpi:=ah (show∀k,p2 k=false->p k=false from fun k h=>by
  rw[<-Jw.out]at h;simp at h;exact h.1)
 have DI:=ah (show∀j,p2 j=true->(w0.heap.size<=j∨d j=true)/\j<wC.heap.size from fun j h=>by
  have h1:=e1.out;have h2:=e2.out;have h3:=e3.out;have h4:=hw0.size;rw[<-Jw.out]at h;simp at h;rcases h with h|h|h
  ·have:=hp j h;exact⟨this.1,by omega⟩
  ·exact⟨.inl (by omega),by omega⟩
  ·exact⟨.inl (by omega),by omega⟩)
 clear Jw hp;by_cases hE:u.id=id
 ·have hq2:∀W,(binOp .eql 26 (.agg #[.int .i64 r.a,.int .i64 r.i,.int .i64 r.n]) (.agg #[.int .i64 id.a,.int .i64 id.i,.int .i64 id.n])).run prog W=.ok (.bool true) W:=fun W=>by rw[hq W];simp[hE]
  have HE:=ah hE;clear hq hE;go_wp2_with fail
  refine(LJ.out).mono ?_;rintro e w2 ⟨v2,rfl,hown,hx2⟩;obtain⟨A2,z2,rfl,hz2,-⟩:=hown.form;have hbk2:=(hx2.block (ay LM.out)).trans LM.out;clear c0 c1 c2 c7 i0 i1 i2
  go_wp2_with (first|(refine fV rfl 30 5 (.tmp 3) rfl _ underlying30 _ rfl 1 sizeOf28 (by decide) w.heap.size 0 rfl ?_)|
   (refine aP rfl 28 (.tmp 19) (.tmp 18) rfl w.heap.size 7 (.slice A2 rs.length z2) rfl rfl [.slice A2 rs.length z2] rfl sizeOf28 (by simp[Value.oneCell']) 30 _ hbk2 (by simp[aj,aB.cells]) ?_;intro w4 hw4 dP dQ dR hs4 eX))
  have Df:Ext w w4:=(hxw.out.trans hx2).put (aI _) hw4 dP dQ dR hs4;have OW:=ah (show w4.heap[w.heap.size]? =some (.cells (aB.cells {r with kA:=A2,kn:=rs.length,kc:=z2}).toArray 30 (0,0))from eX.trans (by simp[aj,aB.cells]));have hgl:∀g,(Value.slice A2 rs.length z2).ownBlock=some g->wC.heap.size<=g:=fun g hg=>(hown.lt g hg).1;have g1:=e1.out;have g2:=e2.out;have g3:=e3.out;have kC:=hown.keep (w':=w4) (fun g hg=>hw4 g (by have:=hgl g hg;omega))
  have oG:aZ (mask p w) (mask (FC p2 (.slice A2 rs.length z2)) w4):=aZ.qM Df fun k hk hpk=>by
   simp only[FC,Bool.or_eq_false_iff,decide_eq_false_iff_not];exact⟨LD.out k hk hpk,fun hg=>by have:=hgl k hg;omega⟩
  have HU:XG w0.heap.size w.heap.size p2 w4 u {r with kA:=A2,kn:=rs.length,kc:=z2}:=⟨ads.out,DF.out,Hlb.out,Hhn.out,xH,mU.cin oG,Z8.out,hwc,hws.cin oG,rs,kC.mono (by have:=hw0.size;omega),ReadsAll.cin oG _ _ jo.out,fun g hg=>⟨by have:=hgl g hg;omega,by
   have:=hgl g hg;cases h:p2 g with
   |false=>rfl
   |true=>have:=DI.out g h;omega⟩⟩
  have Gr:wC.heap.size<=w4.heap.size:=by rw[hs4];exact hx2.size
  have AP:=ah (hdo w4 w.heap.size p2 u _ (hw0.trans Df) xS.out hw0.size (fun j hj=>⟨(DI.out j hj).1,by have:=(DI.out j hj).2;omega⟩) OW.out HU hok (hpre u (by rw[jy];simp) HE.out));have Hr4:=ah (show w4.heap[wB.heap.size]? =some (.cells aj.z.cells aj.e (0,0))from(hw4 _ (by omega)).trans ((hx2.block (ay BH.out)).trans BH.out));have Hwf:=ah (show fZ id f u=f u by rw[RD,bH HE.out]);clear hw4 dP dQ dR eX hown kC HU oG hbk2 hs4;clear g1 g2 g3;go_wp2_with fail
  refine(AP.out).mono ?_;rintro e w5 ⟨r',rfl,hk5,lY,hkept⟩;have hx5:Ext w w5:=⟨hkept.os.trans Df.os,hkept.tape.trans Df.tape,hkept.output.trans Df.output,bX Df.size hkept.size,fun k hk=>(hkept.block k (bQ hk Df.size) (by omega) (fun h=>by have:=hgl k h;have:=e1.out;have:=e2.out;have:=e3.out;omega)).trans (Df.block hk)⟩;have sV:w5.heap[wB.heap.size]? =some (.cells aj.z.cells aj.e (0,0)):=(hkept.block _ (ay Hr4.out) (by have:=e1.out;have:=e2.out;omega) (fun h=>by have:=hgl _ h;have:=e3.out;omega)).trans Hr4.out
  have Dg:At w5 w.heap.size 0 (aj.E r'):=fun j u hu=>by
   simp only[World.cell?,hk5,bV];simpa[aj]using hu
  have sW:=ah Dg;have Jy:=ah sV;have FE:=ah lY;have hle:w.heap.size<=wB.heap.size:=by have:=e1.out;have:=e2.out;omega
  clear hkept hk5 sV Dg lY hgl;go_wp2_with (first|((with_reducible refine au aj (.tmp 3) ?_ ?_ ?_ w.heap.size 0 ?_ r' ?_ ?_);rfl;rfl;rfl;rfl;exact sW.out)|(refine aD aj (.tmp 6) (.tmp 22) rfl rfl w wB.heap.size rfl r' rfl _ _ Jy.out rfl hx5 hle fun w6 hx6 DJ qH Xw ho6=> ?_))
  refine bodyPost_ret (kJ rfl _ _ wB.heap.size r' rfl qH) rfl ?_;refine⟨r',rfl,hx6,?_⟩;rw[Hwf.out];exact Reads.cin (aZ.keep (by omega) fun k hk hpk=>⟨ho6 k (by rintro rfl;rw[Hpc.out]at hpk;cases hpk),Hpi.out k hpk⟩) _ _ FE.out
 ·have hq2:∀W,(binOp .eql 26 (.agg #[.int .i64 r.a,.int .i64 r.i,.int .i64 r.n]) (.agg #[.int .i64 id.a,.int .i64 id.i,.int .i64 id.n])).run prog W=.ok (.bool false) W:=fun W=>by rw[hq W];simp[hE]
  have Hwf:=ah (show fZ id f u=u.dJ (lD id f u.kids) by rw[RD,aU hE])
  have uG:=ah (show∀(k:Nat) (h:k<u.kids.length) (p:Nat->Bool) (q:aB) (wq:World),Ext w0 wq->(∀j,p j=true->(w0.heap.size<=j∨d j=true)/\j<wq.heap.size)->Reads (mask p wq) u.kids[k] q->Calls prog 102 #[.agg q.cells.toArray,.agg id.cells.toArray,.func (.func F) #[] cs] wq fun e w'=>∃r':aB,e=.returned (.agg r'.cells.toArray)/\Ext wq w'/\Reads (mask p w') (fZ id f u.kids[k]) r' from fun k h p q wq h1 h2 h3=>ih u.kids[k] q id p wq (qO hN h) h1 h2 h3 (hok.kid (dW h)) (fun x hx hxi=>hpre x (by
   rw[jy];refine lV _ ?_;rw[<-jl k u.kids,uP,ZF h];exact qh _ (nK _ hx)) hxi))
  have fI:=ah (fun(k:Nat) (h:k<u.kids.length)=>hok.kid (dW h));clear hq hE ih hdo hpre hok;go_wp2_with fail
  refine(LJ.out).mono ?_;rintro e w2 ⟨v2,rfl,hown,hx2⟩;obtain⟨A2,z2,rfl,hz2,-⟩:=hown.form;have rY:=ah hown;clear c0 c1 c2 c7 i0 i1 i2 hq2 LJ hown;obtain⟨p3,hp3⟩:∃p3:Nat->Bool,(fun j=>p2 j||decide ((Value.slice A2 rs.length z2).ownBlock=some j))=p3:=⟨_,rfl⟩
  have ai2:=ah (show∀k,p3 k=false->p2 k=false/\(Value.slice A2 rs.length z2).ownBlock≠some k from fun k h=>by
   rw[<-hp3]at h;simp only[Bool.or_eq_false_iff,decide_eq_false_iff_not]at h;exact h)
  have adt:=ah (show∀k,k<w.heap.size->p k=false->p3 k=false from fun k hk h=>by
   have h1:=LD.out k hk h;rw[<-hp3];simp only[Bool.or_eq_false_iff,decide_eq_false_iff_not];refine⟨h1,fun h2=> ?_⟩;have:=(rY.out.lt k h2).1;have:=e1.out;have:=e2.out;have:=e3.out;omega)
  have ai3:=ah (show∀j,p3 j=true->(w0.heap.size<=j∨d j=true)/\j<w2.heap.size from fun j h=>by
   rw[<-hp3]at h;simp only[Bool.or_eq_true,decide_eq_true_eq]at h;rcases h with h|h
   ·have h1:=DI.out j h
    have:=hx2.size;exact⟨h1.1,by omega⟩
   ·have:=rY.out.lt j h
    have:=e1.out;have:=e2.out;have:=e3.out;have:=hw0.size;exact⟨.inl (by omega),by omega⟩)
  have adu:=ah (show∀g,(Value.slice A2 rs.length z2).ownBlock=some g->p3 g=true/\p g=false from fun g h=>⟨by rw[<-hp3];simp[h],by
   cases hg:p g with
   |false=>rfl
   |true=>
    have h1:=(rY.out.lt g h).1
    have h2:p2 g=true:=by
     cases h3:p2 g with
     |true=>rfl
     |false=>rw[Hpi.out g h3]at hg;cases hg
    have:=DI.out g h2;omega⟩)
  clear hp3;go_wp2
  go_loopw [28] (fun vi wr=>∃k:Nat,k<=rs.length/\vi=.int .i64 (k:Nat)/\Ext w2 wr/\Hid (∀x∈u.kids.take k,cZ id x=[])) (fun vi _=>rs.length-(intOf vi).toNat)
  case atStart=>exact⟨0,bI _,rfl,Ext.refl _,ah (by simp)⟩
  case round=>
   obtain⟨k,hk,rfl,hext,Qz⟩:=hrel;by_cases hlt:k<rs.length
   ·have f1:=eY k rs.length
    obtain⟨g,c2,hv2⟩:=rY.out.Dz (by intro e;rw[e]at hlt;simp at hlt);cases hv2
    obtain⟨A0,z0,hv0,-,hsl0⟩:=(rY.out.ext hext).form;cases hv0
    obtain⟨b,off,hA,hb,hcs⟩:=hsl0.at_ hlt;cases hA
    have hltk:k<u.kids.length:=by rw[<-Hrl.out];exact hlt
    have q9:=ah (show Reads (mask p w) u.kids[k] rs[k]from ReadsAll.get jo.out k hltk hlt);obtain⟨q,hqq⟩:=aH (rs[k]);rw[hqq]at hcs q9;have jD:=ah (show At wr g (k*8) (aj.E q)from by rw[<-bV (k*8)];exact hcs);clear hcs hqq hsl0;go_upto_region 9 with(first|((with_reducible refine au aj (.tmp 31) ?_ ?_ ?_ g (k*8) ?_ q ?_ ?_);rfl;rfl;rfl;rfl;exact jD.out)|(refine aL aj rfl rfl fun wG dL fF dM=> ?_)|(refine aD aj (.tmp 9) (.tmp 32) rfl rfl wr wr.heap.size rfl q rfl _ _ dM rfl dL (aI _) fun w3 hx3 hz3 hk3 dX ho3=> ?_))
    have ai4:Ext w w3:=(hxw.out.trans (hx2.trans hext)).trans hx3;have jq:=ah dX;have hl3:=ay hk3;have HB3:=ah (HB.out.ext (hx2.trans (hext.trans hx3)) (by have:=e2.out;have:=e3.out;omega));have Hfd:=ah (Ry u.kids[k] q id w3 (Reads.cin ((aZ.iV p w).trans (aZ.dH ai4)) _ _ q9.out) (fI.out k hltk));clear fF dM dL hz3 hk3 dX ho3;go_wp2_with (first|((with_reducible refine au aj (.tmp 9) ?_ ?_ ?_ wr.heap.size 0 ?_ q ?_ ?_);rfl;rfl;rfl;rfl;exact jq.out)|((with_reducible refine au aM (.tmp 4) ?_ ?_ ?_ wA.heap.size 0 ?_ id ?_ ?_);rfl;rfl;rfl;rfl;exact HB3.out))
    refine(Hfd.out).mono ?_;rintro e w4 hret;obtain⟨rr,bb,rfl,hb0,hb1,hx4⟩:=Z6 hret;have Hb0:=ah hb0;have Hb1:=ah hb1;have Df:=ai4.trans hx4;clear hret hb0 hb1 Hfd;go_upto_region 10 with(first|(refine aL aj rfl rfl fun wD gW oH kg=> ?_)|(refine aD aj (.tmp 10) (.tmp 37) rfl rfl w4 w4.heap.size rfl rr rfl _ _ kg rfl gW (aI _) fun w5 hx5 FH hk5 Dg ho5=> ?_))
    have Dh:=Df.trans hx5;have Z9:Ext w2 w5:=hext.trans (hx3.trans (hx4.trans hx5));clear oH kg gW FH hk5 Dg ho5;cases bb with
    |false=>
     have sN:=ah (show∀x∈u.kids.take (k+1),cZ id x=[]from fun x hx=>by
      rw[jk hltk]at hx;rcases List.mem_append.1 hx with hx|hx
      ·exact Qz.out x hx
      ·rw[kX]at hx
       subst hx;exact Hb0.out rfl)
     go_wp2;go_roundw
     case rel=>exact⟨k+1,by omega,by go_num,Z9,sN⟩
     case measure=>simp[intOf];omega
    |true=>
     have sW:=ah (jq.out.ext (hx4.trans hx5) hl3);have HB5:=ah (HB3.out.ext (hx4.trans hx5) (by have:=e1.out;have:=e2.out;have:=e3.out;have:=hxw.out.size;have:=hx2.size;have:=hext.size;have:=hx3.size;omega));have Hks:=ah (Z5 id f u.kids k hltk Qz.out (Hb1.out rfl));have iY:=ah (uG.out k hltk p3 q w5 (hw0.trans Dh) (fun j hj=>⟨(ai3.out j hj).1,bQ (ai3.out j hj).2 Z9.size⟩) (Reads.cin (aZ.qM Dh adt.out) _ _ q9.out));clear Hb0 Hb1 Qz;go_wp2_with (first|((with_reducible refine au aj (.tmp 9) ?_ ?_ ?_ wr.heap.size 0 ?_ q ?_ ?_);rfl;rfl;rfl;rfl;exact sW.out)|((with_reducible refine au aM (.tmp 4) ?_ ?_ ?_ wA.heap.size 0 ?_ id ?_ ?_);rfl;rfl;rfl;rfl;exact HB5.out))
     refine(iY.out).mono ?_;rintro e w6 ⟨r6,rfl,hx6,sV⟩;have ai6:=Dh.trans hx6;have hown6:=rY.out.ext (Z9.trans hx6);have Jy:=ah sV;have hgC:=(rY.out.lt g rfl).1;clear iY sV f1;go_upto_region 13 with(refine nU aj rfl (.tmp 46) (.tmp 45) rfl g z2 k (k*8) r6 _ rfl rfl rfl rfl hown6 hlt ?_;intro w7 hw7 BI BJ BK hs7 LP;have hg6:=adu.out g rfl;have Ah:=ah (show Ext w w7 from ai6.put (b:=g) (by have:=e1.out;have:=e2.out;have:=e3.out;omega) hw7 BI BJ BK hs7);have Gs:=ah (show w7.heap[w.heap.size]? =some (.cells (aj.E r).toArray aj.e (0,0))from(hw7 _ (by have:=e1.out;have:=e2.out;have:=e3.out;omega)).trans (((Z9.trans hx6).block (by have:=e1.out;have:=e2.out;have:=e3.out;have:=hx2.size;omega)).trans ((hx2.block (ay LM.out)).trans LM.out)));have adv:=ah (show w7.heap[wB.heap.size]? =some (.cells aj.z.cells aj.e (0,0))from(hw7 _ (by have:=e3.out;omega)).trans (((Z9.trans hx6).block (by have:=e3.out;have:=hx2.size;omega)).trans ((hx2.block (ay BH.out)).trans BH.out)));have Gt:=ah (show ReadsAll (mask p3 w7) (u.kids.set k (fZ id f u.kids[k])) (rs.set k r6)from ReadsAll.cin (aZ.keep (by omega) fun j hj ni=>⟨hw7 j (by rintro rfl;rw[hg6.1]at ni;cases ni),ni⟩) _ _ (ReadsAll.set k (ReadsAll.cin (aZ.qM ai6 adt.out) _ _ jo.out) Jy.out));have XH:=ah LP;clear hw7 BI BJ BK hs7 LP hown6 hg6)
     have Ko:=ah (fun(w8:World) (h:w8.heap[w.heap.size]? =some (.cells (aB.cells {r with kA:=(some ⟨g,0,none⟩),kn:=rs.length,kc:=z2}).toArray 30 (0,0)))=>(show At w8 w.heap.size 0 (aj.E {r with kA:=(some ⟨g,0,none⟩),kn:=rs.length,kc:=z2})from fun j u hu=>by
      simp only[World.cell?,h,bV];simpa[aj]using hu))
     have hle:w.heap.size<=wB.heap.size:=by have:=e1.out;have:=e2.out;omega
     go_wp2_with (first|(refine fV rfl 30 5 (.tmp 3) rfl _ underlying30 _ rfl 1 sizeOf28 (by decide) w.heap.size 0 rfl ?_)|
      (refine aP rfl 28 (.tmp 49) (.tmp 48) rfl w.heap.size 7 (.slice (some ⟨g,0,none⟩) rs.length z2) rfl rfl [.slice (some ⟨g,0,none⟩) rs.length z2] rfl sizeOf28 (by simp[Value.oneCell']) 30 _ Gs.out (by simp[aj,aB.cells]) ?_;intro w8 hw8 Ev Ew Ey DK NH;have RG:w8.heap[w.heap.size]? =some (.cells (aB.cells {r with kA:=(some ⟨g,0,none⟩),kn:=rs.length,kc:=z2}).toArray 30 (0,0)):=(NH.trans (by simp[aj,aB.cells]));have jL:=Ah.out.put (b:=w.heap.size) (aI _) hw8 Ev Ew Ey DK;have jr:=ah (Ko.out w8 RG);have NI:=(hw8 wB.heap.size (by have:=e1.out;have:=e2.out;omega)).trans adv.out)|
      ((with_reducible refine au aj (.tmp 3) ?_ ?_ ?_ w.heap.size 0 ?_ {r with kA:=(some ⟨g,0,none⟩),kn:=rs.length,kc:=z2} ?_ ?_);rfl;rfl;rfl;rfl;exact jr.out)|(refine aD aj (.tmp 6) (.tmp 50) rfl rfl w wB.heap.size rfl {r with kA:=(some ⟨g,0,none⟩),kn:=rs.length,kc:=z2} rfl _ _ NI rfl jL hle fun w9 ko qp oI sZ qQ=> ?_))
     refine bodyPost_ret (kJ rfl _ _ wB.heap.size _ rfl oI) rfl ?_;refine⟨_,rfl,ko,?_⟩;rw[Hwf.out,Hks.out]
     have hg9:∀gg,(Value.slice (some ⟨g,0,none⟩) rs.length z2).ownBlock=some gg->w9.heap[gg]? =w7.heap[gg]? :=fun gg hg=>by
      have:=(rY.out.lt gg hg).1;have:=e1.out;have:=e2.out;have:=e3.out;rw[qQ gg (by omega),hw8 gg (by omega)]
     have XI:=XH.out.keep (w':=w9) hg9;obtain⟨A9,z9,hv9,qp,-,adw⟩:=XI.kG (p:=p) (fun gg _ hg=>(adu.out gg hg).2)
     try simp only[List.length_set]at hv9
     cases hv9
     have oG:aZ (mask p3 w7) (mask p w9):=aZ.keep (by have:=ko.size;omega) fun j hj ni=>by
      have h1:=ai2.out j ni;refine⟨?_,Hpi.out j h1.1⟩;rw[qQ j (by rintro rfl;rw[Hpc.out]at h1;cases h1.1),hw8 j (by rintro rfl;rw[xS.out]at h1;cases h1.1)]
     have RH:aZ (mask p w) (mask p w9):=aZ.ext ko;have hlk:=Gt.out.length
     exact Reads.of (by rw[xR];exact ads.out) (by rw[sU];exact DF.out) (by rw[rT];exact Hlb.out) (by rw[iL];exact Hhn.out) (by rw[iL];exact xH) (by rw[iL];exact mU.cin RH) (by rw[iy];exact Z8.out) (by rw[iy];exact hwc) (by rw[iy];exact hws.cin RH)
      (by rw[iM];simp at hlk⊢;omega) (by rw[iM];simp at hlk qp⊢;omega) adw (by rw[iM];exact ReadsAll.cin oG _ _ Gt.out)
   ·have f1:=fT k rs.length
    have hkk:k=rs.length:=by omega
    have Hks:=ah (show lD id f u.kids=u.kids from XF id f u.kids fun x hx=>Qz.out x (by rw[gY (by have:=Hrl.out;omega)];exact hx));have ai8:=hxw.out.trans (hx2.trans hext);have Ah:=ah ai8;have Gs:=ah ((((hx2.trans hext).block (ay LM.out)).trans LM.out));have adv:=ah ((((hx2.trans hext).block (ay BH.out)).trans BH.out));have XH:=ah (rY.out.ext hext);have Gt:=ah (show ReadsAll (mask p3 wr) u.kids rs from ReadsAll.cin (aZ.qM ai8 adt.out) _ _ jo.out);clear hkk
    have Ko:=ah (fun(w8:World) (h:w8.heap[w.heap.size]? =some (.cells (aB.cells {r with kA:=A2,kn:=rs.length,kc:=z2}).toArray 30 (0,0)))=>(show At w8 w.heap.size 0 (aj.E {r with kA:=A2,kn:=rs.length,kc:=z2})from fun j u hu=>by
     simp only[World.cell?,h,bV];simpa[aj]using hu))
    have hle:w.heap.size<=wB.heap.size:=by have:=e1.out;have:=e2.out;omega
    go_wp2_with (first|(refine fV rfl 30 5 (.tmp 3) rfl _ underlying30 _ rfl 1 sizeOf28 (by decide) w.heap.size 0 rfl ?_)|
     (refine aP rfl 28 (.tmp 49) (.tmp 48) rfl w.heap.size 7 (.slice A2 rs.length z2) rfl rfl [.slice A2 rs.length z2] rfl sizeOf28 (by simp[Value.oneCell']) 30 _ Gs.out (by simp[aj,aB.cells]) ?_;intro w8 hw8 Ev Ew Ey DK NH;have RG:w8.heap[w.heap.size]? =some (.cells (aB.cells {r with kA:=A2,kn:=rs.length,kc:=z2}).toArray 30 (0,0)):=(NH.trans (by simp[aj,aB.cells]));have jL:=Ah.out.put (b:=w.heap.size) (aI _) hw8 Ev Ew Ey DK;have jr:=ah (Ko.out w8 RG);have NI:=(hw8 wB.heap.size (by have:=e1.out;have:=e2.out;omega)).trans adv.out)|
     ((with_reducible refine au aj (.tmp 3) ?_ ?_ ?_ w.heap.size 0 ?_ {r with kA:=A2,kn:=rs.length,kc:=z2} ?_ ?_);rfl;rfl;rfl;rfl;exact jr.out)|(refine aD aj (.tmp 6) (.tmp 50) rfl rfl w wB.heap.size rfl {r with kA:=A2,kn:=rs.length,kc:=z2} rfl _ _ NI rfl jL hle fun w9 ko qp oI sZ qQ=> ?_))
    refine bodyPost_ret (kJ rfl _ _ wB.heap.size _ rfl oI) rfl ?_;refine⟨_,rfl,ko,?_⟩;rw[Hwf.out,Hks.out]
    have hg9:∀gg,(Value.slice A2 rs.length z2).ownBlock=some gg->w9.heap[gg]? =wr.heap[gg]? :=fun gg hg=>by
     have:=(rY.out.lt gg hg).1;have:=e1.out;have:=e2.out;have:=e3.out;rw[qQ gg (by omega),hw8 gg (by omega)]
    have XI:=XH.out.keep (w':=w9) hg9;obtain⟨A9,z9,hv9,qp,-,adw⟩:=XI.kG (p:=p) (fun gg _ hg=>(adu.out gg hg).2)
    try simp only[List.length_set]at hv9
    cases hv9
    have oG:aZ (mask p3 wr) (mask p w9):=aZ.keep (by have:=ko.size;omega) fun j hj ni=>by
     have h1:=ai2.out j ni;refine⟨?_,Hpi.out j h1.1⟩;rw[qQ j (by rintro rfl;rw[Hpc.out]at h1;cases h1.1),hw8 j (by rintro rfl;rw[xS.out]at h1;cases h1.1)]
    have RH:aZ (mask p w) (mask p w9):=aZ.ext ko;have hlk:=Gt.out.length
    exact Reads.of (by rw[xR];exact ads.out) (by rw[sU];exact DF.out) (by rw[rT];exact Hlb.out) (by rw[iL];exact Hhn.out) (by rw[iL];exact xH) (by rw[iL];exact mU.cin RH) (by rw[iy];exact Z8.out) (by rw[iy];exact hwc) (by rw[iy];exact hws.cin RH)
     (by rw[iM];simp at hlk⊢;omega) (by rw[iM];simp at hlk qp⊢;omega) adw (by rw[iM];exact ReadsAll.cin oG _ _ Gt.out)
theorem RI{F:FuncId}{cs:Array Value}{f:av->av}{P:av->Prop}{w0:World}{d:Nat->Bool}(hF:∀args w,(callFunc F args).run prog w=.ok (.enter F args) w)(hdo:Dc F cs f P w0 d):∀N,RF F cs f P w0 d N
 |0=>fun _ _ _ _ _ h=>(xI h).elim
 |N+1=>Z7 hF hdo N (RI hF hdo N)
theorem vP{F:FuncId}{cs:Array Value}{f:av->av}{P:av->Prop}(d:Nat->Bool)(u:av)(r:aB)(id:bf)(w:World)(hF:∀args w,(callFunc F args).run prog w=.ok (.enter F args) w)(hdo:Dc F cs f P w d)(hd:∀j,d j=true->j<w.heap.size)(hr:Reads (mask d w) u r)(hok:dI u)(hpre:∀x∈bO u,x.id=id->P x):
 Calls prog 102 #[.agg r.cells.toArray,.agg id.cells.toArray,.func (.func F) #[] cs] w fun e w'=>∃r':aB,e=.returned (.agg r'.cells.toArray)/\Ext w w'/\Reads (mask d w') (fZ id f u) r':=by
 refine(RI hF hdo _ u r id d w (aI _) (Ext.refl w) (fun j h=>⟨.inr h,hd j h⟩) hr hok hpre).mono ?_;rintro e w' ⟨r',h1,h2,h3⟩;exact⟨r',h1,h2,h3⟩
end Go.Proofs.YtgboomjahhnldaaGreatDoor
