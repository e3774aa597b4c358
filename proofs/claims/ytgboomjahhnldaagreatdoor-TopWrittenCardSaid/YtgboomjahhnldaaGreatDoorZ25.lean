/- A part of the proof of TopWritten, printed small: EngK TFound1 TEach TLines. -/
import Derived.Test.YtgboomjahhnldaaGreatDoorZ01
import Derived.Test.YtgboomjahhnldaaGreatDoorZ24
import Derived.Test.YtgboomjahhnldaaGreatDoorZ11
set_option maxRecDepth 100000
set_option maxHeartbeats 25600000
set_option linter.all false
namespace Go.Proofs.YtgboomjahhnldaaGreatDoor
open Go.Proofs.Tryz Go.RowKit
section
variable {P:Program} {Q:Exit->Act->World->Prop}
theorem zY{ops:List Oper}{z:Nat}(hz:z+1=ops.length)(hc:Fp ops){m:Nat}(ht:∀k j,m<=k->k<z->j<k->qJ ops k j):∀(r k fuel:Nat) (listed:Array Bool) (a:Act) (w:World),
 k+r=z->m<=k->r<=fuel->listed.size=ops.length->(∀o,ops[z]? =some o->∀e∈qj o,e.on<k)->(∀j,listed.getD j false=decide (j<k∨j=z))->wpOps P ops.toArray Q (List.range' k r) a w->wpAny P .any ops.toArray Q fuel listed a w
 |r,k,fuel,listed,a,w,hk,hm,hf,hs,hza,hl,h=>by
  have I4:Down ops listed:=fun i o hi ho e he=>by
   rw[hl]at hi⊢;have:=(hc.edge i o ho e he);simp at hi⊢;rcases hi with hi|rfl
   ·omega
   ·exact .inl (hza o ho e he)
  have zA:∀i∈Region.ready .any ops.toArray listed,i=k/\k<z:=by
   intro i hi;obtain⟨h1,h2,o,h3,h4⟩:=mem_ready.1 hi;have hb:∀e∈qj o,listed.getD e.on false=true:=fun e he=>h4 e (pY.1 he).1 (pY.1 he).2
   have hlf:¬(i<k∨i=z):=by
    intro hik;have:=hl i;simp only[xu]at this h2;rw[Cu (by omega)]at this h2;simp[hik]at this;simp[this]at h2
   rcases gM k i with hki|hki
   ·have:=I4.Cv (ht i k (by omega) (by omega) hki) ⟨o,h3,hb⟩
    rw[hl]at this;simp at this;omega
   ·exact⟨by omega,by omega⟩
  have hnil:Region.ready .any ops.toArray listed=[]->r=0:=by
   intro hr;rcases Nat.eq_zero_or_pos r with h0|h0
   ·exact h0
   ·exfalso
    have Gd:k<ops.length:=by omega
    have ho:=fP Gd
    have:k∈Region.ready .any ops.toArray listed:=mem_ready.2 ⟨Gd,by
     have:=hl k;simp only[xu]at this⊢;rw[Cu (by omega)]at this⊢;rw[aY (by omega)]at this
     simpa using this,_,ho,fun e he hb=>by
      rw[hl];have:=hc.edge k _ ho e (pY.2 ⟨he,hb⟩);exact bJ (.inl this)⟩
    rw[hr]at this;cases this
  match fuel,hf with
  |0,hf=>
   obtain rfl:r=0:=by omega
   refine⟨?_,by simpa[wpOps]using h⟩;cases hr:Region.ready .any ops.toArray listed with
   |nil=>rfl
   |cons i x=>
    have:=zA i (by rw[hr];simp);omega
  |fuel+1,hf=>
   refine⟨fun hr=> ?_,fun i hi=> ?_⟩
   ·obtain rfl:=hnil hr
    simpa[wpOps]using h
   ·obtain⟨rfl,hlt⟩:=zA i hi
    match r,hk,hf,h with
    |0,hk,_,_=>omega
    |r+1,hk,hf,h=>
     rw[List.range'_succ,wpOps_cons]at h;refine wpOp_mono (fun a' w' h'=> ?_) h;refine zY hz hc ht r (i+1) fuel _ a' w' (by omega) (by omega) (by omega) (by simp[hs]) (fun o ho e he=>Nat.lt_succ_of_lt (hza o ho e he)) (fun j=> ?_) h';have hj:=hl j;simp only[xu,IZ]at hj⊢;by_cases hji:i=j
     ·have hl2:i<ops.length:=by omega
      subst hji;simp[hs,hl2]
     ·rw[aU hji,hj]
      congr 1
      exact propext ⟨fun h=>by omega,fun h=>by omega⟩
termination_by r=>r
def yg(P:Program)(ops:Array Oper)(Q:Exit->Act->World->Prop)(s z:Nat):Nat->Nat->Act->World->Prop
 |0,_,a,w=>wpOp P ops Q z (Q .normal) a w
 |r+1,k,a,w=>wpOp P ops Q k (yg P ops Q s z r (k+1)) a w/\(s<=k->wpOp P ops Q z (fun a w=>wpOps P ops Q (List.range' k (r+1)) a w) a w)
theorem Mt{ops:List Oper}{z s:Nat}(hz:z+1=ops.length)(hc:Fp ops){m:Nat}(ht:∀k j,m<=k->k<z->j<k->qJ ops k j)(hzs:∀j,j<s->qJ ops z j):∀(r k fuel:Nat) (listed:Array Bool) (a:Act) (w:World),
 k+r=z->m<=k->r+1<=fuel->listed.size=ops.length->(∀j,listed.getD j false=decide (j<k))->yg P ops.toArray Q s z r k a w->wpAny P .any ops.toArray Q fuel listed a w
 |r,k,0,listed,a,w,hk,hm,hf,hs,hl,h=>by omega
 |r,k,fuel+1,listed,a,w,hk,hm,hf,hs,hl,h=>by
  have I4:Down ops listed:=fun i o hi ho e he=>by
   rw[hl]at hi⊢;have:=(hc.edge i o ho e he);simp at hi⊢;omega
  have zA:∀i∈Region.ready .any ops.toArray listed,(i=k/\k<z)∨(i=z/\(k<z->s<=k)/\∀o,ops[z]? =some o->∀e∈qj o,e.on<k):=by
   intro i hi;obtain⟨h1,h2,o,h3,h4⟩:=mem_ready.1 hi;have hb:∀e∈qj o,listed.getD e.on false=true:=fun e he=>h4 e (pY.1 he).1 (pY.1 he).2
   have hlf:¬i<k:=by
    intro hik;have:=hl i;simp only[xu]at this h2;rw[Cu (by omega)]at this h2;simp[hik]at this;simp[this]at h2
   by_cases hiz:i=z
   ·refine .inr ⟨hiz,fun hkz=> ?_,fun o' ho' e he=> ?_⟩
    ·rcases gM k s with hks|hks
     ·have:=I4.Cv (hzs k hks) ⟨o,by rw[<-hiz];exact h3,hb⟩
      rw[hl]at this;simp at this
     ·exact hks
    ·rw[<-hiz,h3]at ho'
     cases ho'
     have:=hb e he;rw[hl]at this;simpa using this
   ·rcases gM k i with hki|hki
    ·have:=I4.Cv (ht i k (by omega) (by omega) hki) ⟨o,h3,hb⟩
     rw[hl]at this;simp at this
    ·exact .inl ⟨by omega,by omega⟩
  refine⟨fun hr=> ?_,fun i hi=> ?_⟩
  ·exfalso
   have Gd:k<ops.length:=by omega
   have ho:=fP Gd
   have:k∈Region.ready .any ops.toArray listed:=mem_ready.2 ⟨Gd,by
    have:=hl k;simp only[xu]at this⊢;rw[Cu (by omega)]at this⊢
    simpa using this,_,ho,fun e he hb=>by
     rw[hl];simpa using hc.edge k _ ho e (pY.2 ⟨he,hb⟩)⟩
   rw[hr]at this;cases this
  ·have hset:∀x,x<ops.length->∀j,(listed.setIfInBounds x true).getD j false=decide (j<k∨j=x):=by
    intro x hx j;have hj:=hl j;simp only[xu,IZ]at hj⊢;by_cases hji:x=j
    ·subst hji;simp[hs,hx]
    ·rw[aU hji,hj]
     congr 1
     exact propext ⟨fun h=>by omega,fun h=>by omega⟩
   match r,hk,hf,h with
   |0,hk,hf,h=>
    rcases zA i hi with⟨rfl,h1⟩|⟨rfl,h1,h2⟩
    ·omega
    ·rw[yg]at h
     refine wpOp_mono (fun a' w' h'=> ?_) h;exact zY hz hc ht 0 k fuel _ a' w' (by omega) hm (by omega) (by simp[hs]) h2 (hset i (by omega)) (by simpa[wpOps]using h')
   |r+1,hk,hf,h=>
    rw[yg]at h;rcases zA i hi with⟨rfl,h1⟩|⟨rfl,h1,h2⟩
    ·refine wpOp_mono (fun a' w' h'=> ?_) h.1
     refine Mt hz hc ht hzs r (i+1) fuel _ a' w' (by omega) (by omega) (by omega) (by simp[hs]) (fun j=> ?_) h';rw[hset i (by omega)]
     congr 1
     exact propext ⟨fun h=>by omega,fun h=>by omega⟩
    ·refine wpOp_mono (fun a' w' h'=> ?_) (h.2 (h1 (by omega)))
     exact zY hz hc ht (r+1) k fuel _ a' w' (by omega) hm (by omega) (by simp[hs]) h2 (hset i (by omega)) h'
termination_by r=>r
def N8(ops:List Oper)(m s:Nat):Bool:=
 let A:=Kc ops
 (List.range ops.length).all fun k=>k<m||((List.range k).all fun j=>(decide (m<=j)&&decide (k+1=ops.length))||(A.getD k []).contains j)&&(!decide (k+1=ops.length)||(List.range s).all fun j=>(A.getD k []).contains j)
theorem TG{ops:List Oper}{m s:Nat}(h:N8 ops m s=true)(hm:m<ops.length):(∀k j,m<=k->k<ops.length->j<m->qJ ops k j)/\(∀k j,m<=k->k<ops.length-1->j<k->qJ ops k j)/\(∀j,j<s->qJ ops (ops.length-1) j):=by
 simp only[N8,List.all_eq_true,List.mem_range,Bool.or_eq_true,Bool.and_eq_true,decide_eq_true_eq,Bool.not_eq_true',decide_eq_false_iff_not]at h;refine⟨fun k j h1 h2 h3=> ?_,fun k j h1 h2 h3=> ?_,fun j h1=> ?_⟩
 ·rcases h k h2 with h'|⟨h',-⟩
  ·omega
  ·rcases h' j (by omega)with h4|h4
   ·omega
   ·exact qW (by simpa using h4)
 ·rcases h k (by omega)with h'|⟨h',-⟩
  ·omega
  ·rcases h' j (by omega)with h4|h4
   ·omega
   ·exact qW (by simpa using h4)
 ·rcases h (ops.length-1) (by omega)with h'|⟨-,h'⟩
  ·omega
  ·rcases h' with h4|h4
   ·omega
   ·exact qW (by simpa using h4 j h1)
theorem Qv{P:Program}{Q:Exit->Act->World->Prop}{w0:World}{a0:List Value}{ds:List Deferred}{id:Nat}{l:List Oper}(n s:Nat)(T:Nat->Ty)(hm:P.follows .mixedOrders=true)(pQ:mE l=true)(hfree:N8 l n s=true)(hn:n<l.length)(hin:kR a0.length l=true)
 (h:∀v,I5 P l T w0 a0 (fun l' w'=>yg P l.toArray Q s (l.length-1) (l.length-1-n) n ⟨l'.toArray,ds⟩ w') v 0 (l.take n) []):(Code.region id l.toArray true).wp P Q ⟨a0.toArray,ds⟩ w0:=by
 have hc:=oM pQ;obtain⟨g1,g2,g3⟩:=TG hfree hn
 exact zP n (fun _=>T) (fun _ _ _ _=>rfl) hm pQ g1 (Nat.le_of_lt hn) hin (fun a w=>yg P l.toArray Q s (l.length-1) (l.length-1-n) n a w)
  (fun fuel listed a w hf hs hL hK=>Mt (by omega) hc g2 g3 (l.length-1-n) n fuel listed a w (by omega) (aI _) (by omega) hs hL hK) h
def Il(K:Act->World->Prop)(Q:Exit->Act->World->Prop):Exit->Act->World->Prop
 |.normal=>K
 |e=>Q e
theorem qz{ops:Array Oper}{K:Act->World->Prop}{k:Nat}{a:Act}{w:World}(o:Oper)(ho:ops[k]? =some o)(h:wpList P ops (Il K Q) [o] a w):wpOp P ops Q k K a w:=by
 unfold wpOp;rw[ho];simp only[wpList]at h⊢
 split
 ·rename_i hw
  rw[bH hw]at h;rcases h with h|h
  ·refine .inl ?_
   unfold Oper.wp at h⊢;generalize (execOp a.eval o).run P w=r at h⊢;unfold Oper.upon at h⊢;exact h
  ·exact .inr h
 ·rename_i hw
  rw[aU hw]at h;exact h
end
def rO:aB:=⟨0,0,0,0,⟨#[]⟩,none,0,0,none,0,0,none,0,0⟩
theorem AQ.sl{n:Nat}{q:aB}{w:World}{vb:Nat}(hvb:w.heap[vb]? =some (.cells q.cells.toArray 30 (0,0))):Sl aj w (some ⟨vb,0,none⟩) [q]:=(fun _=>⟨vb,0,rfl,ay hvb,fun j u hu=>by
 rw[aj.yP]at hu;simp only[World.cell?,hvb,bV];simpa[aj]using hu⟩)
theorem JO{P:Program}{α:Type}(D:El P α){ops:Array Oper}{rest:List Oper}{o:Oper}{a:Act}{w:World}{Q:Exit->Act->World->Prop}(hgd:o.guard=none)(x i:Operand)(ho:o.op=.indexAddr D.t x i)(g n c k:Nat)(hx:a.eval x=.slice (some ⟨g,0,none⟩) n c)(hi:a.eval i=.int .i64 (k:Nat))(hk:k<n)
 (h:wpList P ops Q rest (a.put o.dst (.pointer (some ⟨g,k*D.m,none⟩))) w):wpList P ops Q (o::rest) a w:=by
 obtain⟨i',hi',_,hsz,_⟩:=info_parts D.hi;have hs:∀w,(sizeOf D.e).run P w=.ok D.m w:=fun w=>by simp[sizeOf,typeInfo,hi',hsz]
 have ea:((⟨g,0,none⟩:Addr).add (k*D.m))=⟨g,k*D.m,none⟩:=by
  unfold Addr.add
  split
  ·rename_i h0;simp[h0]
  ·simp
 have hr:(execOp a.eval o).run P w=.ok (.value (.pointer (some ⟨g,k*D.m,none⟩))) w:=by
  rw[<-ea];simp[execOp,ho,hx,hi,Instr.indexAt,asIntOf,run_underlying D.ht,hs,hk]
 refine wpList_plain hgd fun K hK=> ?_;unfold Oper.wp;rw[hr];exact hK _ _ h
theorem Yu(q:aB)(s:GStep)(l:List GStep)(AS:Option Addr)(cS B P base:Nat)(vR:Value)(xs:List aB)(w:World)(hP:w.cell? ⟨P,0,none⟩=some (.slice AS l.length cS))(hPb:P<w.heap.size)(hs:Sl dG w AS l)(hl:l[0]? =some s)
 (hB:w.heap[B]? =some (.cells #[vR] 28 (0,0))) (hO:Own aj base w vR xs) (hb:B<base) (hbw:base<=w.heap.size) (hn:xs.length<=1000000):
 Calls prog 197 #[.agg (aj.E q).toArray,.pointer (some ⟨P,0,none⟩),.pointer (some ⟨B,0,none⟩)] w fun e w'=>e=.returned (.tuple #[])/\pV B vR w w'/\∃v',(v'.ownBlock=vR.ownBlock∨∃g,v'.ownBlock=some g/\w.heap.size<=g)/\w'.heap[B]? =some (.cells #[v'] 28 (0,0))/\Own aj base w' v' (if(decide (q.kind=s.k)&&decide (q.label=s.l))=true then xs++[q]else xs):=by
 have AP:=ah (JN q s);have Hl:=ah hl;obtain⟨N,hN⟩:=aH ((decide (q.kind=s.k)&&decide (q.label=s.l)));rw[hN]at AP⊢;obtain⟨AO,cO,rfl,-,-⟩:=hO.form;have HO:=ah hO;have FN:=ah hbw;have HB:=ah hB;have hBw:=ay hB;have hl0:0<l.length:=(List.getElem?_eq_some_iff.1 hl).1;obtain⟨bS,oS,rfl,-,-⟩:=hs.at_ hl0;clear hN hO hB hl hbw;go_enter func197,ntmps197
 go_upto_region 1 with(refine aG aj (.tmp 0) rfl rfl q rfl fun wA aR bG bB aO=> ?_)
 have lA:=ay bB;have HbA:=ah (show∀wq,Ext wA wq->(aK (aj.E q)).p (.pointer (some ⟨w.heap.size,0,none⟩)) wq from fun wq he=>⟨w.heap.size,0,rfl,bQ lA he.size,fun j u hu=>aO.ext he lA j u hu⟩);have HcP:=ah (fun wq (he:Ext wA wq)=>((aR.trans he).cell (p:=⟨P,0,none⟩) hPb).trans hP);have Hs:=ah (fun wq (he:Ext wA wq)=>hs.ext (aR.trans he));have FX:=ah aR;clear bG bB aO aR hP hs;refine iw (by kernel_rfl) (fun i=>match i with|0=>Ty.is (.agg (aj.E q).toArray)|1=>Ty.is (.slice (some ⟨bS,oS,none⟩) l.length cS)|2=>aK (dG.E s)|3=>Ty.is (.agg (dG.E s).toArray)|4=>Ty.is (.bool N)|_=>Ty.any) (by kernel_rfl) rfl ?_;intro v;refine⟨?_,?_,?_,?_,?_,?_⟩
 ·exact fun wq hq _=>ak rfl (bU 30 (.tmp 3) rfl isAgg30 8 sizeOf30 (aj.E q) rfl (HbA.out _ hq) rfl)
 ·exact fun wq hq _=>ak rfl (oq 36 (.tmp 1) rfl isAgg36 ⟨P,0,none⟩ rfl (HcP.out _ hq) rfl)
 ·rintro wq hq ⟨h0,-⟩
  change v 1=_ at h0;refine ak rfl ?_;exact iq dG (.tmp 5) (.const (.int .i64 0)) rfl _ l cS h0 0 rfl (Hs.out _ hq) s Hl.out
 ·rintro wq hq ⟨h0,-⟩;exact ak rfl (bU 75 (.tmp 6) rfl isAgg75 2 sizeOf75 (dG.E s) rfl h0 rfl)
 ·rintro wq hq ⟨h0,h1,-⟩
  change v 0=_ at h0;change v 3=_ at h1;refine ak rfl ?_;refine fC 198 call198 _ _ rfl rfl [_,_] ⟨h0,h1,trivial⟩ ?_;refine(AP.out wq).mono ?_;rintro e w' ⟨rfl,hx⟩;exact⟨_,rfl,hx,rfl⟩
 ·intro wq hq hT
  have k4:=hT 4 (by decide);change v 4=_ at k4;clear hT;simp only[List.drop_succ_cons,List.drop_zero,gH,dK,List.set_cons_succ,List.set_cons_zero,Nat.reduceAdd];rw[k4];cases N with
  |false=>
   go_wp2;refine bodyPost_end (results_none rfl _ _ _) rfl ?_;have hx:=FX.out.trans hq;exact⟨rfl,⟨hx.os,hx.tape,hx.output,hx.size,fun k hk _ _=>hx.block hk⟩,_,.inl rfl,(hx.block hBw).trans HB.out,by simpa using HO.out.ext hx⟩
  |true=>
   have tq:=ah (FX.out.trans hq)
   have HcB:=ah (show∀wz,Ext wq wz->wz.cell? ⟨B,0,none⟩=some (.slice AO xs.length cO)from fun wz he=>by
    rw[((tq.out.trans he).cell (p:=⟨B,0,none⟩) hBw)];simp[World.cell?,HB.out])
   have arI:=ah (fun wz (he:Ext wq wz)=>HbA.out wz (hq.trans he));have hwq:=tq.out.size;clear HbA HcP Hs AP;go_upto_region 2 with fail
   refine Qv 4 5 (fun i=>match i with|0=>Ty.is (.slice AO xs.length cO)|1=>Ty.is (.agg (aj.E q).toArray)|2=>Ty.is (.int .i64 (xs.length:Nat))|3=>AQ w.heap.size rO|_=>Ty.any) (by kernel_rfl) (by kernel_rfl) (by kernel_rfl) (by decide) rfl ?_;intro v;refine⟨?_,?_,?_,?_,?_⟩
   ·exact fun wq hq _=>ak rfl (oq 28 (.tmp 2) rfl isAgg28 ⟨B,0,none⟩ rfl (HcB.out _ hq) rfl)
   ·exact fun wq hq _=>ak rfl (bU 30 (.tmp 3) rfl isAgg30 8 sizeOf30 (aj.E q) rfl (arI.out _ hq) rfl)
   ·rintro wq hq ⟨h0,-⟩;exact ak rfl (Bg (.tmp 9) 28 _ underlying28 rfl _ _ _ h0 rfl)
   ·exact fun wq hq _=>ak rfl (Kq _ rfl rfl (bX hwq hq.size))
   ·intro wq hq hT
    have k0:=hT 0 (by decide);change v 0=_ at k0;have k1:=hT 1 (by decide);change v 1=_ at k1;have k2:=hT 2 (by decide);change v 2=_ at k2;have k3:=hT 3 (by decide);change (AQ w.heap.size rO).p (v 3) wq at k3;clear hT;simp only[List.drop_succ_cons,List.drop_zero,gH,dK,List.set_cons_succ,List.set_cons_zero,Nat.reduceAdd];rw[k0];rw[k1];rw[k2];generalize v 3=x3 at k3⊢;obtain⟨vb,rfl,hvn,hvb⟩:=k3;refine⟨qz _ rfl ?_,fun h=>absurd h (by decide)⟩;have eD:=ah (tq.out.trans hq);refine lq aj rfl (.tmp 9) (.tmp 12) rfl 1 rfl (HO.out.ext eD.out) rfl (AQ.sl (n:=0) hvb) (by simp;omega) (bX FN.out eD.out.size) ?_;intro v3 w3 hown3 hg3 ES;obtain⟨g,c3,rfl⟩:=hown3.Dz (by simp);have hxl:(xs++[rO]).length=xs.length+1:=by simp
    change wq.grownBy w3 (Value.slice AO xs.length cO).ownBlock at hg3;change _=(Value.slice AO xs.length cO).ownBlock∨_ at ES;have hgB:g≠B:=fun h=>by have:=(hown3.lt g rfl).1;omega
    have hB3:w3.heap[B]? =some (.cells #[.slice AO xs.length cO] 28 (0,0)):=((hg3.block B (bQ hBw eD.out.size) (fun h=>by have:=(HO.out.lt B h.symm).1;omega)).trans (eD.out.block hBw)).trans HB.out
    have agu:(Value.slice (some ⟨g,0,none⟩) (xs++[rO]).length c3).ownBlock=(Value.slice AO xs.length cO).ownBlock∨∃g',(Value.slice (some ⟨g,0,none⟩) (xs++[rO]).length c3).ownBlock=some g'/\w.heap.size<=g':=by
     rcases ES with h|h
     ·exact .inl h
     ·exact .inr ⟨_,h,eD.out.size⟩
    have hfin:∀(w5:World),(∀k,k≠B->k≠g->w5.heap[k]? =w3.heap[k]?)->w5.os=w3.os->w5.tape=w3.tape->w5.output=w3.output->w5.heap.size=w3.heap.size->w5.heap[B]? =some (.cells #[.slice (some ⟨g,0,none⟩) (xs++[rO]).length c3] 28 (0,0))->Own aj base w5 (.slice (some ⟨g,0,none⟩) (xs++[rO]).length c3) ((xs++[rO]).set xs.length q)->
     (pV B (.slice AO xs.length cO) w w5/\∃v',(v'.ownBlock=(Value.slice AO xs.length cO).ownBlock∨∃g',v'.ownBlock=some g'/\w.heap.size<=g')/\w5.heap[B]? =some (.cells #[v'] 28 (0,0))/\Own aj base w5 v' (xs++[q])):=fun w5 h1 h2 h3 h4 h5 h6 h7=>
     ⟨⟨h2.trans (hg3.os.trans eD.out.os),h3.trans (hg3.tape.trans eD.out.tape),h4.trans (hg3.output.trans eD.out.output),by rw[h5];exact bX eD.out.size hg3.size,fun k hk hkB hkv=>by
      have hkg:k≠g:=by
       rintro rfl;rcases ES with h|h
       ·exact hkv h.symm
       ·have:k=wq.heap.size:=by simpa[Value.ownBlock]using h
        have:=eD.out.size;omega
      exact(h1 k hkB hkg).trans ((hg3.block k (bQ hk eD.out.size) (fun h=>hkv h.symm)).trans (eD.out.block hk))⟩,_,agu,h6,by
      have e:(xs++[rO]).set xs.length q=xs++[q]:=by simp
      rwa[e]at h7⟩
    have o7:=ah hfin;have AR:=ah hown3;have HB3:=ah hB3;clear hfin agu ES hg3 hown3 hB3;change yg _ _ _ _ _ 2 5 _ _;refine⟨qz _ rfl ?_,fun _=>qz _ rfl ?_⟩
    ·refine JO aj rfl (.tmp 13) (.tmp 11) rfl g _ c3 xs.length rfl rfl (by rw[hxl];omega) ?_
     change yg _ _ _ _ _ 1 6 _ _;refine⟨qz _ rfl ?_,fun _=>qz _ rfl ?_⟩
     ·refine nU aj rfl (.tmp 14) (.tmp 10) rfl g c3 xs.length (xs.length*8) q (.agg (aj.E q).toArray) rfl rfl rfl rfl AR.out (by rw[hxl];omega) ?_
      intro w4 hw4 Mv Mw Mx akq abo;simp only[wpList,Il,yg];refine qz _ rfl ?_;refine aP rfl 28 (.tmp 2) (.tmp 13) rfl B 0 (.slice (some ⟨g,0,none⟩) (xs++[rO]).length c3) rfl rfl [.slice (some ⟨g,0,none⟩) (xs++[rO]).length c3] rfl sizeOf28 (by simp[Value.oneCell']) 28 _ ((hw4 B hgB.symm).trans HB3.out) (by simp) ?_;intro w5 rz MB MC ME akr ank;simp only[wpList,Il];have hown5:=abo.keep (w':=w5) (fun k hk=>rz k (fun h=>by subst h;exact hgB (by simpa[Value.ownBlock]using hk)));have hres:=o7.out w5 (fun k h1 h2=>(rz k h1).trans (hw4 k h2)) (MB.trans Mv) (MC.trans Mw) (ME.trans Mx) (by omega) (by rw[ank];simp) hown5;clear hw4 rz abo hown5;go_wp2;refine bodyPost_end (results_none rfl _ _ _) rfl ?_;exact⟨rfl,hres⟩
     ·refine aP rfl 28 (.tmp 2) (.tmp 13) rfl B 0 (.slice (some ⟨g,0,none⟩) (xs++[rO]).length c3) rfl rfl [.slice (some ⟨g,0,none⟩) (xs++[rO]).length c3] rfl sizeOf28 (by simp[Value.oneCell']) 28 _ HB3.out (by simp) ?_
      intro w4 hw4 Mv Mw Mx akq Yv;have kC:=AR.out.keep (w':=w4) (fun k hk=>hw4 k (fun h=>by subst h;exact hgB (by simpa[Value.ownBlock]using hk)));simp only[wpList,Il,List.range',wpOps_cons];refine qz _ rfl ?_;refine nU aj rfl (.tmp 14) (.tmp 10) rfl g c3 xs.length (xs.length*8) q (.agg (aj.E q).toArray) rfl rfl rfl rfl kC (by rw[hxl];omega) ?_;intro w5 rz MB MC ME akr Im;simp only[wpList,Il,wpOps];have hres:=o7.out w5 (fun k h1 h2=>(rz k h2).trans (hw4 k h1)) (MB.trans Mv) (MC.trans Mw) (ME.trans Mx) (by omega) ((rz B hgB.symm).trans (by rw[Yv];simp)) Im;clear hw4 rz kC Im;go_wp2;refine bodyPost_end (results_none rfl _ _ _) rfl ?_;exact⟨rfl,hres⟩
    ·refine aP rfl 28 (.tmp 2) (.tmp 13) rfl B 0 (.slice (some ⟨g,0,none⟩) (xs++[rO]).length c3) rfl rfl [.slice (some ⟨g,0,none⟩) (xs++[rO]).length c3] rfl sizeOf28 (by simp[Value.oneCell']) 28 _ HB3.out (by simp) ?_
     intro w4 hw4 Mv Mw Mx akq Yv;have kC:=AR.out.keep (w':=w4) (fun k hk=>hw4 k (fun h=>by subst h;exact hgB (by simpa[Value.ownBlock]using hk)));simp only[wpList,Il,List.range',wpOps_cons];refine qz _ rfl ?_;refine JO aj rfl (.tmp 13) (.tmp 11) rfl g _ c3 xs.length rfl rfl (by rw[hxl];omega) ?_;simp only[wpList,Il,wpOps_cons];refine qz _ rfl ?_;refine nU aj rfl (.tmp 14) (.tmp 10) rfl g c3 xs.length (xs.length*8) q (.agg (aj.E q).toArray) rfl rfl rfl rfl kC (by rw[hxl];omega) ?_;intro w5 rz MB MC ME akr Im;simp only[wpList,Il,wpOps];have hres:=o7.out w5 (fun k h1 h2=>(rz k h2).trans (hw4 k h1)) (MB.trans Mv) (MC.trans Mw) (ME.trans Mx) (by omega) ((rz B hgB.symm).trans (by rw[Yv];simp)) Im;clear hw4 rz kC Im;go_wp2;refine bodyPost_end (results_none rfl _ _ _) rfl ?_;exact⟨rfl,hres⟩
def uH(v v':Value)(w:World):Prop:=v'.ownBlock=v.ownBlock∨∃g,v'.ownBlock=some g/\w.heap.size<=g
theorem uH.refl(v:Value)(w:World):uH v v w:=.inl rfl
theorem uH.trans{v v1 v2:Value}{w w1:World}(h:uH v v1 w)(k:uH v1 v2 w1)(hs:w.heap.size<=w1.heap.size):uH v v2 w:=by
 rcases k with k|⟨g,k,hg⟩
 ·rcases h with h|⟨g,h,hg⟩
  ·exact .inl (k.trans h)
  ·exact .inr ⟨g,k.trans h,hg⟩
 ·exact .inr ⟨g,k,by omega⟩
theorem pV.dH{B:Nat}{v:Value}{w w':World}(h:Ext w w'):pV B v w w':=⟨h.os,h.tape,h.output,h.size,fun k hk _ _=>h.block hk⟩
theorem pV.trans{B:Nat}{v v1:Value}{w w1 w2:World}(h:pV B v w w1)(hl:uH v v1 w)(k:pV B v1 w1 w2):pV B v w w2:=
 ⟨k.os.trans h.os,k.tape.trans h.tape,k.output.trans h.output,bX h.size k.size,fun j hj h1 h2=>(k.block j (bQ hj h.size) h1 (fun e=>by
  rcases hl with hl|⟨g,hl,hg⟩
  ·exact h2 (hl.symm.trans e)
  ·rw[hl]at e
   simp only[Option.some.injEq]at e;omega)).trans (h.block j hj h1 h2)⟩
structure FI (R0:World) (B base:Nat) (v:Value) (acc:List av) (w:World):Prop where
 ext:Ext R0 w
 blk:w.heap[B]? =some (.cells #[v] 28 (0,0))
 row:∃xs,Own aj base w v xs/\ReadsAll R0 acc xs
theorem FI.mono{R0:World}{B base:Nat}{v:Value}{acc:List av}{w w':World}(h:FI R0 B base v acc w)(he:Ext w w'):FI R0 B base v acc w':=by
 obtain⟨xs,h1,h2⟩:=h.row;exact⟨h.ext.trans he,(he.block (ay h.blk)).trans h.blk,xs,h1.ext he,h2⟩
theorem FI.next{R0:World}{B base:Nat}{v v':Value}{acc:List av}{w w':World}{xs:List aB}(h:FI R0 B base v acc w)(D5:R0.heap.size<=B)(hb:B<base)(hB:pV B v w w')(hblk:w'.heap[B]? =some (.cells #[v'] 28 (0,0)))(hO:Own aj base w' v' xs){acc':List av}(hA:ReadsAll R0 acc' xs):FI R0 B base v' acc' w':=by
 obtain⟨ys,h1,-⟩:=h.row;exact⟨hB.uZ h.ext D5 (fun k hk=>by have:=(h1.lt k hk).1;omega),hblk,xs,hO,hA⟩
def TH(R0:World)(B base P:Nat)(s:GStep)(N:Nat):Prop:=∀(u:av) (r:aB) (v:Value) (acc:List av) (w:World),SizeOf.sizeOf u<=N->Reads R0 u r->dI u->FI R0 B base v acc w->base<=w.heap.size->acc.length+cntF u<=1000000->
 Calls prog 196 #[.agg r.cells.toArray,.func (.func 197) #[] #[.pointer (some ⟨P,0,none⟩),.pointer (some ⟨B,0,none⟩)]] w fun e w'=>e=.returned (.tuple #[])/\pV B v w w'/\∃v',uH v v' w/\FI R0 B base v' (acc++(bO u).filter (jd · s)) w'
theorem filter_le{α:Type}(p:α->Bool)(l:List α):(l.filter p).length<=l.length:=List.length_filter_le _ _
theorem abp{R0:World}{B base P:Nat}{s:GStep}{l:List GStep}{AS:Option Addr}{cS:Nat}(hP:R0.cell? ⟨P,0,none⟩=some (.slice AS l.length cS))(hPb:P<R0.heap.size)(hs:Sl dG R0 AS l)(hl:l[0]? =some s)(D5:R0.heap.size<=B)(hb:B<base)(N:Nat)(ih:TH R0 B base P s N):TH R0 B base P s (N+1):=by
 intro u r v acc w hN hr hok hI hbw hn;obtain⟨hid,hkd,hlb,-,-,-,-,-,-,hkn,hkc,rs,hrs,hall,hrl⟩:=hr.j5;obtain⟨xs,hO,hA⟩:=hI.row;have hal:=hA.length;have hcl:(decide (r.kind=s.k)&&decide (r.label=s.l))=jd u s:=by unfold jd;rw[hkd,hlb]
 have Hf:=ah (fun wq (he:Ext w wq)=>Yu r s l AS cS B P base v xs wq (((hI.ext.trans he).cell (p:=⟨P,0,none⟩) hPb).trans hP) (bQ hPb (hI.ext.trans he).size) (hs.ext (hI.ext.trans he)) hl ((he.block (ay hI.blk)).trans hI.blk) (hO.ext he) hb (bX hbw he.size) (by have:=V5 u;omega))
 have HA2:=ah (show ReadsAll R0 (acc++(if jd u s=true then [u]else [])) (if(decide (r.kind=s.k)&&decide (r.label=s.l))=true then xs++[r]else xs)from by
  rw[hcl]
  split
  ·exact hA.snoc hr
  ·rw[kY];exact hA)
 have Hlen:=ah (show acc.length+1+bZ u.kids<=1000000 from by have:=jR u;omega);have uG:=ah (fun k (h:k<u.kids.length)=>ih u.kids[k]);have qE:=ah (fun k (h:k<u.kids.length)=>qO hN h);have fI:=ah (fun k (h:k<u.kids.length)=>hok.kid (dW h));have KJ:=ah (jy u);have jo:=ah hall;have Hrl:=ah hrl;have FD:=ah (show r.kn=rs.length from by omega);have hrn:rs.length<=1000:=by have:=hok.all.head.2.2.2.1;omega
 have HI:=ah hI;have HO:=ah hO;have FN:=ah hbw;have HRB:=ah D5;have Hb:=ah hb;clear hid hkd hlb hkn hkc hall hrl hO hA hal hcl hI hbw hn hN hr hok ih hP hPb hs hl D5 hb;go_enter func196,ntmps196
 go_upto_region 1 with(refine aG aj (.tmp 0) rfl rfl r rfl fun wA aR bG bB aO=> ?_)
 have oZ:=ah aO;have HkA:=ah (ay bB);have FX:=ah aR;have l8:=ah (Hf.out wA aR);clear bG bB aO aR Hf;go_wp2_with ((with_reducible refine au aj (.tmp 2) ?_ ?_ ?_ w.heap.size 0 ?_ r ?_ ?_);rfl;rfl;rfl;rfl;exact oZ.out)
 refine l8.out.mono ?_;rintro e w2 ⟨rfl,hb2,v2,hl2,hB2,hO2⟩;have Yw:pV B v w w2:=(pV.dH FX.out).trans (uH.refl v w) hb2
 have agw:uH v v2 w:=by
  rcases hl2 with h|⟨g,h,hg⟩
  ·exact .inl h
  ·exact .inr ⟨g,h,bX FX.out.size hg⟩
 have agx:=ah Yw;have agy:=ah agw;have HI2:=ah (HI.out.next HRB.out Hb.out Yw hB2 hO2 HA2.out);have hk2:∀j,w2.cell? ⟨w.heap.size,j,none⟩=wA.cell? ⟨w.heap.size,j,none⟩:=fun j=>World.cell?_of_block (hb2.block w.heap.size HkA.out (by have:=ay HI.out.blk;omega) (fun h=>by have:=(HO.out.lt _ h).2;omega))
 have c7:w2.cell? ⟨w.heap.size,7,none⟩=some (.slice r.kA rs.length r.kc):=by
  rw[hk2 7];have:=oZ.out.one 7 (u:=.slice r.kA r.kn r.kc) rfl;simpa[FD.out]using this
 clear hk2 hb2 hl2 hB2 hO2 Yw agw l8 oZ;go_wp2
 go_loopw [12] (fun vk wr=>∃(k:Nat) (v3:Value),k<=rs.length/\vk=.int .i64 (k:Nat)/\Hid (FI R0 B base v3 (acc++(if jd u s=true then [u]else [])++(eO (u.kids.take k)).filter (jd · s)) wr)/\Hid (pV B v w wr)/\Hid (uH v v3 w)) (fun vk _=>rs.length-(intOf vk).toNat)
 case atStart=>
  refine⟨0,v2,bI _,rfl,ah ?_,agx,agy⟩;have:=HI2.out;simpa[eO]using this
 case round=>
  clear c7 HI2 agx agy;obtain⟨k,v3,hk,rfl,Hk,KL,KM⟩:=hrel;by_cases hlt:k<rs.length
  ·have f1:=eY k rs.length
   obtain⟨b,off,lI,hbb,hcs⟩:=(hrs.ext Hk.out.ext).at_ hlt;have hltk:k<u.kids.length:=by rw[<-Hrl.out];exact hlt
   have q9:=ah (ReadsAll.get jo.out k hltk hlt);obtain⟨q,hqq⟩:=aH (rs[k]);rw[hqq]at hcs q9;have jD:=ah (show At wr b (off+k*8) (aj.E q)from hcs);have HAe:=ah lI;clear hcs hqq lI;rw[HAe.out];go_upto_region 5 with(first|((with_reducible refine au aj (.tmp 14) ?_ ?_ ?_ b (off+k*8) ?_ q ?_ ?_);rfl;rfl;rfl;rfl;exact jD.out)|(refine aL aj rfl rfl fun wG dL fF dM=> ?_)|(refine aD aj (.tmp 5) (.tmp 15) rfl rfl wr wr.heap.size rfl q rfl _ _ dM rfl dL (aI _) fun w3 hx3 hz3 hk3 dX ho3=> ?_))
   have jq:=ah dX;have eU:=ah hx3;have hsz:=KL.out.size
   have iY:=ah (uG.out k hltk q v3 _ w3 (qE.out k hltk) q9.out (fI.out k hltk) (Hk.out.mono hx3) (bX FN.out (bX hsz hx3.size)) (by
    have h1:=Hlen.out;have h2:=filter_le (jd · s) (eO (u.kids.take k));rw[Kh]at h2;have h3:=OA hltk
    have h4:bZ (u.kids.take (k+1))<=bZ u.kids:=by
     have:=qF (u.kids.take (k+1)) (u.kids.drop (k+1));rw[jl]at this;omega
    have h5:(if jd u s=true then [u]else []).length<=1:=by split<;>simp
    simp only[eu];omega))
   clear fF dM dL hz3 hk3 dX ho3 hx3;go_wp2_with ((with_reducible refine au aj (.tmp 5) ?_ ?_ ?_ wr.heap.size 0 ?_ q ?_ ?_);rfl;rfl;rfl;rfl;exact jq.out)
   refine iY.out.mono ?_;rintro e w4 ⟨rfl,hb4,v4,hl4,hI4⟩;have Yx:=ah (KL.out.trans KM.out ((pV.dH eU.out).trans (uH.refl v3 wr) hb4));have Yy:=ah (KM.out.trans hl4 (bX hsz eU.out.size))
   have HI4:=ah (show FI R0 B base v4 (acc++(if jd u s=true then [u]else [])++(eO (u.kids.take (k+1))).filter (jd · s)) w4 from by
    rw[OE hltk,List.filter_append,<-dV];exact hI4)
   clear hb4 hl4 hI4 iY jq jD;go_wp2;go_roundw
   case rel=>exact⟨k+1,v4,by omega,by go_num,HI4,Yx,Yy⟩
   case measure=>simp[intOf];omega
  ·have f1:=fT k rs.length
   go_wp2;refine bodyPost_end (results_none rfl _ _ _) rfl ?_;refine⟨rfl,KL.out,v3,KM.out,?_⟩;have h1:=Hk.out;rw[gY (by rw[<-Hrl.out];omega)]at h1;rw[KJ.out,List.filter_cons];cases hc:jd u s with
   |true=>rw[hc]at h1;simpa using h1
   |false=>rw[hc]at h1;simpa using h1
theorem TI{R0:World}{B base P:Nat}{s:GStep}{l:List GStep}{AS:Option Addr}{cS:Nat}(hP:R0.cell? ⟨P,0,none⟩=some (.slice AS l.length cS))(hPb:P<R0.heap.size)(hs:Sl dG R0 AS l)(hl:l[0]? =some s)(D5:R0.heap.size<=B)(hb:B<base):∀N,TH R0 B base P s N
 |0=>fun _ _ _ _ _ h=>(xI h).elim
 |N+1=>abp hP hPb hs hl D5 hb N (TI hP hPb hs hl D5 hb N)
def Yz(V:Prop):Ty:=⟨fun x _=>∃t:ByteArray,x=.string t/\t.size<=200000/\(V->t.size<=130),fun _ _ _ _ h=>h⟩
def YA(V:Prop):Ty:=⟨fun x w=>∃(A:Option Addr) (t:ByteArray),x=.slice A 1 1/\Sl bP w A [t]/\t.size<=200000/\(V->t.size<=130),fun _ _ _ he ⟨A,t,h1,h2,h3⟩=>⟨A,t,h1,h2.ext he,h3⟩⟩
theorem ad5{ρ:Operand->Value}{o:Oper}{w:World}(V:Prop)(x:Operand)(ho:o.op=.buildSlice 37 1 #[(0,x)])(hx:(Yz V).p (ρ x) w):bL prog ρ o w (YA V).p:=by
 obtain⟨t,h1,h2,h3⟩:=hx;have hr:=Bw bP (.string t) t rfl (by decide) w
 exact eT (w':=w.alloc (.cells (bP.E t).toArray bP.e)) (v:=.slice (some ⟨w.heap.size,0,none⟩) 1 1) (by
  simp only[execOp,ho,List.map_toArray,gX,List.map_nil,h1];simp only[Sem.run_bind];rw[show bP.t=37 from rfl]at hr;rw[hr];rfl) ((Ext.refl w).alloc _) ⟨_,t,rfl,Sl.new bP (by simp[El.flat]),h2,h3⟩
structure LI (R0:World) (B E base:Nat) (C:Value) (V:Prop) (v:Value) (n:Nat) (w:World):Prop where
 ext:Ext R0 w
 blk:w.heap[B]? =some (.cells #[v] 37 (0,0))
 ad6:w.cell? ⟨E,0,none⟩=some C
 elt:E<w.heap.size
 row:∃xs:List ByteArray,Own bP base w v xs/\xs.length=n/\(∀s∈xs,s.size<=200000)/\(V->∀s∈xs,s.size<=130)
theorem LI.mono{R0:World}{B E base:Nat}{C:Value}{V:Prop}{v:Value}{n:Nat}{w w':World}(h:LI R0 B E base C V v n w)(he:Ext w w'):LI R0 B E base C V v n w':=by
 obtain⟨xs,h1,h2⟩:=h.row;exact⟨h.ext.trans he,(he.block (ay h.blk)).trans h.blk,(he.cell (p:=⟨E,0,none⟩) h.elt).trans h.ad6,bQ h.elt he.size,xs,h1.ext he,h2⟩
def TJ(R0:World)(B E base:Nat)(C:Value)(V:Prop)(N:Nat):Prop:=∀(u:av) (r:aB) (d:Nat) (v:Value) (n:Nat) (w:World),SizeOf.sizeOf u<=N->Reads R0 u r->dI u->LI R0 B E base C V v n w->base<=w.heap.size->n+cntF u<=1000->d+cntF u<=2000->(V->gG u/\d=0)->
 Calls prog 236 #[.agg r.cells.toArray,.int .i64 d,.pointer (some ⟨B,0,none⟩),.pointer (some ⟨E,0,none⟩)] w fun e w'=>e=.returned (.tuple #[])/\pV B v w w'/\∃v',uH v v' w/\LI R0 B E base C V v' (n+cntF u) w'
theorem abt{R0:World}{B E base:Nat}{C:Value}{V:Prop}(hC:C=.func (.func 236) #[] #[.pointer (some ⟨B,0,none⟩),.pointer (some ⟨E,0,none⟩)])(hT:kN R0)(D5:R0.heap.size<=B)(hBE:B<E)(hb:E<base)(N:Nat)(ih:TJ R0 B E base C V N):TJ R0 B E base C V (N+1):=by
 intro u r d vR n w hN hr hok hI hbw hn hd hv;obtain⟨-,-,-,-,-,-,-,-,-,hkn,-,rs,hrs,hall,hrl⟩:=hr.j5;have HI:=ah hI;have HT:=ah hT;have HV:=ah hv;have aks:=ah (fun wq (he:Ext w wq)=>VG u r d wq (Reads.ext (hI.ext.trans he) u r hr) hok (hT.ext (hI.ext.trans he)));have uG:=ah (fun k (h:k<u.kids.length)=>ih u.kids[k]);have qE:=ah (fun k (h:k<u.kids.length)=>qO hN h);have fI:=ah (fun k (h:k<u.kids.length)=>hok.kid (dW h));have jo:=ah hall;have Hrl:=ah hrl;have FD:=ah (show r.kn=rs.length from by omega);have hrn:rs.length<=1000:=by have:=hok.all.head.2.2.2.1;omega
 have GH:=ah (jR u);have FN:=ah hbw;have HRB:=ah D5;have HBE:=ah hBE;have Hb:=ah hb;have HC:=ah hC;have hBw:=ay hI.blk;have HBb:=ah hBw;clear hkn hall hrl hI hbw hN hr hok ih D5 hBE hb hT hv hC;go_enter func236,ntmps236
 go_upto_region 1 with(refine aG aj (.tmp 0) rfl rfl r rfl fun wA aR bG bB aO=> ?_)
 have FX:=ah aR;have lA:=ay bB;have HbA:=ah (show∀wq,Ext wA wq->(aK [.int .i64 r.a,.int .i64 r.i,.int .i64 r.n,.int .i64 r.kind,.string r.label,.slice r.hA r.hn r.hc,.slice r.wA r.wn r.wc,.slice r.kA r.kn r.kc]).p (.pointer (some ⟨w.heap.size,0,none⟩)) wq from fun wq he=>⟨w.heap.size,0,rfl,bQ lA he.size,fun j y hy=>aO.ext he lA j y hy⟩);have oZ:=ah (fun W (he:Ext wA W)=>aO.ext he lA);have HBc:=ah (fun wq (he:Ext wA wq)=>((aR.trans he).block hBw).trans HI.out.blk);have HBb:=ah (bQ hBw aR.size);have WE:=ah (fun wq (he:Ext wA wq)=>aks.out wq (aR.trans he));clear aR bG bB aO aks;refine iJ 5 (fun i=>match i with|0=>Ty.is (vR)|1=>Ty.is (.agg (aB.cells r).toArray)|2=>Ty.is (.int .i64 (d:Nat))|3=>Yz V|4=>YA V|_=>Ty.any) (by kernel_rfl) (by kernel_rfl) (by kernel_rfl) (by decide) rfl ?_;intro v;refine⟨?_,?_,?_,?_,?_,?_⟩
 ·exact fun wq hq _=>ak rfl (bW 37 (.tmp 2) rfl isAgg37 (c:=vR) ⟨B,0,rfl,bQ HBb.out hq.size,fun j y hy=>Tt (cs:=[vR]) (HBc.out wq hq) j y hy⟩ rfl)
 ·exact fun wq hq _=>ak rfl (bU 30 (.tmp 4) rfl isAgg30 8 sizeOf30 [.int .i64 r.a,.int .i64 r.i,.int .i64 r.n,.int .i64 r.kind,.string r.label,.slice r.hA r.hn r.hc,.slice r.wA r.wn r.wc,.slice r.kA r.kn r.kc] rfl (HbA.out _ hq) rfl)
 ·exact fun wq hq _=>ak rfl (aF (.tmp 1) rfl rfl rfl)
 ·rintro wq hq ⟨h0,h1,-⟩
  change v 1=_ at h0;change v 2=_ at h1;refine ak rfl ?_;refine fC 237 call237 _ _ rfl rfl [_,_] ⟨h0,h1,trivial⟩ ?_;refine(WE.out wq hq).mono ?_;rintro e w' ⟨t,rfl,h1,h2,hx'⟩;exact⟨_,rfl,hx',t,rfl,h1,fun h=>h2 (HV.out h)⟩
 ·rintro wq hq ⟨h0,-⟩
  change (Yz V).p (v 3) wq at h0;refine ak rfl ?_;exact ad5 V (.tmp 11) rfl h0
 ·intro wq hq hT
  have k0:=hT 0 (by decide);change v 0=_ at k0;have k4:=hT 4 (by decide);change (YA V).p (v 4) wq at k4;clear hT;simp only[List.drop_succ_cons,List.drop_zero,gH,dK,List.set_cons_succ,List.set_cons_zero,Nat.reduceAdd];rw[k0];generalize v 4=x4 at k4⊢;obtain⟨A1,t1,rfl,hs1,ht1,ht2⟩:=k4;have D6:=FX.out.trans hq;obtain⟨xs,hO,hxl,hx1,hx2⟩:=HI.out.row;have Ag:1<=cntF u:=by have:=GH.out;omega
  refine lq bP rfl (.tmp 8) (.tmp 12) rfl 1 rfl (hO.ext D6) rfl hs1 (by simp;omega) (bX FN.out D6.size) ?_;intro v3 w3 hown3 hg3 ES;obtain⟨g,c3,rfl⟩:=hown3.Dz (by simp);have hgb:=(hown3.lt g rfl).1;have FM:∀k,vR.ownBlock=some k->base<=k:=fun k hk=>(hO.lt k hk).1;have avZ:=HBE.out;have hb':=Hb.out;have hB3:w3.heap[B]? =some (.cells #[vR] 37 (0,0)):=(hg3.block B (bQ hBw D6.size) (fun h=>by have:=FM B h.symm;omega)).trans (HBc.out wq hq);refine aP rfl 37 (.tmp 2) (.tmp 13) rfl B 0 (.slice (some ⟨g,0,none⟩) (xs++[t1]).length c3) rfl rfl [.slice (some ⟨g,0,none⟩) (xs++[t1]).length c3] rfl sizeOf37 (by simp[Value.oneCell']) _ _ hB3 (by simp) ?_;intro w4 hw4 dP dQ dR hs4 eX
  have hloc:uH vR (.slice (some ⟨g,0,none⟩) (xs++[t1]).length c3) w:=by
   rcases ES with h|h
   ·exact .inl h
   ·exact .inr ⟨_,h,D6.size⟩
  have hne:∀k,k<wq.heap.size->k≠B->vR.ownBlock≠some k->w4.heap[k]? =wq.heap[k]? :=fun k hk hkB hkv=>(hw4 k hkB).trans (hg3.block k hk (fun h=>hkv h.symm));have hbel:pV B vR w w4:=⟨dP.trans (hg3.os.trans D6.os),dQ.trans (hg3.tape.trans D6.tape),dR.trans (hg3.output.trans D6.output),by rw[hs4];exact bX D6.size hg3.size,fun k hk hkB hkv=>(hne k (bQ hk D6.size) hkB hkv).trans (D6.block hk)⟩;have kC:Own bP base w4 (.slice (some ⟨g,0,none⟩) (xs++[t1]).length c3) (xs++[t1]):=hown3.keep fun k hk=>hw4 k (fun e=>by have:=(hown3.lt k hk).1;omega);have hEw:=HI.out.elt;have hcell:∀k,k<wq.heap.size->k≠B->vR.ownBlock≠some k->∀j,w4.cell? ⟨k,j,none⟩=wq.cell? ⟨k,j,none⟩:=fun k hk h1 h2 j=>World.cell?_of_block (hne k hk h1 h2)
  have HL:=ah (show LI R0 B E base C V (.slice (some ⟨g,0,none⟩) (xs++[t1]).length c3) (n+1) w4 from
   ⟨hbel.uZ HI.out.ext HRB.out (fun k hk=>by have:=FM k hk;have:=HRB.out;omega),by rw[eX];simp,(hcell E (bQ hEw D6.size) (by omega) (fun h=>by have:=FM E h;omega) 0).trans ((D6.cell (p:=⟨E,0,none⟩) hEw).trans HI.out.ad6),bQ hEw hbel.size,_,kC,by simp[hxl],fun s hs=>by
    rw[oo,kX]at hs;rcases hs with hs|rfl
    ·exact hx1 s hs
    ·exact ht1,fun hV s hs=>by
    rw[oo,kX]at hs;rcases hs with hs|rfl
    ·exact hx2 hV s hs
    ·exact ht2 hV⟩)
  have c7:w4.cell? ⟨w.heap.size,7,none⟩=some (.slice r.kA rs.length r.kc):=by
   rw[hcell w.heap.size (bQ lA hq.size) (by omega) (fun h=>by have:=(hO.lt _ h).2;omega) 7];obtain⟨-,-,-,-,c7⟩:=o8 (oZ.out wq hq);rw[c7,FD.out]
  have akv:=ah hbel;have ad7:=ah hloc;obtain⟨v4,hv4⟩:∃z,Value.slice (some ⟨g,0,none⟩) (xs++[t1]).length c3=z:=⟨_,rfl⟩;rw[hv4]at HL ad7⊢;clear hv4 hcell kC hbel hne hloc hw4 dP dQ dR hs4 eX hB3 FM hgb hown3 hg3 ES hs1 ht1 ht2 hO hxl hx1 hx2 D6 hq k0 HBc oZ;go_wp2
  go_loopw [17] (fun vk wr=>∃(k:Nat) (v3:Value),k<=rs.length/\vk=.int .i64 (k:Nat)/\Hid (LI R0 B E base C V v3 (n+1+bZ (u.kids.take k)) wr)/\Hid (pV B vR w wr)/\Hid (uH vR v3 w)) (fun vk _=>rs.length-(intOf vk).toNat)
  case atStart=>exact⟨0,v4,bI _,rfl,ah (by have:=HL.out;simpa[bZ]using this),akv,ad7⟩
  case round=>
   clear c7 HL akv ad7;obtain⟨k,v3,hk,rfl,Hk,KL,KM⟩:=hrel;by_cases hlt:k<rs.length
   ·have f1:=eY k rs.length
    obtain⟨b,off,lI,hbb,hcs⟩:=(hrs.ext Hk.out.ext).at_ hlt;have hltk:k<u.kids.length:=by rw[<-Hrl.out];exact hlt
    have q9:=ah (ReadsAll.get jo.out k hltk hlt);obtain⟨q,hqq⟩:=aH (rs[k]);rw[hqq]at hcs q9;have jD:=ah (show At wr b (off+k*8) (aj.E q)from hcs);have HAe:=ah lI;have hck:bZ (u.kids.take k)+cntF u.kids[k]=bZ (u.kids.take (k+1)):=by rw[jk hltk,qF,bZ,bZ];omega
    have hcl:bZ (u.kids.take (k+1))<=bZ u.kids:=by
     have:=qF (u.kids.take (k+1)) (u.kids.drop (k+1));rw[jl]at this;omega
    have arJ:=GH.out;clear hcs hqq lI;rw[HAe.out];go_upto_region 5 with(first|((with_reducible refine au aj (.tmp 19) ?_ ?_ ?_ b (off+k*8) ?_ q ?_ ?_);rfl;rfl;rfl;rfl;exact jD.out)|(refine aL aj rfl rfl fun wG dL fF dM=> ?_)|(refine aD aj (.tmp 7) (.tmp 20) rfl rfl wr wr.heap.size rfl q rfl _ _ dM rfl dL (aI _) fun w3 hx3 hz3 hk3 dX ho3=> ?_))
    have jq:=ah dX;have eU:=ah hx3;have hsz:=KL.out.size;have hLk:=Hk.out.mono hx3;have ce:w3.cell? ⟨E,0,none⟩=some (.func (.func 236) #[] #[.pointer (some ⟨B,0,none⟩),.pointer (some ⟨E,0,none⟩)]):=by rw[hLk.ad6,HC.out]
    have iY:=ah (uG.out k hltk q (d+1) v3 (n+1+bZ (u.kids.take k)) w3 (qE.out k hltk) q9.out (fI.out k hltk) hLk (bX FN.out (bX hsz hx3.size)) (by omega) (by omega) (fun h=>by have h1:=(HV.out h).1.kids;rw[h1]at hltk;cases hltk));rw[show((d+1:Nat):Int)=(d:Int)+1 from rfl]at iY;have Hck:=ah hck;clear fF dM dL hz3 hk3 dX ho3 hx3 hLk hck hcl arJ;go_wp2_with ((with_reducible refine au aj (.tmp 7) ?_ ?_ ?_ wr.heap.size 0 ?_ q ?_ ?_);rfl;rfl;rfl;rfl;exact jq.out)
    refine iY.out.mono ?_;rintro e w4 ⟨rfl,hb4,v4,hl4,hI4⟩;have Yx:=ah (KL.out.trans KM.out ((pV.dH eU.out).trans (uH.refl v3 wr) hb4));have Yy:=ah (KM.out.trans hl4 (bX hsz eU.out.size))
    have HI4:=ah (show LI R0 B E base C V v4 (n+1+bZ (u.kids.take (k+1))) w4 from by
     rw[<-Hck.out,<-Nat.add_assoc];exact hI4)
    clear hb4 hl4 hI4 iY jq jD ce;go_wp2;go_roundw
    case rel=>exact⟨k+1,v4,by omega,by go_num,HI4,Yx,Yy⟩
    case measure=>simp[intOf];omega
   ·have f1:=fT k rs.length
    go_wp2;refine bodyPost_end (results_none rfl _ _ _) rfl ?_;refine⟨rfl,KL.out,v3,KM.out,?_⟩;have h1:=Hk.out;rw[gY (by rw[<-Hrl.out];omega)]at h1;rw[GH.out,<-Nat.add_assoc];exact h1
theorem TK{R0:World}{B E base:Nat}{C:Value}{V:Prop}(hC:C=.func (.func 236) #[] #[.pointer (some ⟨B,0,none⟩),.pointer (some ⟨E,0,none⟩)])(hT:kN R0)(D5:R0.heap.size<=B)(hBE:B<E)(hb:E<base):∀N,TJ R0 B E base C V N
 |0=>fun _ _ _ _ _ _ h=>(xI h).elim
 |N+1=>abt hC hT D5 hBE hb N (TK hC hT D5 hBE hb N)
end Go.Proofs.YtgboomjahhnldaaGreatDoor
