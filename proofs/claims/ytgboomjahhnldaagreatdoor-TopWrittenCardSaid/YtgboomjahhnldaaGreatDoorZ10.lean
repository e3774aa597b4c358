/- A part of the proof of TopWritten, printed small: TDoers Del8W TDel TCopy. -/
import Derived.Test.YtgboomjahhnldaaGreatDoorZ09
import Derived.Test.YtgboomjahhnldaaGreatDoorZ05
import Derived.Laws.OwnMore
import Derived.Lib.AppendZerosOnto
import Derived.Lib.Overlaps
import Derived.Deep.DeepAppendWide
set_option maxRecDepth 100000
set_option maxHeartbeats 25600000
set_option linter.all false
namespace Go.Proofs.YtgboomjahhnldaaGreatDoor
open Go.Proofs.Tryz Go.RowKit
theorem XG.reads{n b:Nat}{p:Nat->Bool}{w:World}{x:av}{r:aB}(h:XG n b p w x r):Reads (mask p w) x r:=by
 obtain⟨rs,hown,hall,hg⟩:=h.k;obtain⟨A,c,hv,hc,-,hsl⟩:=hown.kG (p:=p) (fun g _ hgg=>(hg g hgg).2);have hl:=hall.length;have hv0:=hv;simp only[Value.slice.injEq]at hv;obtain⟨rfl,h2,h3⟩:=hv;have hw:aZ (mask (FC p (.slice r.kA r.kn r.kc)) w) (mask p w):=aZ.weaken w fun k hk=>by simp[FC,hk]
 exact Reads.of h.id h.kind h.label h.hn h.hc (h.hs.cin hw) h.wn h.wc (h.ws.cin hw) (by rw[h2,hl]) (by rw[h3,<-hl];exact hc) hsl (ReadsAll.cin hw _ _ hall)
theorem qc(u:av)(ks:List aJ):(u.kV ks).head=u.head:=by cases u;rfl
theorem oQ(u:av)(ks:List aJ):(u.kV ks).words=ks:=by cases u;rfl
theorem qd(u:av)(ks:List aJ):(u.kV ks).kids=u.kids:=by cases u;rfl
theorem Jz(u:av)(ks:List aJ):(u.kV ks).id=u.id:=by cases u;rfl
theorem FJ(u:av)(ks:List aJ):(u.kV ks).kind=u.kind:=by cases u;rfl
theorem DL(u:av)(ks:List aJ):(u.kV ks).label=u.label:=by cases u;rfl
theorem BL(u:av)(ks:List aJ):(u.setHead ks).head=ks:=by cases u;rfl
theorem zS(u:av)(ks:List aJ):(u.setHead ks).words=u.words:=by cases u;rfl
theorem BM(u:av)(ks:List aJ):(u.setHead ks).kids=u.kids:=by cases u;rfl
theorem XJ(u:av)(ks:List aJ):(u.setHead ks).id=u.id:=by cases u;rfl
theorem RJ(u:av)(ks:List aJ):(u.setHead ks).kind=u.kind:=by cases u;rfl
theorem Qn(u:av)(ks:List aJ):(u.setHead ks).label=u.label:=by cases u;rfl
theorem zT(u:av)(l:ByteArray):(u.kH l).head=u.head:=by cases u;rfl
theorem yU(u:av)(l:ByteArray):(u.kH l).words=u.words:=by cases u;rfl
theorem zU(u:av)(l:ByteArray):(u.kH l).kids=u.kids:=by cases u;rfl
theorem Vk(u:av)(l:ByteArray):(u.kH l).id=u.id:=by cases u;rfl
theorem Qo(u:av)(l:ByteArray):(u.kH l).kind=u.kind:=by cases u;rfl
theorem NJ(u:av)(l:ByteArray):(u.kH l).label=l:=by cases u;rfl
structure Wm (B:Nat) (ws:List aJ) (w:World) (d:Nat->Bool):Prop where
 lt:B<w.heap.size
 cell:∃A c,w.cell? ⟨B,0,none⟩=some (.slice A ws.length c)/\ws.length<=c/\Sl aQ (mask d w) A ws
theorem adx(B:Nat)(ws:List aJ)(w0:World)(d:Nat->Bool)(hw:Wm B ws w0 d):Dc 107 #[.pointer (some ⟨B,0,none⟩)] (fun x=>x.kV ws) (fun _=>True) w0 d:=by
 intro w b p x r hx hpb hbn hp hblk hU hok _;obtain⟨A,c,hc,hcc,hsl⟩:=hw.cell;have hBw:=hw.lt;have c0:=(hx.cell (p:=⟨B,0,none⟩) hBw).trans hc;have hlt:=ay hblk;have pK:=ah hsl;have Hp:=ah hp;have HU:=ah hU;have xS:=ah hpb;clear hp hU hpb hc hsl;change Calls _ _ #[.pointer (some ⟨b,0,none⟩),.pointer (some ⟨B,0,none⟩)] _ _;go_enter func107,ntmps107
 go_wp2_with (first|(refine fV rfl 30 4 (.tmp 5) rfl _ underlying30 _ rfl 1 sizeOf27 (by decide) b 0 rfl ?_)|
  (refine aP rfl 27 (.tmp 6) (.tmp 4) rfl b 6 (.slice A ws.length c) rfl rfl [.slice A ws.length c] rfl sizeOf27 (by simp[Value.oneCell']) 30 _ hblk (by simp[aB.cells]) ?_;intro w4 hw4 dP dQ dR hs4 eX))
 have hk4:w4.heap[b]? =some (.cells (aB.cells {r with wA:=A,wn:=ws.length,wc:=c}).toArray 30 (0,0)):=eX.trans (by simp[aB.cells]);refine bodyPost_end (results_none rfl _ _ _) rfl ?_;have oG:aZ (mask p w) (mask p w4):=aZ.keep (by omega) fun k hk hpk=>⟨hw4 k (by rintro rfl;rw[xS.out]at hpk;cases hpk),hpk⟩;have h:=HU.out.reads.cin oG;obtain⟨f1,f2,f3,f4,f5,f6,f7,f8,f9,f10,f11,rs,f12,f13,f14⟩:=h.j5;have hx4:Ext w0 w4:=⟨dP.trans hx.os,dQ.trans hx.tape,dR.trans hx.output,by rw[hs4];exact hx.size,fun k hk=>(hw4 k (by omega)).trans (hx.block hk)⟩
 have e4:Sl aQ (mask p w4) A ws:=pK.out.cin (by
  exact aZ.qM (p:=d) (q:=p) hx4 (fun k hk hdk=>by
   cases hpk:p k with
   |false=>rfl
   |true=>
    rcases(Hp.out k hpk).1 with h|h
    ·omega
    ·rw[hdk]at h;cases h))
 exact⟨rfl,{r with wA:=A,wn:=ws.length,wc:=c},hk4,Reads.of (by rw[Jz];exact f1) (by rw[FJ];exact f2) (by rw[DL];exact f3) (by rw[qc];try exact f4) (by rw[qc];exact f5) (by rw[qc];exact f6) (by rw[oQ];try exact rfl) (by rw[oQ];exact hcc) (by rw[oQ];exact e4)
  (by rw[qd];exact f10) (by rw[qd];exact f11) f12 (by rw[qd];exact f13),⟨dP,dQ,dR,by omega,fun k _ hkb _=>hw4 k hkb⟩⟩
theorem ai9(B:Nat)(ws:List aJ)(w0:World)(d:Nat->Bool)(hw:Wm B ws w0 d):Dc 109 #[.pointer (some ⟨B,0,none⟩)] (fun x=>x.kV ws) (fun _=>True) w0 d:=by
 intro w b p x r hx hpb hbn hp hblk hU hok _;obtain⟨A,c,hc,hcc,hsl⟩:=hw.cell;have hBw:=hw.lt;have c0:=(hx.cell (p:=⟨B,0,none⟩) hBw).trans hc;have hlt:=ay hblk;have pK:=ah hsl;have Hp:=ah hp;have HU:=ah hU;have xS:=ah hpb;clear hp hU hpb hc hsl;change Calls _ _ #[.pointer (some ⟨b,0,none⟩),.pointer (some ⟨B,0,none⟩)] _ _;go_enter func109,ntmps109
 go_wp2_with (first|(refine fV rfl 30 4 (.tmp 5) rfl _ underlying30 _ rfl 1 sizeOf27 (by decide) b 0 rfl ?_)|
  (refine aP rfl 27 (.tmp 6) (.tmp 4) rfl b 6 (.slice A ws.length c) rfl rfl [.slice A ws.length c] rfl sizeOf27 (by simp[Value.oneCell']) 30 _ hblk (by simp[aB.cells]) ?_;intro w4 hw4 dP dQ dR hs4 eX))
 have hk4:w4.heap[b]? =some (.cells (aB.cells {r with wA:=A,wn:=ws.length,wc:=c}).toArray 30 (0,0)):=eX.trans (by simp[aB.cells]);refine bodyPost_end (results_none rfl _ _ _) rfl ?_;have oG:aZ (mask p w) (mask p w4):=aZ.keep (by omega) fun k hk hpk=>⟨hw4 k (by rintro rfl;rw[xS.out]at hpk;cases hpk),hpk⟩;have h:=HU.out.reads.cin oG;obtain⟨f1,f2,f3,f4,f5,f6,f7,f8,f9,f10,f11,rs,f12,f13,f14⟩:=h.j5;have hx4:Ext w0 w4:=⟨dP.trans hx.os,dQ.trans hx.tape,dR.trans hx.output,by rw[hs4];exact hx.size,fun k hk=>(hw4 k (by omega)).trans (hx.block hk)⟩
 have e4:Sl aQ (mask p w4) A ws:=pK.out.cin (by
  exact aZ.qM (p:=d) (q:=p) hx4 (fun k hk hdk=>by
   cases hpk:p k with
   |false=>rfl
   |true=>
    rcases(Hp.out k hpk).1 with h|h
    ·omega
    ·rw[hdk]at h;cases h))
 exact⟨rfl,{r with wA:=A,wn:=ws.length,wc:=c},hk4,Reads.of (by rw[Jz];exact f1) (by rw[FJ];exact f2) (by rw[DL];exact f3) (by rw[qc];try exact f4) (by rw[qc];exact f5) (by rw[qc];exact f6) (by rw[oQ];try exact rfl) (by rw[oQ];exact hcc) (by rw[oQ];exact e4)
  (by rw[qd];exact f10) (by rw[qd];exact f11) f12 (by rw[qd];exact f13),⟨dP,dQ,dR,by omega,fun k _ hkb _=>hw4 k hkb⟩⟩
theorem XK(B:Nat)(ws:List aJ)(w0:World)(d:Nat->Bool)(hw:Wm B ws w0 d):Dc 111 #[.pointer (some ⟨B,0,none⟩)] (fun x=>x.setHead ws) (fun _=>True) w0 d:=by
 intro w b p x r hx hpb hbn hp hblk hU hok _;obtain⟨A,c,hc,hcc,hsl⟩:=hw.cell;have hBw:=hw.lt;have c0:=(hx.cell (p:=⟨B,0,none⟩) hBw).trans hc;have hlt:=ay hblk;have pK:=ah hsl;have Hp:=ah hp;have HU:=ah hU;have xS:=ah hpb;clear hp hU hpb hc hsl;change Calls _ _ #[.pointer (some ⟨b,0,none⟩),.pointer (some ⟨B,0,none⟩)] _ _;go_enter func111,ntmps111
 go_wp2_with (first|(refine fV rfl 30 3 (.tmp 5) rfl _ underlying30 _ rfl 1 sizeOf27 (by decide) b 0 rfl ?_)|
  (refine aP rfl 27 (.tmp 6) (.tmp 4) rfl b 5 (.slice A ws.length c) rfl rfl [.slice A ws.length c] rfl sizeOf27 (by simp[Value.oneCell']) 30 _ hblk (by simp[aB.cells]) ?_;intro w4 hw4 dP dQ dR hs4 eX))
 have hk4:w4.heap[b]? =some (.cells (aB.cells {r with hA:=A,hn:=ws.length,hc:=c}).toArray 30 (0,0)):=eX.trans (by simp[aB.cells]);refine bodyPost_end (results_none rfl _ _ _) rfl ?_;have oG:aZ (mask p w) (mask p w4):=aZ.keep (by omega) fun k hk hpk=>⟨hw4 k (by rintro rfl;rw[xS.out]at hpk;cases hpk),hpk⟩;have h:=HU.out.reads.cin oG;obtain⟨f1,f2,f3,f4,f5,f6,f7,f8,f9,f10,f11,rs,f12,f13,f14⟩:=h.j5;have hx4:Ext w0 w4:=⟨dP.trans hx.os,dQ.trans hx.tape,dR.trans hx.output,by rw[hs4];exact hx.size,fun k hk=>(hw4 k (by omega)).trans (hx.block hk)⟩
 have e4:Sl aQ (mask p w4) A ws:=pK.out.cin (by
  exact aZ.qM (p:=d) (q:=p) hx4 (fun k hk hdk=>by
   cases hpk:p k with
   |false=>rfl
   |true=>
    rcases(Hp.out k hpk).1 with h|h
    ·omega
    ·rw[hdk]at h;cases h))
 exact⟨rfl,{r with hA:=A,hn:=ws.length,hc:=c},hk4,Reads.of (by rw[XJ];exact f1) (by rw[RJ];exact f2) (by rw[Qn];exact f3) (by rw[BL];try exact rfl) (by rw[BL];exact hcc) (by rw[BL];exact e4) (by rw[zS];try exact f7) (by rw[zS];exact f8) (by rw[zS];exact f9)
  (by rw[BM];exact f10) (by rw[BM];exact f11) f12 (by rw[BM];exact f13),⟨dP,dQ,dR,by omega,fun k _ hkb _=>hw4 k hkb⟩⟩
def LIn(B:Nat)(l:ByteArray)(w:World):Prop:=B<w.heap.size/\w.cell? ⟨B,18,none⟩=some (.string l)
theorem XL(B:Nat)(l:ByteArray)(w0:World)(d:Nat->Bool)(hw:LIn B l w0):Dc 113 #[.pointer (some ⟨B,0,none⟩)] (fun x=>x.kH l) (fun _=>True) w0 d:=by
 intro w b p x r hx hpb hbn hp hblk hU hok _;obtain⟨hBw,hc⟩:=hw;have c0:=(hx.cell (p:=⟨B,18,none⟩) hBw).trans hc;have hlt:=ay hblk;have HU:=ah hU;have xS:=ah hpb;clear hp hU hpb hc;change Calls _ _ #[.pointer (some ⟨b,0,none⟩),.pointer (some ⟨B,0,none⟩)] _ _;go_enter func113,ntmps113
 go_wp2_with (first|(refine fV rfl 30 2 (.tmp 7) rfl _ underlying30 _ rfl 1 sizeOf9 (by decide) b 0 rfl ?_)|
  (refine aP rfl 9 (.tmp 8) (.tmp 6) rfl b 4 (.string l) rfl rfl [.string l] rfl sizeOf9 (by simp[Value.oneCell']) 30 _ hblk (by simp[aB.cells]) ?_;intro w4 hw4 dP dQ dR hs4 eX))
 have hk4:w4.heap[b]? =some (.cells (aB.cells {r with label:=l}).toArray 30 (0,0)):=eX.trans (by simp[aB.cells]);refine bodyPost_end (results_none rfl _ _ _) rfl ?_;have oG:aZ (mask p w) (mask p w4):=aZ.keep (by omega) fun k hk hpk=>⟨hw4 k (by rintro rfl;rw[xS.out]at hpk;cases hpk),hpk⟩;have h:=HU.out.reads.cin oG;obtain⟨f1,f2,f3,f4,f5,f6,f7,f8,f9,f10,f11,rs,f12,f13,f14⟩:=h.j5
 exact⟨rfl,{r with label:=l},hk4,Reads.of (by rw[Vk];exact f1) (by rw[Qo];exact f2) (by rw[NJ]) (by rw[zT];exact f4) (by rw[zT];exact f5) (by rw[zT];exact f6) (by rw[yU];exact f7) (by rw[yU];exact f8) (by rw[yU];exact f9)
  (by rw[zU];exact f10) (by rw[zU];exact f11) f12 (by rw[zU];exact f13),⟨dP,dQ,dR,by omega,fun k _ hkb _=>hw4 k hkb⟩⟩
section
variable {P:Program} {ρ:Operand->Value} {o:Oper} {w:World} {c:Value}
variable {α:Type} (D:El P α) {xs:List α} {g cap base:Nat}
theorem XM(hzv:∀w,(zeroValue D.e).run P w=.ok D.z w)(z0:α)(hz0:D.E z0=D.z.cells.toList)(i c':Nat)(hi:i<xs.length)(hown:Own D base w (.slice (some ⟨g,0,none⟩) xs.length cap) xs):
 ∃w',Kp g w w'/\Own D base w' (.slice (some ⟨g,0,none⟩) xs.length cap) (xs.take i++List.replicate (xs.length-i) z0)/\
  ∀(ρ:Operand->Value) (o:Oper) (x:Operand),o.op=.call {callee:=.builtin .clear,args:= #[x],argTypes:= #[D.t]}->ρ x=.slice (some ⟨g,i*D.m,none⟩) (xs.length-i) c'->eP P ρ o w (.tuple #[]) w':=by
 rcases hown.2 with⟨hv,_⟩|⟨g',cap',cur,hv,hg,hh,hn,hc,hcs,ht⟩
 ·cases hv
 ·cases hv
  have hzl:D.z.cells.size=D.m:=D.hz;obtain⟨vs,hvs⟩:=aH ((Builtin.zeroCells D.z.cells (xs.length-i)).toList);have hvl:vs.length=(xs.length-i)*D.m:=by rw[<-hvs];simp[Builtin.zeroCells,hzl]
  have hve:vs=D.flat (List.replicate (xs.length-i) z0):=by
   apply List.ext_getElem?;intro t;rcases gM t ((xs.length-i)*D.m)with htl|htl
   ·have hm:=D.hm
    have hk:t/D.m<xs.length-i:=Nat.div_lt_of_lt_mul (by rw[Nat.mul_comm];exact htl);have hj:t%D.m<D.m:=Nat.mod_lt _ hm;have hu:(D.E z0)[t%D.m]? =some ((D.E z0)[t%D.m]'(by rw[D.hE];exact hj)):=fP _;have hf:=D.flat_get (List.replicate (xs.length-i) z0) (t/D.m) (t%D.m) z0 _ (by simp[hk]) hu;rw[Nat.div_add_mod']at hf;rw[hf,<-hvs];have:D.z.cells.toList[t%D.m]? =(D.E z0)[t%D.m]? :=by rw[hz0]
    rw[hu]at this;have h3:t%D.m<D.z.cells.size:=by rw[hzl];exact hj
    simp only[Builtin.zeroCells,hzl,Array.toList_map,List.getElem?_map,Array.toList_range,List.getElem?_range htl,Option.map_some];rw[<-this];simp[h3]
   ·rw[xB (by omega),xB (by rw[D.aX];simpa using htl)]
  have hcm:xs.length*D.m<=cur.size:=by rw[hcs];exact Nat.mul_le_mul_right _ hn
  have him:i*D.m+(xs.length-i)*D.m=xs.length*D.m:=by rw[<-Nat.add_mul];congr 1;omega
  have h1:∀v∈vs,v.oneCell'=true:=by rw[hve];exact fun v hv=>D.vJ v hv
  have hrun:=run_storeCells_at (P:=P) g (i*D.m) D.e vs 0 cur w hh (by rw[hvl];omega) h1;rw[Nat.add_zero]at hrun;refine⟨w.setRow g (cur.toList.take (i*D.m)++vs++cur.toList.drop (i*D.m+vs.length)).toArray,Kp.put (fun k hk=>setRow_other w g k _ hk) rfl rfl rfl (by simp),?_,?_⟩
  ·have hbk:=setRow_heap w g cur (cur.toList.take (i*D.m)++vs++cur.toList.drop (i*D.m+vs.length)).toArray D.e _ hh
   have hll:(xs.take i++List.replicate (xs.length-i) z0).length=xs.length:=by simp;omega
   have hti:cur.toList.take (i*D.m)=D.flat (xs.take i):=by
    have e1:D.flat xs=D.flat (xs.take i)++D.flat (xs.drop i):=by rw[<-D.dF,jl]
    have e2:(D.flat (xs.take i)).length=i*D.m:=by rw[D.aX,fu,jF (by omega)]
    have e3:cur.toList.take (i*D.m)=(cur.toList.take (xs.length*D.m)).take (i*D.m):=by rw[List.take_take,jF (by omega)]
    rw[e3,ht,e1,<-e2,List.take_left]
   unfold Own World.ownsRow;rw[hll];refine⟨by rw[D.aX,hll],.inr ⟨g,_,_,rfl,hg,hbk,hn,hc,?_,?_⟩⟩
   ·simp only[List.size_toArray,eu,fu,jV,lK,hvl]
    omega
   ·rw[List.toList_toArray,hti,D.dF,<-hve]
    have e4:(D.flat (xs.take i)++vs).length=xs.length*D.m:=by rw[eu,D.aX,hvl,fu,jF (by omega)];exact him
    rw[<-e4];exact List.take_left
  ·intro ρ o x ho hx
   refine .inl ?_;obtain⟨q,hq⟩:∃q,xs.length-i=q+1:=⟨xs.length-i-1,by omega⟩;rw[hq]at hx hvs;simp[execOp,ho,resolve,invoke,builtin,hx,Builtin.clear_,run_underlying D.ht,hzv,hvs,hrun]
end
theorem Own.del{P:Program}{α:Type}{D:El P α}{w:World}{base g c:Nat}{xs:List α}(hown:Own D base w (.slice (some ⟨g,0,none⟩) xs.length c) xs)(j:Nat)(hj:j<xs.length):
 ∃w1 ys,Kp g w w1/\(ys.length=xs.length/\ys.take (xs.length-1)=xs.eraseIdx j)/\Own D base w1 (.slice (some ⟨g,0,none⟩) ys.length c) ys/\
  ∀(ty:TypeId) (A:Addr) (k:Nat),(A=⟨g,(j+1)*D.m,none⟩∨xs.length-(j+1)=0)->(Builtin.append_ #[D.t,D.t] ty #[.slice (some ⟨g,0,none⟩) j c,.slice (some A) (xs.length-(j+1)) k]).run P w=.ok (.slice (some ⟨g,0,none⟩) (xs.length-1) c) w1:=by
 obtain⟨i,hi,_,hsz,_⟩:=info_parts D.hi
 have hcells:∀t u,(D.flat xs)[t]? =some u->w.cell? ⟨g,t,none⟩=some u:=by
  obtain⟨A',c',hv,-,hs⟩:=hown.form;cases hv
  obtain⟨b,off,hA,-,hq⟩:=hs (by intro e;rw[e]at hj;simp at hj);cases hA
  intro t u h;have:=hq t u h
  rwa[bV]at this
 rcases hown.2 with⟨hv,_⟩|⟨g',cap',cur,hv,hg,hh,hn,hc,hcs,ht⟩
 ·cases hv
 ·cases hv
  have hcurr:cur.toList=D.flat xs++cur.toList.drop (xs.length*D.m):=by
   conv=>lhs;rw[<-jl (xs.length*D.m) cur.toList,ht]
  have hnl:(D.flat (xs.drop (j+1))).length=(xs.length-(j+1))*D.m:=by rw[D.aX,jV]
  have hjm:j*D.m+(xs.length-(j+1))*D.m=(xs.length-1)*D.m:=by rw[<-Nat.add_mul];congr 1;omega
  have hcm:xs.length*D.m<=cur.size:=by rw[hcs];exact Nat.mul_le_mul_right _ hn
  have hle:(xs.length-1)*D.m<=xs.length*D.m:=Nat.mul_le_mul_right _ (by omega);have hfit:j*D.m+(D.flat (xs.drop (j+1))).length<=cur.size:=by rw[hnl,hjm];omega
  refine⟨w.setRow g (cur.toList.take (j*D.m)++D.flat (xs.drop (j+1))++cur.toList.drop (j*D.m+(D.flat (xs.drop (j+1))).length)).toArray,xs.take j++xs.drop (j+1)++xs.drop (xs.length-1),Kp.put (fun k hk=>setRow_other w g k _ hk) rfl rfl rfl (by simp),⟨by simp;omega,by rw[Ee (by simp;omega),gY (by simp;omega),List.eraseIdx_eq_take_drop_succ]⟩,?_,?_⟩
  ·have hbk:=setRow_heap w g cur (cur.toList.take (j*D.m)++D.flat (xs.drop (j+1))++cur.toList.drop (j*D.m+(D.flat (xs.drop (j+1))).length)).toArray D.e _ hh
   have hyl:(xs.take j++xs.drop (j+1)++xs.drop (xs.length-1)).length=xs.length:=by simp;omega
   have e1:cur.toList.take (j*D.m)=D.flat (xs.take j):=by
    have e2:(D.flat (xs.take j)).length=j*D.m:=by rw[D.aX,fu,jF (by omega)]
    rw[hcurr]
    conv=>lhs;rw[show D.flat xs=D.flat (xs.take j)++D.flat (xs.drop j) by rw[<-D.dF,jl],dV,<-e2]
    exact List.take_left
   have e3:cur.toList.drop (j*D.m+(D.flat (xs.drop (j+1))).length)=D.flat (xs.drop (xs.length-1))++cur.toList.drop (xs.length*D.m):=by
    have e2:(D.flat (xs.take (xs.length-1))).length=(xs.length-1)*D.m:=by rw[D.aX,fu,jF (by omega)]
    rw[hnl,hjm]
    conv=>lhs;rw[hcurr,show D.flat xs=D.flat (xs.take (xs.length-1))++D.flat (xs.drop (xs.length-1)) by rw[<-D.dF,jl],dV,<-e2]
    exact List.drop_left
   unfold Own World.ownsRow;rw[hyl];refine⟨by rw[D.aX,hyl],.inr ⟨g,_,_,rfl,hg,hbk,hn,hc,?_,?_⟩⟩
   ·simp only[List.size_toArray,eu,fu,jV,lK]
    omega
   ·rw[List.toList_toArray,e1,e3]
    have e4:(D.flat (xs.take j++xs.drop (j+1)++xs.drop (xs.length-1))).length=xs.length*D.m:=by rw[D.aX,hyl]
    rw[<-dV,<-D.dF,<-D.dF,<-e4];exact List.take_left
  ·intro ty A k hA
   have:=run_append_room (P:=P) w D.t ty D.e i D.ht hi g j c cur hh A (xs.length-(j+1)) k (D.flat (xs.drop (j+1))) (by rw[hnl,hsz]) (fun t u hu=>by
    rcases hA with rfl|h0
    ·have:(⟨g,(j+1)*D.m,none⟩:Addr).add t=⟨g,(j+1)*D.m+t,none⟩:=by
      unfold Addr.add
      split
      ·rename_i h0;simp[h0]
      ·rfl
     rw[this];refine hcells _ _ ?_;rw[<-jl (j+1) xs,D.dF,nJ (by rw[D.aX,fu,jF (by omega)];omega),D.aX,fu,jF (by omega)];rw[<-hu]
     congr 1
     omega
    ·rw[mH (by omega)]at hu
     simp[El.flat]at hu) (fun u hu=>D.vJ u hu) (by omega) (by rw[hsz];exact hfit)
   rw[hsz]at this;rw[this,show j+(xs.length-(j+1))=xs.length-1 by omega]
def XO(A:Addr)(g n:Nat):Ty:=⟨fun v _=>∃(A':Addr) (c:Nat),v=.slice (some A') n c/\(A'=A∨n=0),fun _ _ _ _ h=>h⟩
section
variable {P:Program} {ρ:Operand->Value} {o:Oper} {w:World} {α:Type} (D:El P α)
theorem ady(x hi:Operand)(ho:o.op=.slice D.t x none (some hi) none)(n c g:Nat)(hx:ρ x=.slice (some ⟨g,0,none⟩) n c)(l:Nat)(hhi:ρ hi=.int .i64 l)(h2:l<=n)(h3:n<=c):bL P ρ o w (Ty.is (.slice (some ⟨g,0,none⟩) l c)).p:=by
 have hr:=run_slice_any D (w:=w) (A:=some ⟨g,0,none⟩) (c:=c) n 0 l c none (some (.int .i64 l)) none rfl rfl rfl (bI _) (by omega) (aI _) h3;refine eT (w':=w) (v:=.slice (some ⟨g,0,none⟩) l c) ?_ (Ext.refl _) rfl;unfold execOp;simp only[ho,hx,hhi,Option.map_some,Option.map_none,Sem.run_bind,Sem.run_pure,hr,Result.andThen_ok];simp[Addr.add]
theorem RL(x lo:Operand)(ho:o.op=.slice D.t x (some lo) none none)(n c g:Nat)(hx:ρ x=.slice (some ⟨g,0,none⟩) n c)(l:Nat)(hlo:ρ lo=.int .i64 l)(h2:l<=n)(h3:n<=c):bL P ρ o w (XO ⟨g,l*D.m,none⟩ g (n-l)).p:=by
 have hr:=run_slice_any D (w:=w) (A:=some ⟨g,0,none⟩) (c:=c) n l n c (some (.int .i64 l)) none none rfl rfl rfl h2 h3 (aI _) h3
 have ea:((⟨g,0,none⟩:Addr).add (l*D.m))=⟨g,l*D.m,none⟩:=by
  unfold Addr.add
  split
  ·rename_i h0;simp[h0]
  ·simp
 by_cases hcl:c=l
 ·rw[bH hcl]at hr
  refine eT (w':=w) (v:=.slice (some ⟨g,0,none⟩) (n-l) (c-l)) ?_ (Ext.refl _) ⟨_,_,rfl,.inr (by omega)⟩;simp[execOp,ho,hx,hlo,hr]
 ·rw[aU hcl]at hr
  refine eT (w':=w) (v:=.slice (some ⟨g,l*D.m,none⟩) (n-l) (c-l)) ?_ (Ext.refl _) ⟨_,_,rfl,.inl rfl⟩;simp[execOp,ho,hx,hlo,hr,ea]
end
theorem Own.afG{P:Program}{α:Type}{D:El P α}{w:World}{base g n c k:Nat}{xs:List α}(h:Own D base w (.slice (some ⟨g,0,none⟩) n c) xs)(hk:k<=xs.length):Own D base w (.slice (some ⟨g,0,none⟩) k c) (xs.take k):=by
 rcases h.2 with⟨hv,_⟩|⟨g',cap,cur,hv,hbase,hgb,r1,r2,r3,r4⟩
 ·cases hv
 ·simp only[Value.slice.injEq,Option.some.injEq,Addr.mk.injEq]at hv
  obtain⟨⟨rfl,-⟩,rfl,rfl⟩:=hv;have hkl:(xs.take k).length=k:=by rw[fu];omega
  have e1:D.flat (xs.take k)=(D.flat xs).take (k*D.m):=by
   have e:D.flat xs=D.flat (xs.take k)++D.flat (xs.drop k):=by rw[<-D.dF,jl]
   rw[e,List.take_left' (by rw[D.aX,hkl])]
  refine⟨by rw[D.aX],.inr ⟨g,c,cur,by rw[hkl],hbase,hgb,by omega,r2,r3,?_⟩⟩;rw[hkl,e1,<-r4,List.take_take,jF (Nat.mul_le_mul_right _ hk)]
theorem Vl(g c j base:Nat)(xs:List aB)(w:World)(hown:Own aj base w (.slice (some ⟨g,0,none⟩) xs.length c) xs)(hj:j<xs.length)(hn:xs.length<=1000):
 Calls prog 175 #[.slice (some ⟨g,0,none⟩) xs.length c,.int .i64 (j:Nat),.int .i64 (j+1:Nat)] w fun e w'=>∃n',n'=xs.length-1/\e=.returned (.slice (some ⟨g,0,none⟩) n' c)/\Own aj base w' (.slice (some ⟨g,0,none⟩) n' c) (xs.eraseIdx j)/\Kp g w w':=by
 have hc:xs.length<=c:=by
  obtain⟨A',c',hv,hc,-⟩:=hown.form;cases hv
  exact hc
 have HO:=ah hown;clear hown;go_enter func175,ntmps175
 go_wp2;refine iJ 6 (fun i=>match i with|0=>Ty.is (.slice (some ⟨g,0,none⟩) xs.length c)|1=>Ty.is (.int .i64 (j:Nat))|2=>Ty.is (.slice (some ⟨g,0,none⟩) j c)|3=>Ty.is (.slice (some ⟨g,0,none⟩) xs.length c)|4=>Ty.is (.int .i64 ((j:Int)+1))|5=>XO ⟨g,(j+1)*8,none⟩ g (xs.length-(j+1))|_=>Ty.any) (by kernel_rfl) (by kernel_rfl) (by kernel_rfl) (by decide) rfl ?_;intro v;refine⟨?_,?_,?_,?_,?_,?_,?_⟩
 ·exact fun wq hq _=>ak rfl (aF (.tmp 0) rfl rfl rfl)
 ·exact fun wq hq _=>ak rfl (aF (.tmp 1) rfl rfl rfl)
 ·rintro wq hq ⟨h0,h1,-⟩
  change v 0=_ at h0;change v 1=_ at h1;refine ak rfl ?_;exact ady aj (.tmp 20) (.tmp 21) rfl xs.length c g h0 j h1 (by omega) hc
 ·exact fun wq hq _=>ak rfl (aF (.tmp 0) rfl rfl rfl)
 ·exact fun wq hq _=>ak rfl (aF (.tmp 2) rfl rfl rfl)
 ·rintro wq hq ⟨h0,h1,-⟩
  change v 3=_ at h0;change v 4=_ at h1;refine ak rfl ?_;exact RL aj (.tmp 23) (.tmp 24) rfl xs.length c g h0 (j+1) (h1.trans (by simp)) (by omega) hc
 ·intro wq hq hT
  have k2:=hT 2 (by decide);change v 2=_ at k2;have k5:=hT 5 (by decide);change (XO ⟨g,(j+1)*8,none⟩ g (xs.length-(j+1))).p (v 5) wq at k5;clear hT;simp only[List.drop_succ_cons,List.drop_zero,gH,dK,List.set_cons_succ,List.set_cons_zero,Nat.reduceAdd];rw[k2];generalize v 5=x5 at k5⊢;obtain⟨A',k',rfl,hA⟩:=k5;obtain⟨w1,ys,hk1,⟨hyl,hyt⟩,hown1,happ⟩:=(HO.out.ext hq).del j hj;obtain⟨w2,hk2,hown2,RN⟩:=XM aj (fun w=>by kernel_rfl) dU rfl (xs.length-1) (c-(xs.length-1)) (by omega) hown1;have hr:=fun ty=>happ ty A' k' hA
  have Je:=ah (show Own aj base w2 (.slice (some ⟨g,0,none⟩) (xs.length-1) c) (xs.eraseIdx j)from by
   have h:=hown2.afG (k:=xs.length-1) (by simp;omega);rw[Ee (by simp;omega),List.take_take,Nat.min_self,hyt]at h;exact h)
  have Hk:=ah (((Kp.dH hq).trans hk1).trans hk2);obtain⟨m,hm⟩:∃m,xs.length=m+1:=⟨xs.length-1,by omega⟩;have Hm0:=ah (show m=xs.length-1 by omega);rw[hm]at hyl hr RN hc hn Je;rw[hm];simp only[Nat.add_sub_cancel]at Je;simp only[hyl,Nat.add_sub_cancel]at hr RN;have e0:m+1-(m+1-1)=1:=by omega
  have e1:m+1-m=1:=by omega
  simp only[e0,e1]at RN;have aqV:=ah RN;clear RN happ HO hk1 hk2 hown1 hq hown2 hyt;refine jG rfl (x:=.slice (some ⟨g,0,none⟩) m c) (w':=w1) (.inl ?_) ?_
  ·have hr2:=hr 28
   simp[execOp,resolve,invoke,builtin,Act.eval,aj]at hr2⊢;rw[hr2];rfl
  go_wp2_with (refine jG rfl (aqV.out _ _ (.tmp 31) rfl rfl) ?_)
  go_ret;exact⟨m,Hm0.out,rfl,Je.out,Hk.out⟩
section
variable {P:Program} {α:Type} (D:El P α) {w:World} {base g c:Nat} {ys zs:List α}
theorem aaf(ty:TypeId)(g o dLen dCap:Nat)(a:Addr)(sLen sCap:Nat)(cur:Array Value)(t:TypeId)(cs:List Value)(hg:w.heap[g]? =some (.cells cur t (0,0)))(k:Nat)(hk:Nat.min sLen dLen=k)(hn:cs.length=k*D.m)
 (hsrc:∀j v,cs[j]? =some v->w.cell? (a.add j)=some v) (hfit:o+cs.length<=cur.size) (h1:∀v∈cs,v.oneCell'=true):
 (Builtin.copy_ #[D.t,D.t] ty #[.slice (some ⟨g,o,none⟩) dLen dCap,.slice (some a) sLen sCap]).run P w=.ok (goInt k) (w.setRow g (cur.toList.take o++cs++cur.toList.drop (o+cs.length)).toArray):=by
 obtain⟨i,hi,_,hsz,_⟩:=info_parts D.hi;have hl:=run_loadCells_list (P:=P) w a cs hsrc;have hst:=run_storeCells_at P g o t cs 0 cur w hg (by simpa using hfit) h1;rw[hn]at hl;simp[Builtin.copy_,run_underlying D.ht,Builtin.lenOf,Builtin.firstCells,sizeOf,typeInfo,hi,hsz,hk,hl,hst]
theorem Own.copy(hown:Own D base w (.slice (some ⟨g,0,none⟩) ys.length c) ys)(o:Nat)(ho:o<=ys.length)(hroom:o+zs.length<=c)(b off:Nat)(hsrc:∀j u,(D.flat zs)[j]? =some u->w.cell? ⟨b,off+j,none⟩=some u)(sLen sCap dLen dCap:Nat)(hmin:Nat.min sLen dLen=zs.length):
 ∃w',(∀ty,(Builtin.copy_ #[D.t,D.t] ty #[.slice (some ⟨g,o*D.m,none⟩) dLen dCap,.slice (some ⟨b,off,none⟩) sLen sCap]).run P w=.ok (goInt zs.length) w')/\Kp g w w'/\
  Own D base w' (.slice (some ⟨g,0,none⟩) (ys.take o++zs++ys.drop (o+zs.length)).length c) (ys.take o++zs++ys.drop (o+zs.length)):=by
 rcases hown.2 with⟨hv,_⟩|⟨g',cap',cur,hv,hg,hh,hn,hc,hcs,ht⟩
 ·cases hv
 ·cases hv
  have hzl:=D.aX zs;have hm1:(o+zs.length)*D.m=o*D.m+zs.length*D.m:=Nat.add_mul _ _ _;have hcm:(o+zs.length)*D.m<=cur.size:=by rw[hcs];exact Nat.mul_le_mul_right _ hroom
  have hnm:ys.length*D.m<=cur.size:=by rw[hcs];exact Nat.mul_le_mul_right _ hn
  have hom:o*D.m<=ys.length*D.m:=Nat.mul_le_mul_right _ ho;refine⟨w.setRow g (cur.toList.take (o*D.m)++D.flat zs++cur.toList.drop (o*D.m+(D.flat zs).length)).toArray,fun ty=> ?_,Kp.put (fun k hk=>setRow_other w g k _ hk) rfl rfl rfl (by simp),?_⟩
  ·exact aaf D ty g (o*D.m) dLen dCap ⟨b,off,none⟩ sLen sCap cur D.e (D.flat zs) hh zs.length hmin hzl (fun j u hu=>by
    have:=hsrc j u hu;unfold Addr.add
    split
    ·rename_i h0;subst h0;simpa using this
    ·exact this) (by rw[hzl];omega) D.vJ
  ·have hbk:=setRow_heap w g cur (cur.toList.take (o*D.m)++D.flat zs++cur.toList.drop (o*D.m+(D.flat zs).length)).toArray D.e _ hh
   have hcurr:cur.toList=D.flat ys++cur.toList.drop (ys.length*D.m):=by
    conv=>lhs;rw[<-jl (ys.length*D.m) cur.toList,ht]
   have e1:cur.toList.take (o*D.m)=D.flat (ys.take o):=by
    have e2:(D.flat (ys.take o)).length=o*D.m:=by rw[D.aX,fu,jF ho]
    rw[hcurr]
    conv=>lhs;rw[show D.flat ys=D.flat (ys.take o)++D.flat (ys.drop o) by rw[<-D.dF,jl],dV,<-e2]
    exact List.take_left
   have RO:(ys.take o++zs++ys.drop (o+zs.length)).length<=c:=by
    simp only[eu,fu,jV];omega
   refine⟨by rw[D.aX],.inr ⟨g,_,_,rfl,hg,hbk,RO,hc,?_,?_⟩⟩
   ·simp only[List.size_toArray,eu,fu,jV,lK,hzl]
    omega
   ·rw[List.toList_toArray,e1,D.dF,D.dF]
    have hT:(D.flat (ys.take o)++D.flat zs).length=(o+zs.length)*D.m:=by rw[eu,D.aX,fu,jF ho,hzl,hm1]
    rw[hzl,<-hm1];rcases Nat.le_total (o+zs.length) ys.length with hle|hge
    ·have e3:cur.toList.drop ((o+zs.length)*D.m)=D.flat (ys.drop (o+zs.length))++cur.toList.drop (ys.length*D.m):=by
      have e2:(D.flat (ys.take (o+zs.length))).length=(o+zs.length)*D.m:=by rw[D.aX,fu,jF hle]
      conv=>lhs;rw[hcurr,show D.flat ys=D.flat (ys.take (o+zs.length))++D.flat (ys.drop (o+zs.length)) by rw[<-D.dF,jl],dV,<-e2]
      exact List.drop_left
     have hl2:(ys.take o++zs++ys.drop (o+zs.length)).length*D.m=(D.flat (ys.take o)++D.flat zs++D.flat (ys.drop (o+zs.length))).length:=by
      rw[<-D.dF,<-D.dF,D.aX]
     rw[e3,<-dV,hl2];exact List.take_left
    ·have e4:ys.drop (o+zs.length)=[]:=mH hge
     have hl2:(ys.take o++zs++ys.drop (o+zs.length)).length*D.m=(D.flat (ys.take o)++D.flat zs).length:=by
      rw[e4,kY,<-D.dF,D.aX]
     rw[hl2,e4,show D.flat ([]:List α)=[]from rfl,kY];exact List.take_left
theorem DN(z0:α)(hz0:D.E z0=D.z.cells.toList)(n:Nat):(Builtin.zeroCells D.z.cells n).toList=D.flat (List.replicate n z0):=by
 have hzl:D.z.cells.size=D.m:=D.hz;have hvl:(Builtin.zeroCells D.z.cells n).toList.length=n*D.m:=by simp[Builtin.zeroCells,hzl]
 apply List.ext_getElem?;intro t;rcases gM t (n*D.m)with htl|htl
 ·have hm:=D.hm
  have hk:t/D.m<n:=Nat.div_lt_of_lt_mul (by rw[Nat.mul_comm];exact htl);have hj:t%D.m<D.m:=Nat.mod_lt _ hm;have hu:(D.E z0)[t%D.m]? =some ((D.E z0)[t%D.m]'(by rw[D.hE];exact hj)):=fP _;have hf:=D.flat_get (List.replicate n z0) (t/D.m) (t%D.m) z0 _ (by simp[hk]) hu;rw[Nat.div_add_mod']at hf;rw[hf];have:D.z.cells.toList[t%D.m]? =(D.E z0)[t%D.m]? :=by rw[hz0]
  rw[hu]at this;have h3:t%D.m<D.z.cells.size:=by rw[hzl];exact hj
  simp only[Builtin.zeroCells,hzl,Array.toList_map,List.getElem?_map,Array.toList_range,List.getElem?_range htl,Option.map_some];rw[<-this];simp[h3]
 ·rw[xB (by omega),xB (by rw[D.aX];simpa using htl)]
theorem RP(z0:α)(hz0:D.E z0=D.z.cells.toList)(tn:TypeId)(htn:P.underlying tn=some (.int .i64))(i k cap:Nat)(A:Option Addr)(hs:Sl D w A (ys.take i))(hi:i<=ys.length)(h0:0<k)(hg:cap<i+k)(hbig:i+k<=100000)(hbase:base<=w.heap.size):
 ∃w' c',(∀ty,(Builtin.append_ #[D.t,tn] ty #[.slice A i cap,.int .i64 (k:Nat)]).run P w=.ok (.slice (some ⟨w.heap.size,0,none⟩) (i+k) c') w')/\i+k<=c'/\Ext w w'/\Own D base w' (.slice (some ⟨w.heap.size,0,none⟩) (i+k) c') (ys.take i++List.replicate k z0):=by
 obtain⟨ii,hii,hzz,hsz,hby⟩:=info_parts D.hi
 have hold:(Builtin.firstCells ii.size i (.slice A i cap)).run P w.drew=.ok (D.flat (ys.take i)).toArray w.drew:=by
  have hl:(ys.take i).length=i:=by rw[fu,jF hi]
  cases hti:ys.take i with
  |nil=>
   rw[hti]at hl;have:i=0:=by simpa using hl.symm
   subst this;cases A<;>simp[Builtin.firstCells,El.flat,loadCells,loadCellsFrom]
  |cons x xs=>
   rw[hti]at hs;obtain⟨b,off,rfl,hb,hc⟩:=hs (by simp);have hfl:=D.aX (x::xs);rw[<-hti,hl]at hfl
   have:=run_loadCells_list (P:=P) w.drew ⟨b,off,none⟩ (D.flat (x::xs)) (fun j u hu=>by
    have:=hc j u hu;unfold Addr.add
    split
    ·rename_i h0;subst h0;simpa using this
    ·exact this)
   rw[<-hti]at this⊢;rw[hfl]at this;simp[Builtin.firstCells,hsz,this]
 have hm:=D.hm;have hb2:=D.hb;have hkb:k*ii.bytes<=100000*1024:=Nat.mul_le_mul (by omega) (by omega);have hkb2:(i+k+(i+k)/4+192)*ii.bytes<=200000*1024:=Nat.mul_le_mul (by omega) (by omega);have hr:=fun ty=>Lib.run_append_grow_zeros w D.t tn ty D.e ii D.z .i64 .i64 D.ht htn hii hzz A i cap (D.flat (ys.take i)) hold k h0 (by omega) hg (by omega) (by omega) (growslice_fits_wide (by omega) (by omega));have hG:i+k<=grownCap w (i+k) cap D.e:=grownCap_ge w _ _ _;have hG2:grownCap w (i+k) cap D.e<=maxLen:=grownCap_le_maxLen w (i+k) cap D.e (by unfold maxLen;omega);generalize grownCap w (i+k) cap D.e=G at hr hG hG2;refine⟨_,G,hr,hG,(Ext.drew (Ext.refl _)).alloc _,?_⟩;have hl:(ys.take i).length=i:=by rw[fu,jF hi]
 have hlen:(ys.take i++List.replicate k z0).length=i+k:=by rw[eu,hl,List.length_replicate]
 have hzc:D.z.cells.size=D.m:=D.hz;refine⟨by rw[D.aX],.inr ⟨w.heap.size,G,_,by rw[hlen],hbase,heap_alloc_new w.drew _,by omega,hG2,?_,?_⟩⟩
 ·simp only[Array.size_append,size_zeroCells,hzc,List.size_toArray,D.aX,hl]
  rw[<-Nat.add_mul,<-Nat.add_mul]
  congr 1
  omega
 ·rw[hlen,D.dF,<-DN D z0 hz0]
  have hL:(D.flat (ys.take i)++(Builtin.zeroCells D.z.cells k).toList).length=(i+k)*D.m:=by rw[DN D z0 hz0,<-D.dF,D.aX,hlen]
  rw[<-hL];simp only[Array.toList_append];exact List.take_left
variable {ops:Array Oper} {rest:List Oper} {o:Oper} {a:Act} {Q:Exit->Act->World->Prop} {ρ:Operand->Value} {T:Value->World->Prop}
theorem aag(g n c h:Nat)(hh:h<=c)(hn:n<=c):(Instr.sliceAt D.t (.slice (some ⟨g,0,none⟩) n c) none (some (.int .i64 (h:Nat))) none).run P w=.ok (.slice (some ⟨g,0,none⟩) h c) w:=by
 have hr:=run_slice_any D (w:=w) (A:=some ⟨g,0,none⟩) (c:=c) n 0 h c none (some (.int .i64 h)) none rfl rfl rfl (bI _) hh (aI _) hn;rw[hr];by_cases h0:c=0
 ·simp[h0]
 ·simp[h0,Addr.add]
theorem JA(g n c l:Nat)(hl:l<=n)(hlc:l<c)(hn:n<=c):(Instr.sliceAt D.t (.slice (some ⟨g,0,none⟩) n c) (some (.int .i64 (l:Nat))) none none).run P w=.ok (.slice (some ⟨g,l*D.m,none⟩) (n-l) (c-l)) w:=by
 have hr:=run_slice_any D (w:=w) (A:=some ⟨g,0,none⟩) (c:=c) n l n c (some (.int .i64 l)) none none rfl rfl rfl hl hn (aI _) hn;rw[hr,aU (by omega)]
 have ea:((⟨g,0,none⟩:Addr).add (l*D.m))=⟨g,l*D.m,none⟩:=by
  unfold Addr.add
  split
  ·rename_i h0;simp[h0]
  ·simp
 simp[ea]
theorem Gu(hgd:o.guard=none)(x hi:Operand)(ho:o.op=.slice D.t x none (some hi) none)(g n c h:Nat)(hx:a.eval x=.slice (some ⟨g,0,none⟩) n c)(H:Int)(hhi:a.eval hi=.int .i64 H)(hH:H=(h:Nat))(hh:h<=c)(hn:n<=c)
 (hK:wpList P ops Q rest (a.put o.dst (.slice (some ⟨g,0,none⟩) h c)) w):wpList P ops Q (o::rest) a w:=by
 subst hH;have hr:=aag D (w:=w) g n c h hh hn;refine wpList_plain hgd fun K hK'=> ?_;unfold Oper.wp execOp;simp only[ho,hx,hhi,Option.map_some,Option.map_none,Sem.run_bind,Sem.run_pure,hr,Result.andThen_ok];exact hK' _ _ hK
theorem tX(hgd:o.guard=none)(x lo:Operand)(ho:o.op=.slice D.t x (some lo) none none)(g n c l:Nat)(hx:a.eval x=.slice (some ⟨g,0,none⟩) n c)(L:Int)(hlo:a.eval lo=.int .i64 L)(hL:L=(l:Nat))(hl:l<=n)(hlc:l<c)(hn:n<=c)
 (hK:wpList P ops Q rest (a.put o.dst (.slice (some ⟨g,l*D.m,none⟩) (n-l) (c-l))) w):wpList P ops Q (o::rest) a w:=by
 subst hL;have hr:=JA D (w:=w) g n c l hl hlc hn;refine wpList_plain hgd fun K hK'=> ?_;unfold Oper.wp execOp;simp only[ho,hx,hlo,Option.map_some,Option.map_none,Sem.run_bind,Sem.run_pure,hr,Result.andThen_ok];exact hK' _ _ hK
theorem zl(x lo:Operand)(ho:o.op=.slice D.t x (some lo) none none)(g n c l:Nat)(hx:ρ x=.slice (some ⟨g,0,none⟩) n c)(hlo:ρ lo=.int .i64 (l:Nat))(hl:l<=n)(hlc:l<c)(hn:n<=c)(h:T (.slice (some ⟨g,l*D.m,none⟩) (n-l) (c-l)) w):bL P ρ o w T:=by
 have hr:=JA D (w:=w) g n c l hl hlc hn;refine eT (w':=w) ?_ (Ext.refl _) h;unfold execOp;simp only[ho,hx,hlo,Option.map_some,Option.map_none,Sem.run_bind,Sem.run_pure,hr,Result.andThen_ok]
theorem zm(hgd:o.guard=none)(d s:Operand)(ho:o.op=.call {callee:=.builtin .copy,args:= #[d,s],argTypes:= #[D.t,D.t]})(v u:Value)(hd:a.eval d=v)(hs:a.eval s=u){x:Value}{w':World}
 (hr:∀ty,(Builtin.copy_ #[D.t,D.t] ty #[v,u]).run P w=.ok x w') (hK:wpList P ops Q rest (a.put o.dst x) w'):wpList P ops Q (o::rest) a w:=by
 refine wpList_plain hgd fun K hK'=> ?_;unfold Oper.wp execOp;simp only[ho,resolve,invoke,builtin,Sem.run_bind,Sem.run_pure,Result.andThen_ok,List.map_toArray,gX,List.map_nil,hd,hs,hr];exact hK' _ _ hK
theorem Vm(hgd:o.guard=none)(tn:TypeId)(s k:Operand)(ho:o.op=.call {callee:=.builtin .append,args:= #[s,k],argTypes:= #[D.t,tn]})(v u:Value)(hd:a.eval s=v)(hs:a.eval k=u){x:Value}{w':World}
 (hr:∀ty,(Builtin.append_ #[D.t,tn] ty #[v,u]).run P w=.ok x w') (hK:wpList P ops Q rest (a.put o.dst x) w'):wpList P ops Q (o::rest) a w:=by
 refine wpList_plain hgd fun K hK'=> ?_;unfold Oper.wp execOp;simp only[ho,resolve,invoke,builtin,Sem.run_bind,Sem.run_pure,Result.andThen_ok,List.map_toArray,gX,List.map_nil,hd,hs,hr];exact hK' _ _ hK
end
end Go.Proofs.YtgboomjahhnldaaGreatDoor
