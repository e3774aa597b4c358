/- A part of the proof of TopWritten, printed small: CopyU ValAW ValBW ValCW WayW Find8W. -/
import Derived.Test.YtgboomjahhnldaaGreatDoorZ07
import Derived.Test.YtgboomjahhnldaaGreatDoorZ05
set_option maxRecDepth 100000
set_option maxHeartbeats 25600000
set_option linter.all false
namespace Go.Proofs.YtgboomjahhnldaaGreatDoor
open Go.Proofs.Tryz Go.RowKit
structure Wl (w:World) (u:av) (r:aB) (w':World):Prop where
 ext:Ext w w'
 reads:Reads (mask (fresh w.heap.size) w') u r
 j5:r.kind=u.kind/\r.label=u.label
 head:r.hn=u.head.length/\Own aQ w.heap.size w' (.slice r.hA r.hn r.hc) u.head
 words:r.wn=u.words.length/\Own aQ w.heap.size w' (.slice r.wA r.wn r.wc) u.words
 kids:∃(rs:List aB) (p:Nat->Bool),r.kn=rs.length/\rs.length=u.kids.length/\Own aj w.heap.size w' (.slice r.kA r.kn r.kc) rs/\ReadsAll (mask p w') u.kids rs/\(∀j,j<w.heap.size->p j=true)/\(∀j,p j=true->j<w'.heap.size)/\
  (∀g,(Value.slice r.hA r.hn r.hc).ownBlock=some g->p g=true)/\(∀g,(Value.slice r.wA r.wn r.wc).ownBlock=some g->p g=true)/\(∀g,(Value.slice r.kA r.kn r.kc).ownBlock=some g->p g=true/\(Value.slice r.hA r.hn r.hc).ownBlock≠some g/\(Value.slice r.wA r.wn r.wc).ownBlock≠some g)
def NC(N:Nat):Prop:=∀(u:av) (r:aB) (w:World),SizeOf.sizeOf u<=N->Reads w u r->iD (qm 1048576 1048576) u->
 Calls prog 77 #[.agg r.cells.toArray] w fun e w'=>∃r':aB,e=.returned (.agg r'.cells.toArray)/\Wl w u r' w'
theorem XB(N:Nat)(ih:NC N):NC (N+1):=by
 intro u0 r w hN hr hA;obtain⟨a,i,n,kd,lb,hl,wl,kids⟩:=u0;rw[Reads]at hr;rw[iD]at hA;obtain⟨⟨hl1,hl2,hl3⟩,hA⟩:=hA;obtain⟨⟨ha,hi,hnn,hkd,hlb⟩,⟨hhn,xH,mU⟩,⟨hwn,hwc,hws⟩,hkn,hkc,us,sO,hall⟩:=hr;obtain⟨ra,ri,rn,rk,rl,fU,hn,hc,wA,wn,wc,kA,kn,kc⟩:=r;dsimp only at ha hi hnn hkn hkc sO hall hkd hlb hhn xH mU hwn hwc hws hl3;have CO:=ReadsAll.length hall;rw[<-CO]at hkn hkc hl3;subst ha hi hnn hkn hlb hhn hwn hkd;simp only[aB.cells];have hx0:Ext w ((w.alloc (.cells #[.int .i64 ra,.int .i64 ri,.int .i64 rn,.int .i64 rk,.string rl,.slice fU hl.length hc,.slice wA wl.length wc,.slice kA us.length kc] 30)).alloc (.cells #[.int .i64 0,.int .i64 0,.int .i64 0,.int .i64 0,.string ⟨#[]⟩,.slice none 0 0,.slice none 0 0,.slice none 0 0] 30)):=((Ext.refl w).alloc _).alloc _
 have hbx:((w.alloc (.cells #[.int .i64 ra,.int .i64 ri,.int .i64 rn,.int .i64 rk,.string rl,.slice fU hl.length hc,.slice wA wl.length wc,.slice kA us.length kc] 30)).alloc (.cells #[.int .i64 0,.int .i64 0,.int .i64 0,.int .i64 0,.string ⟨#[]⟩,.slice none 0 0,.slice none 0 0,.slice none 0 0] 30)).heap[w.heap.size]? =some (.cells (aB.cells ⟨ra,ri,rn,rk,rl,fU,hl.length,hc,wA,wl.length,wc,kA,us.length,kc⟩).toArray 30 (0,0)):=by
  have e:=((Ext.refl (w.alloc (.cells #[.int .i64 ra,.int .i64 ri,.int .i64 rn,.int .i64 rk,.string rl,.slice fU hl.length hc,.slice wA wl.length wc,.slice kA us.length kc] 30))).alloc (.cells #[.int .i64 0,.int .i64 0,.int .i64 0,.int .i64 0,.string ⟨#[]⟩,.slice none 0 0,.slice none 0 0,.slice none 0 0] 30)).block (k:=w.heap.size) (by simp);exact e.trans (heap_alloc_new w _)
 have hres:((w.alloc (.cells #[.int .i64 ra,.int .i64 ri,.int .i64 rn,.int .i64 rk,.string rl,.slice fU hl.length hc,.slice wA wl.length wc,.slice kA us.length kc] 30)).alloc (.cells #[.int .i64 0,.int .i64 0,.int .i64 0,.int .i64 0,.string ⟨#[]⟩,.slice none 0 0,.slice none 0 0,.slice none 0 0] 30)).heap[w.heap.size+1]? =some (.cells dU.cells.toArray 30 (0,0)):=by
  have e:=heap_alloc_new (w.alloc (.cells #[.int .i64 ra,.int .i64 ri,.int .i64 rn,.int .i64 rk,.string rl,.slice fU hl.length hc,.slice wA wl.length wc,.slice kA us.length kc] 30)) (.cells dU.cells.toArray 30);rw[show(w.alloc (.cells #[.int .i64 ra,.int .i64 ri,.int .i64 rn,.int .i64 rk,.string rl,.slice fU hl.length hc,.slice wA wl.length wc,.slice kA us.length kc] 30)).heap.size=w.heap.size+1 from by simp]at e;exact e
 have hsz:((w.alloc (.cells #[.int .i64 ra,.int .i64 ri,.int .i64 rn,.int .i64 rk,.string rl,.slice fU hl.length hc,.slice wA wl.length wc,.slice kA us.length kc] 30)).alloc (.cells #[.int .i64 0,.int .i64 0,.int .i64 0,.int .i64 0,.string ⟨#[]⟩,.slice none 0 0,.slice none 0 0,.slice none 0 0] 30)).heap.size=w.heap.size+2:=by simp
 obtain⟨wz,hwz⟩:=aH (((w.alloc (.cells #[.int .i64 ra,.int .i64 ri,.int .i64 rn,.int .i64 rk,.string rl,.slice fU hl.length hc,.slice wA wl.length wc,.slice kA us.length kc] 30)).alloc (.cells #[.int .i64 0,.int .i64 0,.int .i64 0,.int .i64 0,.string ⟨#[]⟩,.slice none 0 0,.slice none 0 0,.slice none 0 0] 30)));rw[hwz]at hx0 hbx hres hsz;have LC:=ah hwz;have hz1:w.heap.size+2<=wz.heap.size:=by omega
 have Hb:=ah (show∀w',Ext wz w'->_ from fun w' he=>aiv hbx (by omega) he);have uz:=ah hres;have jh:=ah hbx;have jo:=ah hall;have HA:=ah hA;have HN:=ah hN;have Fy:=ah CO;simp only[aB.cells]at Hb;clear hwz hsz hres hbx hall hA hN CO hkc xH hwc;go_enter func77,ntmps77
 go_wp2;rw[LC.out];refine iJ 7 (fun i=>match i with|0=>aK [.slice fU hl.length hc]|1=>Ty.is (.slice fU hl.length hc)|2=>sJ aQ wz.heap.size hl|3=>aK [.slice wA wl.length wc]|4=>Ty.is (.slice wA wl.length wc)|5=>sJ aQ wz.heap.size wl|6=>Ty.is (.pointer (some ⟨w.heap.size,5,none⟩))|_=>Ty.any) (by kernel_rfl) (by kernel_rfl) (by kernel_rfl) (by decide) rfl ?_;intro v;refine⟨?_,?_,?_,?_,?_,?_,?_,?_⟩
 ·exact fun wq hq _=>ak rfl (dB 30 3 (.tmp 1) rfl _ underlying30 _ rfl 1 sizeOf27 (by decide) [.int .i64 ra,.int .i64 ri,.int .i64 rn,.int .i64 rk,.string rl,.slice fU hl.length hc,.slice wA wl.length wc,.slice kA us.length kc] ((Hb.out _ hq)))
 ·rintro wq hq ⟨h0,-⟩;exact ak rfl (bW 27 (.tmp 6) rfl isAgg27 (c:=.slice fU hl.length hc) h0 rfl)
 ·rintro wq hq ⟨h0,-⟩
  change v 1=_ at h0;refine ak rfl ?_;refine fC 147 call147 _ _ rfl rfl [_] ⟨h0,trivial⟩ ?_;refine(LA _ _ hl _ (mU.ext (hx0.trans hq)) hl1).mono ?_;rintro e w' ⟨v',rfl,hown,hx'⟩;exact⟨_,rfl,hx',hown.mono hq.size⟩
 ·exact fun wq hq _=>ak rfl (dB 30 4 (.tmp 1) rfl _ underlying30 _ rfl 1 sizeOf27 (by decide) [.int .i64 ra,.int .i64 ri,.int .i64 rn,.int .i64 rk,.string rl,.slice fU hl.length hc,.slice wA wl.length wc,.slice kA us.length kc] ((Hb.out _ hq)))
 ·rintro wq hq ⟨h0,-⟩;exact ak rfl (bW 27 (.tmp 9) rfl isAgg27 (c:=.slice wA wl.length wc) h0 rfl)
 ·rintro wq hq ⟨h0,h1,-⟩
  change v 4=_ at h0;refine ak rfl ?_;refine fC 147 call147 _ _ rfl rfl [_] ⟨h0,trivial⟩ ?_;refine(LA _ _ wl _ (hws.ext (hx0.trans hq)) hl2).mono ?_;rintro e w' ⟨v',rfl,hown,hx'⟩;exact⟨_,rfl,hx',hown.mono hq.size⟩
 ·rintro wq hq ⟨h0,h1,h2,h3,h4,-⟩;exact ak rfl (Wj 30 3 (.tmp 1) rfl _ underlying30 _ rfl 1 sizeOf27 (by decide) w.heap.size 0 rfl rfl)
 ·intro wq hq hT
  have k2:=hT 2 (by decide);change (sJ aQ wz.heap.size hl).p (v 2) wq at k2;have k5:=hT 5 (by decide);change (sJ aQ wz.heap.size wl).p (v 5) wq at k5;have k6:=hT 6 (by decide);change v 6=_ at k6;clear hT;simp only[List.drop_succ_cons,List.drop_zero,gH,dK,List.set_cons_succ,List.set_cons_zero,Nat.reduceAdd];generalize v 2=x2 at k2⊢;generalize v 5=x5 at k5⊢;rw[k6];obtain⟨A1,c1,rfl,hc1,-⟩:=Own.form k2;obtain⟨A2,c2,rfl,hc2,-⟩:=Own.form k5;have g1:Own aQ wz.heap.size wq (.slice A1 hl.length c1) hl:=k2;have g2:Own aQ wz.heap.size wq (.slice A2 wl.length c2) wl:=k5;have hbq:=(hq.block (k:=w.heap.size) (by omega)).trans jh.out;have aiJ:=hx0.trans hq;have Rp:=hq.size;clear k2 k5
  go_wp2_with (first|(refine fV rfl 30 4 (.tmp 1) rfl _ underlying30 _ rfl 1 sizeOf27 (by decide) w.heap.size 0 rfl ?_)|
   (refine aP rfl 27 (.tmp 12) (.tmp 8) rfl w.heap.size 5 (.slice A1 hl.length c1) rfl rfl [.slice A1 hl.length c1] rfl sizeOf27 (by simp[Value.oneCell']) 30 _ hbq (by simp[aB.cells]) ?_;intro w1 hw1 BA BD BF hs1 hbk1;have hb1:w1.heap[w.heap.size]? =some (.cells (aB.cells ⟨ra,ri,rn,rk,rl,A1,hl.length,c1,wA,wl.length,wc,kA,us.length,kc⟩).toArray 30 (0,0)):=(hbk1.trans (by simp[aB.cells]));have hx1:Ext w w1:=aiJ.put (aI _) hw1 BA BD BF hs1;have Jt:=ah hs1;clear hs1)|
   (refine aP rfl 27 (.tmp 13) (.tmp 11) rfl w.heap.size 6 (.slice A2 wl.length c2) rfl rfl [.slice A2 wl.length c2] rfl sizeOf27 (by simp[Value.oneCell']) 30 _ hb1 (by simp[aB.cells]) ?_;intro w2 hw2 uD uE uF hs2 hbk2;have hb2:w2.heap[w.heap.size]? =some (.cells (aB.cells ⟨ra,ri,rn,rk,rl,A1,hl.length,c1,A2,wl.length,c2,kA,us.length,kc⟩).toArray 30 (0,0)):=(hbk2.trans (by simp[aB.cells]));have hx2:Ext w w2:=hx1.put (aI _) hw2 uD uE uF hs2;have wQ:=ah hs2;clear hs2;have f7:=(wO hb2).2.2.2.2.2.2.2;dsimp only at f7))
  have hz2:wz.heap.size<=w2.heap.size:=by rw[wQ.out,Jt.out];exact Rp
  have e2:∀k,k≠w.heap.size->w2.heap[k]? =wq.heap[k]? :=fun k hk=>(hw2 k hk).trans (hw1 k hk);have g1':Own aQ wz.heap.size w2 (.slice A1 hl.length c1) hl:=g1.keep fun k hk=>e2 k (by have:=(g1.lt k hk).1;omega);have g2':Own aQ wz.heap.size w2 (.slice A2 wl.length c2) wl:=g2.keep fun k hk=>e2 k (by have:=(g2.lt k hk).1;omega);have hr2:w2.heap[w.heap.size+1]? =some (.cells dU.cells.toArray 30 (0,0)):=(e2 _ (by omega)).trans ((hq.block (by omega)).trans uz.out);obtain⟨p,hp⟩:∃p:Nat->Bool,p=fresh w2.heap.size:=⟨_,rfl⟩;have HL1:=ah (fun g hg=>(g1'.lt g hg).2);have HL2:=ah (fun g hg=>(g2'.lt g hg).2);have uQ:=ah (show∀k,k<w2.heap.size->p k=true from fun k hk=>by rw[hp];simp[fresh,hk])
  have Gl:=ah (show∀k,p k=true->k<w2.heap.size from fun k hk=>by
   rw[hp]at hk;simp only[fresh,decide_eq_true_eq]at hk;omega)
  have hzw:w.heap.size+2<=wz.heap.size:=hz1;clear e2 g1 g2 hb1 hbq hbk1 hbk2 hw1 hw2 BA uD BD uE BF uF hx1 aiJ Rp hq Jt wQ hp w1;go_wp2;clear f7
  go_loopw [3,17] (fun vr i wr=>∃(k:Nat) (rs:List aB) (p:Nat->Bool),k<=us.length/\i=.int .i64 k/\wr.heap[w.heap.size]? =some (.cells (aB.cells ⟨ra,ri,rn,rk,rl,A1,hl.length,c1,A2,wl.length,c2,kA,us.length,kc⟩).toArray 30 (0,0))/\wr.heap[w.heap.size+1]? =some (.cells dU.cells.toArray 30 (0,0))/\Own aj w2.heap.size wr vr rs/\
   Hid (∀j,j<w2.heap.size->p j=true)/\Hid (∀j,p j=true->j<wr.heap.size)/\Hid (∀g,vr.ownBlock=some g->p g=true/\g≠w.heap.size)/\Own aQ wz.heap.size wr (.slice A1 hl.length c1) hl/\Own aQ wz.heap.size wr (.slice A2 wl.length c2) wl/\
   Hid (ReadsAll (mask p wr) (kids.take k) rs)/\Ext w wr) (fun _ i _=>us.length-(intOf i).toNat)
  case atStart=>exact⟨0,[],p,bI _,rfl,hb2,hr2,Own.nil _,uQ,Gl,ah (fun g hg=>by cases hg),g1',g2',ah (by rw[List.take_zero,ReadsAll];trivial),hx2⟩
  case round=>
   clear hb2 hr2 g1' g2' hx2 uQ Gl;obtain⟨k,rs,p,hk,rfl,hbk,xM,hown,uQ,Gl,LD,hs1,hs2,yH,hext⟩:=hrel
   have hsz:w2.heap.size<=wr.heap.size:=by
    rcases Nat.eq_zero_or_pos w2.heap.size with h|h
    ·omega
    ·have:=Gl.out (w2.heap.size-1) (uQ.out _ (by omega));omega
   have hrl:rs.length=k:=by rw[ReadsAll.length yH.out,fu,<-Fy.out];omega
   have Hrl:=ah hrl;clear hrl;by_cases hlt:k<us.length
   ·have hltk:k<kids.length:=by have:=Fy.out;omega
    have d1:=eY k us.length;obtain⟨q,hq⟩:=aH (us[k]);obtain⟨_,_,lI,avN,u0,u1,u2,u3,u4,u5,u6,u7⟩:=qb (sO.ext hext) hlt hq;subst lI
    have hsub:SizeOf.sizeOf kids[k]<=N:=by
     have a1:=List.sizeOf_lt_of_mem (dW hltk);have a2:=HN.out;simp at a2;omega
    have hwk:Ext wr (wr.alloc (.cells #[.int .i64 q.a,.int .i64 q.i,.int .i64 q.n,.int .i64 q.kind,.string q.label,.slice q.hA q.hn q.hc,.slice q.wA q.wn q.wc,.slice q.kA q.kn q.kc] 30)):=(Ext.refl _).alloc _;have hrec:=ih kids[k] q (wr.alloc (.cells #[.int .i64 q.a,.int .i64 q.i,.int .i64 q.n,.int .i64 q.kind,.string q.label,.slice q.hA q.hn q.hc,.slice q.wA q.wn q.wc,.slice q.kA q.kn q.kc] 30)) hsub (Reads.ext (hext.trans hwk) _ _ (hq▸ReadsAll.get jo.out k hltk hlt)) (HA.out.get k hltk);simp only[aB.cells]at hrec;have iY:=ah hrec;clear hsub hq hrec;go_wp2_with fail
    refine(iY.out).mono ?_;rintro e w5 ⟨r',rfl,hx2,hrd,-⟩;have xO:Reads (mask (fresh wr.heap.size) w5) kids[k] r':=Reads.cin (aZ.weaken _ (adb (by simp))) _ _ hrd;have sP:=hwk.trans hx2;have qZ:=ah (Reads.cin (aZ.ext ((Ext.refl w5).alloc (.cells r'.cells.toArray 30))) _ _ xO);have hsz2:=sP.size;have hxa:Ext wr (w5.alloc (.cells r'.cells.toArray 30)):=sP.alloc _;obtain⟨xa,xi,xn,xk,xl,xhA,xhn,xhc,xwA,xwn,xwc,xkA,xkn,xkc⟩:=r';simp only[aB.cells]at qZ hxa⊢;clear hrd xO iY u0 u1 u2 u3 u4 u5 u6 u7;go_wp2_with (at_builtin;refine lq aj rfl _ _ rfl 1 rfl (hown.ext hxa) (ys:=[⟨xa,xi,xn,xk,xl,xhA,xhn,xhc,xwA,xwn,xwc,xkA,xkn,xkc⟩]) rfl (Sl.new aj rfl) (by rw[Hrl.out];simp;omega) (by simp;omega) ?_;intro v' w3 hown3 hg3 hloc)
    have hlc:v'.ownBlock=_∨v'.ownBlock=some (w5.alloc _).heap.size:=hloc;obtain⟨p',aiL,aiM,aiN,Rq,Rs,kC,hbel⟩:=Own.step (B:=w.heap.size) hxa hown (uQ.out w.heap.size (by omega)) Gl.out LD.out hg3 hlc hown3 (fun _ _=>rfl) rfl rfl rfl rfl (aI _) (by omega) (by omega)
    have hadd:ReadsAll (mask p' w3) (kids.take (k+1)) (rs++[⟨xa,xi,xn,xk,xl,xhA,xhn,xhc,xwA,xwn,xwc,xkA,xkn,xkc⟩]):=by
     rw[jk hltk];exact ReadsAll.snoc (ReadsAll.cin Rq _ _ yH.out) (Reads.cin Rs _ _ qZ.out)
    have adp:=ah hadd;have aqM:=ah (fun j (hj:j<w2.heap.size)=>aiL j (uQ.out j hj));have ND:=ah aiM;have aqN:=ah aiN;have hne:∀j,j<w2.heap.size->w3.heap[j]? =wr.heap[j]? :=fun j hj=>(hg3.block j (by simp;omega) (fun h=>by have:=(hown.lt j h.symm).1;omega)).trans (hxa.block (by omega));have jw:=(hne _ (by omega)).trans hbk;have Km:=(hne _ (by omega)).trans xM;have hx3:Ext w w3:=hext.trans' hbel;have aqO:=hs1.keep fun g hg=>hne g (HL1.out g hg);have aqP:=hs2.keep fun g hg=>hne g (HL2.out g hg);clear hadd aiL aiM aiN hloc hlc hg3 hne hown3;go_wp2;go_roundw
    case rel=>exact⟨k+1,_,p',by omega,by go_num,jw,Km,kC,aqM,ND,aqN,aqO,aqP,adp,hx3⟩
    case measure=>simp[intOf];omega
   ·have hkl:k=us.length:=by omega
    have d1:=fT k us.length;have HR:=yH.out;rw[hkl,Fy.out,List.take_length]at HR;have HR:=ah HR;have HRl:=ah (show rs.length=kids.length by rw[Hrl.out,hkl,Fy.out]);obtain⟨A3,c3,rfl,hc3,-,aiP⟩:=hown.kG (p:=fresh w2.heap.size) (fun k hk _=>by simp[fresh];omega);clear hkl yH;have hlt3:∀g,(Value.slice A3 rs.length c3).ownBlock=some g->w2.heap.size<=g:=fun g hg=>(hown.lt g hg).1
    go_wp2_with (first|(refine fV rfl 30 5 (.tmp 1) rfl _ underlying30 _ rfl 1 sizeOf28 (by decide) w.heap.size 0 rfl ?_)|
     (refine aP rfl 28 (.tmp 28) (.tmp 27) rfl w.heap.size 7 (.slice A3 rs.length c3) rfl rfl [.slice A3 rs.length c3] rfl sizeOf28 (by simp[Value.oneCell']) 30 _ hbk (by simp[aB.cells]) ?_;intro w3 hw3 gQ gT gU hs3 jw;have hb3:w3.heap[w.heap.size]? =some (.cells (aB.cells ⟨ra,ri,rn,rk,rl,A1,hl.length,c1,A2,wl.length,c2,A3,rs.length,c3⟩).toArray 30 (0,0)):=(jw.trans (by simp[aB.cells]));have hr3:=(hw3 (w.heap.size+1) (by omega)).trans xM;have hx3:Ext w w3:=hext.put (aI _) hw3 gQ gT gU hs3;have HW3:=ah hw3;have Rt:=ah hs3;clear hw3 gQ gT gU hs3 jw;obtain⟨f0,f1,f2,f3,f4,f5,f6,f7⟩:=wO hb3;dsimp only at f0 f1 f2 f3 f4 f5 f6 f7)|
     (refine aP rfl 30 (.tmp 2) (.tmp 29) rfl (w.heap.size+1) 0 (.agg (aB.cells ⟨ra,ri,rn,rk,rl,A1,hl.length,c1,A2,wl.length,c2,A3,rs.length,c3⟩).toArray) rfl rfl (aB.cells ⟨ra,ri,rn,rk,rl,A1,hl.length,c1,A2,wl.length,c2,A3,rs.length,c3⟩) rfl sizeOf30 (by simp[aB.cells,Value.oneCell']) 30 _ hr3 (by simp[dU,aB.cells]) ?_;intro w4 hw4 dP dQ dR hs4 eX))
    have hfin:w4.heap[w.heap.size+1]? =some (.cells (aB.cells ⟨ra,ri,rn,rk,rl,A1,hl.length,c1,A2,wl.length,c2,A3,rs.length,c3⟩).toArray 30 (0,0)):=by
     rw[eX];simp[aB.cells,dU]
    have hne:∀g,wz.heap.size<=g->w4.heap[g]? =wr.heap[g]? :=fun g hg=>(hw4 g (by omega)).trans (HW3.out g (by omega));have avO:w4.heap.size=wr.heap.size:=hs4.trans Rt.out;have kC:Own aj w2.heap.size w4 (.slice A3 rs.length c3) rs:=hown.keep fun g hg=>hne g (by have:=hlt3 g hg;omega);have go1:Own aQ wz.heap.size w4 (.slice A1 hl.length c1) hl:=hs1.keep fun g hg=>hne g (hs1.lt g hg).1;have go2:Own aQ wz.heap.size w4 (.slice A2 wl.length c2) wl:=hs2.keep fun g hg=>hne g (hs2.lt g hg).1;obtain⟨_,_,hw1,aqQ,-,hsl1⟩:=go1.kG (p:=fresh w.heap.size) (fun g hg _=>by simp[fresh];omega);cases hw1
    obtain⟨_,_,hw2,aqR,-,hsl2⟩:=go2.kG (p:=fresh w.heap.size) (fun g hg _=>by simp[fresh];omega);cases hw2
    obtain⟨_,_,hv4,hoc,-,Er⟩:=kC.kG (p:=fresh w.heap.size) (fun g hg _=>by simp[fresh];omega);cases hv4
    have hci:aZ (mask p wr) (mask (fresh w.heap.size) w4):=aZ.keep (by omega) fun k hk hpk=>by
     have hnk:¬k<w2.heap.size:=fun h=>by rw[uQ.out k h]at hpk;cases hpk
     exact⟨hne k (by omega),by simp[fresh];omega⟩
    (try simp only[Exit.inBlock,Exit.then])
    refine bodyPost_ret (kJ rfl _ _ (w.heap.size+1) _ rfl hfin) rfl ?_
    have Rs:aZ (mask p wr) (mask p w4):=aZ.keep (by omega) fun k hk hpk=>by
     have hnk:¬k<w2.heap.size:=fun h=>by rw[uQ.out k h]at hpk;cases hpk
     exact⟨hne k (by omega),hpk⟩
    refine⟨_,rfl,hx3.put (Nat.le_succ _) hw4 dP dQ dR hs4,?_,⟨rfl,rfl⟩,⟨rfl,go1.mono (by omega)⟩,⟨rfl,go2.mono (by omega)⟩,rs,p,rfl,HRl.out,kC.mono (by omega),ReadsAll.cin Rs _ _ HR.out,fun j hj=>uQ.out j (by omega),fun j hj=>by have:=Gl.out j hj;omega,fun g hg=>uQ.out g (HL1.out g hg),fun g hg=>uQ.out g (HL2.out g hg),fun g hg=>⟨(LD.out g hg).1,fun h=>by have h1:=HL1.out g h;have h2:=hlt3 g hg;omega,fun h=>by have h1:=HL2.out g h;have h2:=hlt3 g hg;omega⟩⟩;rw[Reads];exact⟨⟨rfl,rfl,rfl,rfl,rfl⟩,⟨rfl,aqQ,hsl1⟩,⟨rfl,aqR,hsl2⟩,HRl.out,by rw[<-HRl.out];exact hoc,rs,Er,ReadsAll.cin hci _ _ HR.out⟩
theorem OT:∀N,NC N
 |0=>fun u _ _ h=>by obtain⟨a,i,n,kd,lb,hl,wl,kids⟩:=u;simp at h
 |N+1=>XB N (OT N)
theorem Ju(u:av)(r:aB)(w:World)(hr:Reads w u r)(hA:iD (qm 1048576 1048576) u):
 Calls prog 77 #[.agg r.cells.toArray] w fun e w'=>∃r':aB,e=.returned (.agg r'.cells.toArray)/\Wl w u r' w':=OT _ u r w (aI _) hr hA
theorem Jv(u:av)(r:aB)(w:World)(hr:Reads w u r)(hA:iD (qm 1048576 1048576) u):
 Calls prog 77 #[.agg r.cells.toArray] w fun e w'=>∃r':aB,e=.returned (.agg r'.cells.toArray)/\Ext w w'/\Reads (mask (fresh w.heap.size) w') u r':=(Ju u r w hr hA).mono fun _ _ ⟨r',h,hc⟩=>⟨r',h,hc.ext,hc.reads⟩
theorem XC(a b c a' b' c':Int)(w:World):(Op.equalIn 10000 26 (.agg #[.int .i64 a,.int .i64 b,.int .i64 c]) (.agg #[.int .i64 a',.int .i64 b',.int .i64 c'])).run prog w=.ok (decide ((⟨a,b,c⟩:bf)=⟨a',b',c'⟩)) w:=by
 have u3:=underlying3;have hS:prog.underlying 26=some (.struct (prog.fieldsOf 26)):=by kernel_rfl
 rw[show(10000:Nat)=9999+1 from rfl,run_equalIn_agg w 9999 26 _ _ hS (by kernel_rfl)];simp only[Program.fieldsOf,underlying26]
 go_simp
 by_cases h1:a=a'<;>by_cases h2:b=b'<;>by_cases h3:c=c'<;>simp[h1,h2,h3]
theorem Jd(w:World)(a b c a' b' c':Int):(binOp .eql 26 (.agg #[.int .i64 a,.int .i64 b,.int .i64 c]) (.agg #[.int .i64 a',.int .i64 b',.int .i64 c'])).run prog w=.ok (.bool (decide ((⟨a,b,c⟩:bf)=⟨a',b',c'⟩))) w:=by
 have h:=XC a b c a' b' c' w;simp only[binOp];simp only[Op.equal,Op.maxDepth,Sem.run_bind,h,Result.andThen_ok,Sem.run_pure]
theorem afC(w:World)(a b c a' b' c':Int):(binOp .neq 26 (.agg #[.int .i64 a,.int .i64 b,.int .i64 c]) (.agg #[.int .i64 a',.int .i64 b',.int .i64 c'])).run prog w=.ok (.bool (!decide ((⟨a,b,c⟩:bf)=⟨a',b',c'⟩))) w:=by
 have h:=XC a b c a' b' c' w;simp only[binOp];simp only[Op.equal,Op.maxDepth,Sem.run_bind,h,Result.andThen_ok,Sem.run_pure]
def q8:bf:=⟨0,0,0⟩
mutual
def cZ(id:bf):av->List av
 |.mk a i n k l hd wd kids=>if(⟨a,i,n⟩:bf)=id then [.mk a i n k l hd wd kids]else if gV id kids=[]then []else .mk a i n k l hd wd kids::gV id kids
def gV(id:bf):List av->List av
 |[]=>[]
 |u::us=>if cZ id u=[]then gV id us else cZ id u
end
theorem Bj(id:bf)(u:av):cZ id u=if u.id=id then [u]else if gV id u.kids=[]then []else u::gV id u.kids:=by
 cases u
 rw[cZ];rfl
theorem ZW{id:bf}{kids:List av}{k:Nat}(hk:k<kids.length):gV id (kids.drop k)=if cZ id kids[k]=[]then gV id (kids.drop (k+1))else cZ id kids[k]:=by
 rw[iW hk,gV]
mutual
theorem yT(id:bf):∀u,∀x∈cZ id u,x∈bO u
 |.mk a i n k l hd wd kids,x,hx=>by
  rw[cZ]at hx;rw[bO]
  split at hx
  ·exact List.mem_cons.2 (.inl (List.mem_singleton.1 hx))
  ·split at hx
   ·simp at hx
   ·rcases List.mem_cons.1 hx with h|h
    ·exact List.mem_cons.2 (.inl h)
    ·exact List.mem_cons.2 (.inr (Ru id kids x h))
theorem Ru(id:bf):∀us,∀x∈gV id us,x∈eO us
 |[],x,hx=>by rw[gV]at hx;simp at hx
 |u::us,x,hx=>by
  rw[gV]at hx;rw[eO,oo]
  split at hx
  ·exact .inr (Ru id us x hx)
  ·exact .inl (yT id u x hx)
end
mutual
theorem vM(id:bf):∀u,(cZ id u).length<=cntF u
 |.mk a i n k l hd wd kids=>by
  rw[cZ,cntF];have:=Rv id kids
  split
  ·simp
  ·split
   ·simp
   ·simp;omega
theorem Rv(id:bf):∀us,(gV id us).length<=bZ us
 |[]=>by rw[gV,bZ];simp
 |u::us=>by
  rw[gV,bZ];have:=Rv id us;have:=vM id u
  split<;>omega
end
theorem dI.pre{u x:av}(h:dI u)(hx:x∈bO u):dI x:=by
 have:∀(N:Nat) (u:av),SizeOf.sizeOf u<=N->dI u->∀x∈bO u,dI x:=by
  intro N
  induction N with
  |zero=>intro u h;exact(xI h).elim
  |succ N ih=>
   intro u hN hu x hx;rw[jy]at hx;rcases List.mem_cons.1 hx with rfl|hx
   ·exact hu
   ·have go:∀us:List av,(∀y∈us,SizeOf.sizeOf y<=N/\dI y)->x∈eO us->dI x:=by
     intro us
     induction us with
     |nil=>intro _ hx;rw[eO]at hx;simp at hx
     |cons v us ih2=>
      intro sO hx;rw[eO]at hx;rcases List.mem_append.1 hx with hx|hx
      ·exact ih v (sO v (by simp)).1 (sO v (by simp)).2 x hx
      ·exact ih2 (fun y hy=>sO y (by simp[hy])) hx
    refine go u.kids (fun y hy=>⟨?_,hu.kid hy⟩) hx;obtain⟨k,hk,rfl⟩:=List.getElem_of_mem hy;exact qO hN hk
 exact this _ u (aI _) h x hx
def ZX(w:World)(ws:List av)(e:Ending)(w':World):Prop:=Ext w w'/\((ws=[]/\e=.returned (.slice none 0 0))∨(ws≠[]/\∃b c rs,e=.returned (.slice (some ⟨b,0,none⟩) rs.length c)/\rs.length=ws.length/\Own aj w.heap.size w' (.slice (some ⟨b,0,none⟩) rs.length c) rs/\ReadsAll w' ws rs))
theorem Own.Dz{P:Program}{α:Type}{D:El P α}{w:World}{base:Nat}{v:Value}{xs:List α}(h:Own D base w v xs)(hn:xs≠[]):∃b c,v=.slice (some ⟨b,0,none⟩) xs.length c:=by
 rcases h.2 with⟨hv,h0⟩|⟨g,cap,cur,hv,_⟩
 ·exact absurd (kM h0) hn
 ·exact⟨g,cap,hv⟩
def XD(N:Nat):Prop:=∀(u:av) (r:aB) (id:bf) (w:World),SizeOf.sizeOf u<=N->Reads w u r->dI u->Calls prog 76 #[.agg r.cells.toArray,.agg id.cells.toArray] w (ZX w (cZ id u))
theorem adq(N:Nat)(ih:XD N):XD (N+1):=by
 intro u r id w hN hr hok;obtain⟨hid,hkd,hlb,hhn,xH,mU,hwn,hwc,hws,hkn,hkc,rs,hrs,hall,hrl⟩:=hr.j5;have Ag:=hok.cnt;rw[jR]at Ag;have hkl:=nV u.kids;have iY:=ah (show∀(k:Nat) (h:k<u.kids.length) (h2:k<rs.length) (wq:World),Ext w wq->Calls prog 76 #[.agg rs[k].cells.toArray,.agg id.cells.toArray] wq (ZX wq (cZ id u.kids[k]))from fun k h h2 wq hq=>ih u.kids[k] rs[k] id wq (qO hN h) (Reads.ext hq _ _ (ReadsAll.get hall k h h2)) (hok.kid (dW h)));have Rx:=ah (fun k (h:k<u.kids.length)=>vM id u.kids[k]);have Hcm:=ah (fun k (h:k<u.kids.length)=>Ep (dW h));have Hr:=ah (fun wq (he:Ext w wq)=>Reads.ext he u r hr);have hwf:=Bj id u;obtain⟨W,hW⟩:=aH (cZ id u);rw[hW]at hwf⊢;obtain⟨kids,hkk⟩:=aH (u.kids);have hb:=rE.new r w;have hx1:Ext w (w.alloc (.cells r.cells.toArray 30)):=(Ext.refl w).alloc _;have hx2:Ext (w.alloc (.cells r.cells.toArray 30)) ((w.alloc (.cells r.cells.toArray 30)).alloc (.cells id.cells.toArray 26)):=(Ext.refl _).alloc _;have hi:=(Sl.new aM (w:=w.alloc (.cells r.cells.toArray 30)) (xs:=[id]) (cs:=id.cells.toArray) (e:=26) (by simp[El.flat,aM]));obtain⟨_,_,lI,hib,i0,i1,i2⟩:=ade hi (k:=0) (by simp);cases lI
 simp only[List.getElem_cons_zero,Nat.zero_mul,bV]at i0 i1 i2;replace hb:=hb.ext hx2;have he1:=hx1.trans hx2;have hz1:(w.alloc (.cells r.cells.toArray 30)).heap.size=w.heap.size+1:=by simp
 rw[hz1]at i0 i1 i2 hib;obtain⟨ra,ri,rn,rk,rl,fU,hn,hc,wA,wn,wc,kA,kn,kc⟩:=r;obtain⟨ia,ii,iN⟩:=id;dsimp only at hkn hkc hrs;rw[<-hrl]at hkn hkc;subst hkn;simp only[aB.cells,bf.cells,aB.id]at hb he1 iY i0 i1 i2 hib hid⊢;obtain⟨wb,hwb⟩:=aH ((w.alloc (.cells #[.int .i64 ra,.int .i64 ri,.int .i64 rn,.int .i64 rk,.string rl,.slice fU hn hc,.slice wA wn wc,.slice kA rs.length kc] 30)).alloc (.cells #[.int .i64 ia,.int .i64 ii,.int .i64 iN] 26));rw[hwb]at hb he1 i0 i1 i2 hib;have BG:=ah (show w.heap.size+1+1=wb.heap.size by rw[<-hwb];simp);have lH:=ah hwb;have jh:=ah hb
 have Hib:=ah (show∀w',Ext wb w'->w'.cell? ⟨w.heap.size+1,0,none⟩=some (.int .i64 ia)/\w'.cell? ⟨w.heap.size+1,1,none⟩=some (.int .i64 ii)/\w'.cell? ⟨w.heap.size+1,2,none⟩=some (.int .i64 iN)from fun w' he=>
  ⟨(he.cell (p:=⟨w.heap.size+1,0,none⟩) hib).trans i0,(he.cell (p:=⟨w.heap.size+1,1,none⟩) hib).trans i1,(he.cell (p:=⟨w.heap.size+1,2,none⟩) hib).trans i2⟩)
 rw[hkk]at Ag hkl iY hrl Rx Hcm hwf;have hrb:rs.length<=1000:=by omega
 have Hrl:=ah hrl;have Hcu:=ah Ag;have hq:=fun W=>Jd W ra ri rn ia ii iN;rw[<-hid]at hwf;clear hW hkk hwb hb ih hN hr hok hid hkd hlb hhn xH mU hwn hwc hws hall hrl Ag hx1 hx2 hi hz1 i0 i1 i2 hib;by_cases hE:(⟨ra,ri,rn⟩:bf)=⟨ia,ii,iN⟩
 ·rw[bH hE]at hwf
  simp only[bJ hE]at hq;have HW:=ah hwf;have Gm:=ah he1.size;have HL:=ah (fun(wq:World) (he:Ext wb wq)=>Own.lit aj (xs:=[⟨ra,ri,rn,rk,rl,fU,hn,hc,wA,wn,wc,kA,rs.length,kc⟩]) (w:=wq) (base:=w.heap.size) (bX he1.size he.size) (by simp) (cs:= #[.int .i64 ra,.int .i64 ri,.int .i64 rn,.int .i64 rk,.string rl,.slice fU hn hc,.slice wA wn wc,.slice kA rs.length kc]) (by simp[El.flat,aj,aB.cells]));have hc0:=(jh.out.ext (Ext.refl wb)).c0;have hc1:=(jh.out.ext (Ext.refl wb)).c1;have hc2:=(jh.out.ext (Ext.refl wb)).c2;have hc3:=(jh.out.ext (Ext.refl wb)).c3;have hc4:=(jh.out.ext (Ext.refl wb)).c4;have ZY:=(jh.out.ext (Ext.refl wb)).c5;have hc6:=(jh.out.ext (Ext.refl wb)).c6;have Js:=(jh.out.ext (Ext.refl wb)).c7;obtain⟨i0,i1,i2⟩:=Hib.out wb (Ext.refl _);dsimp only at hc0 hc1 hc2 hc3 hc4 ZY hc6 Js;clear hwf hE iY Rx Hcm;go_enter func76,ntmps76
  go_wp2_with fail
  rw[lH.out];go_wp2;go_ret;refine⟨he1.trans ((Ext.refl _).alloc _),.inr ⟨by rw[HW.out];simp,w.heap.size+1+1,1,[⟨ra,ri,rn,rk,rl,fU,hn,hc,wA,wn,wc,kA,rs.length,kc⟩],rfl,by rw[HW.out];rfl,?_,?_⟩⟩
  ·have:=HL.out wb (Ext.refl _)
   rw[<-BG.out]at this;exact this
  ·rw[HW.out,ReadsAll,ReadsAll]
   exact⟨Hr.out _ (he1.trans ((Ext.refl _).alloc _)),trivial⟩
 ·rw[aU hE]at hwf
  simp only[aY hE]at hq;have HW:=ah hwf;obtain⟨aqS,c0,c1,c2,c3,c4,c5,c6,c7⟩:=jh.out;obtain⟨i0,i1,i2⟩:=Hib.out wb (Ext.refl _);dsimp only at c0 c1 c2 c3 c4 c5 c6 c7;clear hwf hE;go_enter func76,ntmps76
  go_wp2_with fail
  rw[lH.out];go_wp2;clear c0 c1 c2 c3 c4 c5 c6 c7 i0 i1 i2
  go_loopw [17] (fun vi wr=>∃k:Nat,k<=rs.length/\vi=.int .i64 (k:Nat)/\Hid (gV ⟨ia,ii,iN⟩ kids=gV ⟨ia,ii,iN⟩ (kids.drop k))/\Ext wb wr) (fun vi _=>rs.length-(intOf vi).toNat)
  case atStart=>exact⟨0,bI _,rfl,ah (by rw[List.drop_zero]),Ext.refl _⟩
  case round=>
   obtain⟨k,hk,rfl,Hk,hext⟩:=hrel;by_cases hlt:k<rs.length
   ·have hltk:k<kids.length:=by rw[<-Hrl.out];exact hlt
    have d1:=eY k rs.length;obtain⟨q,hq2⟩:=aH (rs[k]);obtain⟨b,off,rfl,hb,u0,u1,u2,u3,u4,u5,u6,u7⟩:=qb (hrs.ext (he1.trans hext)) hlt hq2;have hwk:Ext wr (wr.alloc (.cells #[.int .i64 q.a,.int .i64 q.i,.int .i64 q.n,.int .i64 q.kind,.string q.label,.slice q.hA q.hn q.hc,.slice q.wA q.wn q.wc,.slice q.kA q.kn q.kc] 30)):=(Ext.refl _).alloc _;have hrec:=iY.out k hltk hlt _ (he1.trans (hext.trans hwk));rw[hq2]at hrec;obtain⟨i0,i1,i2⟩:=Hib.out _ (hext.trans hwk);have hk2:=Hk.out;rw[ZW hltk]at hk2;have hln:=Rx.out k hltk;have hcm:=Hcm.out k hltk;have Ag:=Hcu.out;obtain⟨X,hX⟩:=aH (cZ ⟨ia,ii,iN⟩ kids[k]);rw[hX]at hrec hk2 hln;have Hrc:=ah hrec;have DC:=ah hk2;have hXl:X.length<=1000:=by omega
    clear hrec hk2 hq2 hX hln hcm Ag;go_wp2_with fail
    refine(Hrc.out).mono ?_;rintro e w2 ⟨hx2,hres⟩;have sP:=hext.trans (hwk.trans hx2);have hsz2:=hx2.size;rcases hres with⟨hX0,rfl⟩|⟨hX0,b2,c2,j3,rfl,hl2,hown2,xO⟩
    ·have HK:=ah (show gV ⟨ia,ii,iN⟩ kids=gV ⟨ia,ii,iN⟩ (kids.drop (k+1)) by rw[DC.out,bH hX0])
     have hqn:=fun W=>run_neq_slice_nil_any (P:=prog) W 28 30 none 0 0 0 0 underlying28;clear DC hX0;go_wp2;go_roundw
     case rel=>exact⟨k+1,by omega,by go_num,HK,sP⟩
     case measure=>simp[intOf];omega
    ·have HK:=ah (show W=u::X by rw[HW.out,DC.out,aU hX0,aU hX0])
     have hqn:=fun W=>run_neq_slice_nil_any (P:=prog) W 28 30 (some ⟨b2,0,none⟩) j3.length c2 0 0 underlying28;obtain⟨aqS,f0,f1,f2,f3,f4,f5,f6,f7⟩:=jh.out.ext sP;dsimp only at f0 f1 f2 f3 f4 f5 f6 f7
     have hsl2:Sl aj w2 (some ⟨b2,0,none⟩) j3:=by
      obtain⟨A',c',hv,-,hs⟩:=hown2.form;cases hv
      exact hs
     have hlit:Own aj w2.heap.size (w2.alloc (.cells #[.int .i64 ra,.int .i64 ri,.int .i64 rn,.int .i64 rk,.string rl,.slice fU hn hc,.slice wA wn wc,.slice (some ⟨b,off,none⟩) rs.length kc] 30)) (.slice (some ⟨w2.heap.size,0,none⟩) 1 1) [⟨ra,ri,rn,rk,rl,fU,hn,hc,wA,wn,wc,some ⟨b,off,none⟩,rs.length,kc⟩]:=
      Own.lit aj (aI _) (by simp) (by simp[El.flat,aj,aB.cells])
     have hrl2:j3.length<=1000:=by omega
     have Kn:=ah xO;have Fz:=ah hl2;clear DC hX0 hown2 xO hl2;go_wp2_with (at_builtin;refine fK aj rfl _ _ rfl c2 rfl hlit (ys:=j3) rfl (hsl2.ext ((Ext.refl _).alloc _)) (by simp;omega) (by simp) ?_;intro v' w3 hown3 hb3 hg3)
     have hx3:Ext w2 w3:=((Ext.refl w2).alloc _).trans' hb3;obtain⟨b3,c3,rfl⟩:=hown3.Dz (by simp);go_ret;refine⟨he1.trans (sP.trans hx3),.inr ⟨by rw[HK.out];simp,b3,c3,_,rfl,by rw[HK.out];simp[Fz.out],hown3.mono ((he1.trans sP).size),?_⟩⟩;rw[HK.out,List.singleton_append,ReadsAll];exact⟨Hr.out _ (he1.trans (sP.trans hx3)),ReadsAll.ext hx3 _ _ Kn.out⟩
   ·have d1:=fT k rs.length
    have hk2:=Hk.out;rw[List.drop_of_length_le (by rw[<-Hrl.out];omega),gV]at hk2;have HK:=ah (show W=[] by rw[HW.out,bH hk2]);clear hk2 Hk;go_wp2;go_ret;exact⟨he1.trans hext,.inl ⟨HK.out,rfl⟩⟩
theorem Bl:∀N,XD N
 |0=>fun _ _ _ _ h=>(xI h).elim
 |N+1=>adq N (Bl N)
structure UI (b:Nat) (r:aB) (id:bf) (w:World):Prop where
 box:rE b r w
 lt:b+1<w.heap.size
 i0:w.cell? ⟨b+1,0,none⟩=some (.int .i64 id.a)
 i1:w.cell? ⟨b+1,1,none⟩=some (.int .i64 id.i)
 i2:w.cell? ⟨b+1,2,none⟩=some (.int .i64 id.n)
theorem UI.ext{b:Nat}{r:aB}{id:bf}{w w':World}(h:UI b r id w)(he:Ext w w'):UI b r id w':=
 ⟨h.box.ext he,bQ h.lt he.size,(he.cell (p:=⟨b+1,0,none⟩) h.lt).trans h.i0,(he.cell (p:=⟨b+1,1,none⟩) h.lt).trans h.i1,(he.cell (p:=⟨b+1,2,none⟩) h.lt).trans h.i2⟩
theorem UI.new(r:aB)(id:bf)(w:World):UI w.heap.size r id ((w.alloc (.cells r.cells.toArray 30)).alloc (.cells id.cells.toArray 26)):=by
 have hi:=(Sl.new aM (w:=w.alloc (.cells r.cells.toArray 30)) (xs:=[id]) (cs:=id.cells.toArray) (e:=26) (by simp[El.flat,aM]));obtain⟨_,_,lI,hib,i0,i1,i2⟩:=ade hi (k:=0) (by simp);cases lI
 simp only[List.getElem_cons_zero,Nat.zero_mul,bV]at i0 i1 i2;have hz1:(w.alloc (.cells r.cells.toArray 30)).heap.size=w.heap.size+1:=by simp
 rw[hz1]at i0 i1 i2 hib;exact⟨(rE.new r w).ext ((Ext.refl _).alloc _),hib,i0,i1,i2⟩
theorem UI.cells{b:Nat}{r:aB}{id:bf}{w:World}(h:UI b r id w):w.cell? ⟨b,0,none⟩=some (.int .i64 r.a)/\w.cell? ⟨b,1,none⟩=some (.int .i64 r.i)/\w.cell? ⟨b,2,none⟩=some (.int .i64 r.n)/\w.cell? ⟨b,3,none⟩=some (.int .i64 r.kind)/\w.cell? ⟨b,4,none⟩=some (.string r.label)/\
 w.cell? ⟨b,5,none⟩=some (.slice r.hA r.hn r.hc)/\w.cell? ⟨b,6,none⟩=some (.slice r.wA r.wn r.wc)/\w.cell? ⟨b,7,none⟩=some (.slice r.kA r.kn r.kc)/\w.cell? ⟨b+1,0,none⟩=some (.int .i64 id.a)/\w.cell? ⟨b+1,1,none⟩=some (.int .i64 id.i)/\w.cell? ⟨b+1,2,none⟩=some (.int .i64 id.n):=by
 obtain⟨⟨_,c0,c1,c2,c3,c4,c5,c6,c7⟩,_,i0,i1,i2⟩:=h;exact⟨c0,c1,c2,c3,c4,c5,c6,c7,i0,i1,i2⟩
theorem dA{fn:Func}{t u:Tmp}(h:fn.results= #[.cell t 30,.tmp u])(tmps:Array Value)(w:World)(b:Nat)(r:aB)(hp:tmps.getD t undef=.pointer (some ⟨b,0,none⟩))(hc:w.heap[b]? =some (.cells r.cells.toArray 30 (0,0))):
 (results fn tmps).run prog w=.ok (.tuple #[.agg r.cells.toArray,tmps.getD u undef]) w:=by
 have hl:=run_loadCells_list (P:=prog) w ⟨b,0,none⟩ r.cells (fun j u hu=>by
  have hadd:(⟨b,0,none⟩:Addr).add j=⟨b,j,none⟩:=by unfold Addr.add;split<;>simp_all
  rw[hadd];simp only[World.cell?,hc];simpa using hu)
 have hp':tmps[t]?.getD undef=.pointer (some ⟨b,0,none⟩):=by simpa using hp
 have hn:∀w,(sizeOf 30).run prog w=.ok r.cells.length w:=sizeOf30;simp[results,h,hp',asAddr,loadVar,isAgg30,hn,hl]
def findF(id:bf)(u:av):Option av:=(cZ id u).getLast?
def NG(x:Option av)(w:World)(e:Ending)(w':World):Prop:=Ext w w'/\match x with
 |none=>e=.returned (.tuple #[.agg dU.cells.toArray,.bool false])
 |some u=>∃r':aB,e=.returned (.tuple #[.agg r'.cells.toArray,.bool true])/\Reads w' u r'
theorem Ry(u:av)(r:aB)(id:bf)(w:World)(hr:Reads w u r)(hok:dI u):Calls prog 55 #[.agg r.cells.toArray,.agg id.cells.toArray] w (NG (findF id u) w):=by
 have vN:=ah (fun wq (he:Ext w wq)=>Bl _ u r id wq (aI _) (Reads.ext he u r hr) hok);have fI:=ah (fun x (hx:x∈cZ id u)=>hok.pre (yT id u x hx));have hln:=bX (vM id u) hok.cnt;unfold findF;obtain⟨W,hW⟩:=aH (cZ id u);rw[hW]at vN fI hln⊢;have uq:=UI.new r id w;have hx0:Ext w ((w.alloc (.cells r.cells.toArray 30)).alloc (.cells id.cells.toArray 26)):=((Ext.refl w).alloc _).alloc _;have hx3:Ext ((w.alloc (.cells r.cells.toArray 30)).alloc (.cells id.cells.toArray 26)) (((w.alloc (.cells r.cells.toArray 30)).alloc (.cells id.cells.toArray 26)).alloc (.cells dU.cells.toArray 30)):=(Ext.refl _).alloc _;have xP:=heap_alloc_new ((w.alloc (.cells r.cells.toArray 30)).alloc (.cells id.cells.toArray 26)) (.cells dU.cells.toArray 30);replace uq:=uq.ext hx3;replace hx0:=hx0.trans hx3;clear hx3;rw[show((w.alloc (.cells r.cells.toArray 30)).alloc (.cells id.cells.toArray 26)).heap.size=w.heap.size+2 by simp]at xP;obtain⟨ra,ri,rn,rk,rl,fU,hn,hc,wA,wn,wc,kA,kn,kc⟩:=r;obtain⟨ia,ii,iN⟩:=id;simp only[aB.cells,bf.cells,dU]at*;obtain⟨wb,hwb⟩:=aH (((w.alloc (.cells #[.int .i64 ra,.int .i64 ri,.int .i64 rn,.int .i64 rk,.string rl,.slice fU hn hc,.slice wA wn wc,.slice kA kn kc] 30)).alloc (.cells #[.int .i64 ia,.int .i64 ii,.int .i64 iN] 26)).alloc (.cells #[.int .i64 0,.int .i64 0,.int .i64 0,.int .i64 0,.string ⟨#[]⟩,.slice none 0 0,.slice none 0 0,.slice none 0 0] 30));rw[hwb]at uq hx0 xP;have BG:=ah (show w.heap.size+3=wb.heap.size by rw[<-hwb];simp);have lH:=ah hwb;have Rz:=ah uq;have jv:=ah hx0;have uz:=ah xP;clear xP;clear hwb uq hx0 hr hok hW;have xQ:=ah (vN.out wb jv.out);obtain⟨c0,c1,c2,c3,c4,c5,c6,c7,i0,i1,i2⟩:=Rz.out.cells;dsimp only at c0 c1 c2 c3 c4 c5 c6 c7 i0 i1 i2;go_enter func55,ntmps55
 go_wp2_with fail
 rw[lH.out];go_wp2_with fail
 refine(xQ.out).mono ?_;rintro e w2 ⟨hx2,hres⟩;have xM:=(hx2.block (k:=w.heap.size+2) (by rw[<-BG.out];omega)).trans uz.out;have hlt2:w.heap.size+2<w2.heap.size:=by have:=hx2.size;have:=ay uz.out;omega
 clear c0 c1 c2 c3 c4 c5 c6 c7 i0 i1 i2 vN xQ;rcases hres with⟨rfl,rfl⟩|⟨hne,b2,c2,j3,rfl,hl2,hown2,xO⟩
 ·go_wp2_with (refine aP rfl 30 (.tmp 4) (.tmp 13) rfl (w.heap.size+2) 0 (.agg #[.int .i64 0,.int .i64 0,.int .i64 0,.int .i64 0,.string ⟨#[]⟩,.slice none 0 0,.slice none 0 0,.slice none 0 0]) rfl rfl (aB.cells dU) rfl sizeOf30 (by simp[aB.cells,dU,Value.oneCell']) 30 _ xM (by simp[dU,aB.cells]) ?_;intro w3 hw3 gQ gT gU hs3 jw)
  have hfin:w3.heap[w.heap.size+2]? =some (.cells dU.cells.toArray 30 (0,0)):=by
   rw[jw];simp[aB.cells,dU]
  refine bodyPost_ret (dA rfl _ _ (w.heap.size+2) _ rfl hfin) rfl ?_;exact⟨(jv.out.trans hx2).put (by omega) hw3 gQ gT gU hs3,rfl⟩
 ·have hn1:0<j3.length:=by rw[hl2];exact List.length_pos_iff.2 hne
  have hsl2:Sl aj w2 (some ⟨b2,0,none⟩) j3:=by
   obtain⟨A',c',hv,-,hs⟩:=hown2.form;cases hv
   exact hs
  have hlt:j3.length-1<j3.length:=by omega
  have hltW:j3.length-1<W.length:=by omega
  obtain⟨q,hq⟩:=aH (j3[j3.length-1]);obtain⟨_,_,lI,hb2,u0,u1,u2,u3,u4,u5,u6,u7⟩:=qb hsl2 hlt hq;cases lI
  obtain⟨x,hx⟩:=aH (W[j3.length-1]);have Gn:Reads w2 x q:=by rw[<-hx,<-hq];exact ReadsAll.get xO _ hltW hlt
  have hlast:W.getLast? =some x:=by
   rw[List.getLast?_eq_getElem?,<-hl2,fP hltW,hx]
  have Es:dI x:=fI.out x (by rw[<-hx];exact dW hltW);have RA:=ah (Jv x q w2 Gn Es.LB);obtain⟨j,hj⟩:=aH (j3.length-1);have hj2:j3.length=j+1:=by omega
  rw[hj]at u0 u1 u2 u3 u4 u5 u6 u7;rw[bV]at u0 u1 u2 u3 u4 u5 u6 u7;have XE:=ah hlast;simp only[aB.cells]at RA;have hjb:j<=1000:=by omega
  rw[hj2];clear hq hx Gn hlast Es xO hown2 hsl2 fI hlt hltW hj hl2 hn1 hne hj2;go_wp2_with fail
  refine(RA.out).mono ?_;rintro e w3 ⟨r',rfl,hx3,hrd⟩;have Km:=(hx3.block hlt2).trans xM;have adr:=hx3.size;have qZ:=ah (Reads.cin (aZ.iV _ _) _ _ hrd);have Kn:=ah hrd;clear u0 u1 u2 u3 u4 u5 u6 u7 xM RA hrd;go_wp2_with (refine aP rfl 30 (.tmp 4) (.tmp 20) rfl (w.heap.size+2) 0 (.agg r'.cells.toArray) rfl rfl (aB.cells r') rfl sizeOf30 (by simp[aB.cells,Value.oneCell']) 30 _ Km (by simp[dU,aB.cells]) ?_;intro w4 hw4 dP dQ dR hs4 eX)
  have hfin:w4.heap[w.heap.size+2]? =some (.cells r'.cells.toArray 30 (0,0)):=by
   rw[eX];simp[aB.cells,dU]
  refine bodyPost_ret (dA rfl _ _ (w.heap.size+2) _ rfl hfin) rfl ?_;have hci:aZ (mask (fresh w2.heap.size) w3) w4:=(aZ.keep (p:=fresh w2.heap.size) (q:=fun _=>false) (by omega) (fun k hk hpk=>⟨hw4 k (by simp[fresh]at hpk;omega),rfl⟩)).trans (aZ.iV _ _);unfold NG;rw[XE.out];exact⟨((jv.out.trans hx2).trans hx3).put (by omega) hw4 dP dQ dR hs4,r',rfl,Reads.cin hci _ _ Kn.out⟩
end Go.Proofs.YtgboomjahhnldaaGreatDoor
