/- A part of the proof of TopWritten, printed small: Laws Cmp. -/
import Derived.Test.YtgboomjahhnldaaGreatDoorZ02
set_option maxRecDepth 100000
set_option maxHeartbeats 25600000
set_option linter.all false
namespace Go.Proofs.YtgboomjahhnldaaGreatDoor
open Go.Proofs.Tryz Go.RowKit
section
variable {P:Program} {α:Type} (D:El P α) {w w':World} {A:Option Addr} {v:Value} {base:Nat} {xs ys:List α}
theorem Sl.new{cs:Array Value}{e:TypeId}(h:cs.toList=D.flat xs):Sl D (w.alloc (.cells cs e)) (some ⟨w.heap.size,0,none⟩) xs:=fun _=>
 ⟨w.heap.size,0,rfl,by simp,fun j u hu=>by
  rw[bV,World.cell?_alloc_new,<-hu,<-h];simp⟩
theorem Sl.new'{cs:Array Value}{e:TypeId}{n:Nat}(hn:n=w.heap.size)(h:cs.toList=D.flat xs):Sl D (w.alloc (.cells cs e)) (some ⟨n,0,none⟩) xs:=by
 subst hn;exact Sl.new D h
theorem Jm(ty:TypeId)(hown:Own D base w v xs)(c:Nat):(Builtin.append_ #[D.t,D.t] ty #[v,.slice none 0 c]).run P w=.ok v w:=by
 obtain⟨i,hi,_⟩:=info_parts D.hi;rcases hown.2 with⟨rfl,_⟩|⟨g,cap,cur,rfl,_,_,hnc,_⟩
 ·simp[Builtin.append_,run_underlying D.ht,sizeOf,typeInfo,hi,Builtin.lenOf,Builtin.firstCells]
 ·simp[Builtin.append_,run_underlying D.ht,sizeOf,typeInfo,hi,Builtin.lenOf,Builtin.firstCells,hnc,storeCells]
theorem ahJ(ty:TypeId)(hown:Own D base w v xs)(c:Nat)(hsl:Sl D w A ys)(hn:xs.length+ys.length<=68719476736)(hbase:base<=w.heap.size):
 ∃v' w',(Builtin.append_ #[D.t,D.t] ty #[v,.slice A ys.length c]).run P w=.ok v' w'/\Own D base w' v' (xs++ys)/\Below base w w'/\w.grownBy w' v.ownBlock:=by
 obtain⟨i,hi,hz0,hz1,hz2⟩:=info_parts D.hi
 have Nv:ys=[]->(A=none)->∃v' w',(Builtin.append_ #[D.t,D.t] ty #[v,.slice A ys.length c]).run P w=.ok v' w'/\Own D base w' v' (xs++ys)/\Below base w w'/\w.grownBy w' v.ownBlock:=by
  rintro rfl rfl;exact⟨v,w,Jm D ty hown c,by simpa using hown,Below.refl _ _,⟨rfl,rfl,rfl,aI _,fun _ _ _=>rfl⟩⟩
 have main:∀ad:Addr,A=some ad->(∀j u,(D.flat ys)[j]? =some u->w.cell? (ad.add j)=some u)->∃v' w',(Builtin.append_ #[D.t,D.t] ty #[v,.slice A ys.length c]).run P w=.ok v' w'/\Own D base w' v' (xs++ys)/\Below base w w'/\w.grownBy w' v.ownBlock:=by
  rintro ad rfl hc;have hb:=D.hb
  obtain⟨v',w',hr,h2,h3,_⟩:=run_append_own (P:=P) w base D.t ty D.e i D.z D.m D.bytes D.ht hi hz0 hz1 hz2 D.hz D.hm v xs.length (D.flat xs) hown ad ys.length c (D.flat ys) (D.aX ys) hc D.vJ
   (by unfold maxLen;omega) (bX (Nat.mul_le_mul hn hb) (by decide)) hbase
  refine⟨v',w',hr,?_,(Below.refl _ _).grown h3 hbase (fun k hk=>(hown.lt k hk).1),h3⟩;unfold Own;rw[eu,D.dF];exact h2
 rcases A with _|ad
 ·cases ys with
  |nil=>exact Nv rfl rfl
  |cons y ys=>obtain⟨_,_,h,_⟩:=hsl (by simp);cases h
 ·refine main ad rfl fun j u hu=> ?_
  cases ys with
  |nil=>simp[El.flat]at hu
  |cons y ys=>
   obtain⟨b,off,h,_,hc⟩:=hsl (by simp);cases h
   have:=hc j u hu;unfold Addr.add
   split
   ·rename_i h0;subst h0;simpa using this
   ·exact this
theorem ais{o:Oper}{a:Act}{K:Act->World->Prop}{Q:Exit->Act->World->Prop}(s x:Operand)
 (ho:o.op=.call {callee:=.builtin .append,args:= #[s,x],argTypes:= #[D.t,D.t]})
 (c:Nat) (hs:a.eval s=v) (hown:Own D base w v xs) (hx:a.eval x=.slice A ys.length c) (hsl:Sl D w A ys) (hn:xs.length+ys.length<=68719476736) (hbase:base<=w.heap.size)
 (h:∀v' w',Own D base w' v' (xs++ys)->Below base w w'->w.grownBy w' v.ownBlock->K (a.put o.dst v') w'):o.wp P a w K Q:=by
 obtain⟨v',w',hr,h2,h3,h4⟩:=ahJ D o.type hown c hsl hn hbase;unfold Oper.wp execOp;simp only[ho,resolve,invoke,builtin,Sem.run_bind,Sem.run_pure,Result.andThen_ok,List.map_toArray,gX,List.map_nil,hs,hx,hr];exact h v' w' h2 h3 h4
theorem fK{ops:Array Oper}{rest:List Oper}{o:Oper}{a:Act}{Q:Exit->Act->World->Prop}(hgd:o.guard=none)(s x:Operand)
 (ho:o.op=.call {callee:=.builtin .append,args:= #[s,x],argTypes:= #[D.t,D.t]})
 (c:Nat) (hs:a.eval s=v) (hown:Own D base w v xs) (hx:a.eval x=.slice A ys.length c) (hsl:Sl D w A ys) (hn:xs.length+ys.length<=68719476736) (hbase:base<=w.heap.size)
 (h:∀v' w',Own D base w' v' (xs++ys)->Below base w w'->w.grownBy w' v.ownBlock->wpList P ops Q rest (a.put o.dst v') w'):wpList P ops Q (o::rest) a w:=
 wpList_plain hgd fun _ hK=>ais D s x ho c hs hown hx hsl hn hbase fun v' w' h2 h3 h4=>hK _ _ (h v' w' h2 h3 h4)
end
section
variable {P:Program} {α:Type} (D:El P α) {w w':World} {A:Option Addr} {xs:List α} {c:Nat}
theorem Sl.cut(h:Sl D w A xs)(l hh:Nat)(hl:l<=hh)(hn:hh<=xs.length)(hc:xs.length<=c):Sl D w (if c=l then A else A.map (·.add (l*D.m))) ((xs.drop l).take (hh-l)):=
 (Sl.drop h l c (by omega) hc).take _
theorem run_slice_any(n l hh m:Nat)(lo hi mx:Option Value)(hlo:(match lo with|some v=>v=.int .i64 (l:Int)|none=>l=0))(hhi:(match hi with|some v=>v=.int .i64 (hh:Int)|none=>hh=n))
 (hmx:(match mx with|some v=>v=.int .i64 (m:Int)/\hi.isSome=true|none=>m=c)) (h1:l<=hh) (h2:hh<=m) (h3:m<=c) (h4:n<=c):
 (Instr.sliceAt D.t (.slice A n c) lo hi mx).run P w=.ok (.slice (if m=l then A else A.map (·.add (l*D.m))) (hh-l) (m-l)) w:=by
 obtain⟨i,hi',_,hsz,_⟩:=info_parts D.hi;have hs:∀w,(sizeOf D.e).run P w=.ok D.m w:=fun w=>by simp[sizeOf,typeInfo,hi',hsz]
 have hsb:∀(x y:Nat) (code:BoundsCode) (w:World),x<=y->(Instr.sliceBound (.int .i64 (x:Int)) y code).run P w=.ok x w:=fun x y code w hxy=>by
  simp[Instr.sliceBound,asIntOf,hxy]
 have hb:(Instr.sliceBounds true n c lo hi mx).run P w=.ok (l,hh,m) w:=by
  cases mx with
  |none=>
   rcases lo with _|lo<;>rcases hi with _|hi<;>simp only[]at hlo hhi hmx<;>subst hlo<;>subst hhi<;>subst hmx<;>simp[Instr.sliceBounds,hsb,h1,h2,h4]
  |some mx=>
   simp only[]at hmx;obtain⟨hm,hq⟩:=hmx;rcases hi with _|hi
   ·cases hq
   ·rcases lo with _|lo<;>simp only[]at hlo hhi<;>subst hlo<;>subst hhi<;>subst hm<;>simp[Instr.sliceBounds,hsb,h1,h2,h3]
 simp[Instr.sliceAt,run_underlying D.ht,Instr.slice,hb,hs]
theorem sI{o:Oper}{a:Act}{K:Act->World->Prop}{Q:Exit->Act->World->Prop}(x:Operand)(lo hi mx:Option Operand)(ho:o.op=.slice D.t x lo hi mx)(n l hh m:Nat)
 (hx:a.eval x=.slice A n c) (hlo:(match lo.map a.eval with|some v=>v=.int .i64 (l:Int)|none=>l=0)) (hhi:(match hi.map a.eval with|some v=>v=.int .i64 (hh:Int)|none=>hh=n))
 (hmx:(match mx.map a.eval with|some v=>v=.int .i64 (m:Int)/\(hi.map a.eval).isSome=true|none=>m=c)) (h1:l<=hh) (h2:hh<=m) (h3:m<=c) (h4:n<=c)
 (h:K (a.put o.dst (.slice (if m=l then A else A.map (·.add (l*D.m))) (hh-l) (m-l))) w):o.wp P a w K Q:=by
 have hr:=run_slice_any D (w:=w) (A:=A) n l hh m _ _ _ hlo hhi hmx h1 h2 h3 h4;unfold Oper.wp execOp;simp only[ho,hx,Sem.run_bind,Sem.run_pure,hr,Result.andThen_ok];exact h
variable {ops:Array Oper} {rest:List Oper} {o:Oper} {a:Act} {Q:Exit->Act->World->Prop}
theorem Gf(hgd:o.guard=none)(x lo hi:Operand)(ho:o.op=.slice D.t x (some lo) (some hi) none)(hx:a.eval x=.slice A xs.length c)(L H:Int)(hlo:a.eval lo=.int .i64 L)(hhi:a.eval hi=.int .i64 H)
 (hsl:Sl D w A xs) (l hh:Nat) (hL:L=l) (hH:H=hh) (h1:l<=hh) (h2:hh<=xs.length) (h3:xs.length<=c)
 (h:∀A' ys c',Hid (ys=(xs.drop l).take (hh-l))->ys.length<=c'->Sl D w A' ys->wpList P ops Q rest (a.put o.dst (.slice A' ys.length c')) w):wpList P ops Q (o::rest) a w:=by
 subst hL;subst hH;refine wpList_plain hgd fun K hK=>sI D x (some lo) (some hi) none ho xs.length l hh c hx hlo hhi rfl h1 (by omega) (aI _) h3 (hK _ _ ?_);have:=h _ ((xs.drop l).take (hh-l)) (c-l) rfl (by simp;omega) (Sl.cut D hsl l hh h1 h2 h3)
 rwa[show((xs.drop l).take (hh-l)).length=hh-l from by simp;omega]at this
theorem Fv(hgd:o.guard=none)(x lo:Operand)(ho:o.op=.slice D.t x (some lo) none none)(hx:a.eval x=.slice A xs.length c)(L:Int)(hlo:a.eval lo=.int .i64 L)
 (hsl:Sl D w A xs) (l:Nat) (hL:L=l) (h2:l<=xs.length) (h3:xs.length<=c)
 (h:∀A' ys c',Hid (ys=xs.drop l)->ys.length<=c'->Sl D w A' ys->wpList P ops Q rest (a.put o.dst (.slice A' ys.length c')) w):wpList P ops Q (o::rest) a w:=by
 subst hL;refine wpList_plain hgd fun K hK=>sI D x (some lo) none none ho xs.length l xs.length c hx hlo rfl rfl h2 h3 (aI _) h3 (hK _ _ ?_);have:=h _ (xs.drop l) (c-l) rfl (by simp;omega) (Sl.drop hsl l c h2 h3)
 rwa[jV]at this
theorem Vd(hgd:o.guard=none)(x hi:Operand)(ho:o.op=.slice D.t x none (some hi) none)(hx:a.eval x=.slice A xs.length c)(H:Int)(hhi:a.eval hi=.int .i64 H)
 (hsl:Sl D w A xs) (hh:Nat) (hH:H=hh) (h2:hh<=xs.length) (h3:xs.length<=c)
 (h:∀A' ys c',Hid (ys=xs.take hh)->ys.length<=c'->Sl D w A' ys->wpList P ops Q rest (a.put o.dst (.slice A' ys.length c')) w):wpList P ops Q (o::rest) a w:=by
 subst hH;refine wpList_plain hgd fun K hK=>sI D x none (some hi) none ho xs.length 0 hh c hx rfl hhi rfl (bI _) (by omega) (aI _) h3 (hK _ _ ?_);have hc:=Sl.cut D hsl 0 hh (bI _) h2 h3;simp only[List.drop_zero,Nat.sub_zero]at hc⊢;have:=h _ (xs.take hh) c rfl (by simp;omega) hc
 rwa[show(xs.take hh).length=hh from by simp;omega]at this
theorem am2(hgd:o.guard=none)(x hi mx:Operand)(ho:o.op=.slice D.t x none (some hi) (some mx))(hx:a.eval x=.slice A xs.length c)(H:Int)(hhi:a.eval hi=.int .i64 H)(hmx:a.eval mx=.int .i64 H)
 (hsl:Sl D w A xs) (hh:Nat) (hH:H=hh) (h2:hh<=xs.length) (h3:xs.length<=c)
 (h:∀A' ys,Hid (ys=xs.take hh)->Sl D w A' ys->wpList P ops Q rest (a.put o.dst (.slice A' ys.length ys.length)) w):wpList P ops Q (o::rest) a w:=by
 subst hH;refine wpList_plain hgd fun K hK=>sI D x none (some hi) (some mx) ho xs.length 0 hh hh hx rfl hhi ⟨hmx,rfl⟩ (bI _) (aI _) (by omega) h3 (hK _ _ ?_)
 have hs:Sl D w (if hh=0 then A else A.map (·.add (0*D.m))) (xs.take hh):=by
  by_cases h0:hh=0
  ·subst h0;simp[Sl.nil]
  ·rw[aU h0]
   have:=Sl.take hsl hh;cases A with
   |none=>exact this
   |some ad=>simpa[Addr.add]using this
 have:=h _ (xs.take hh) rfl hs
 rwa[show(xs.take hh).length=hh-0 from by simp;omega]at this
end
theorem Own.made{P:Program}{α:Type}(D:El P α){w:World}{base:Nat}(hb:base<=w.heap.size):Own D base (w.alloc (.cells #[] D.e)) (.slice (some ⟨w.heap.size,0,none⟩) 0 0) []:=
 World.ownsRow_made w #[] 0 hb (by unfold maxLen;omega) (by simp)
theorem Own.lit{P:Program}{α:Type}(D:El P α){w:World}{base:Nat}{xs:List α}{cs:Array Value}(hb:base<=w.heap.size)(hn:xs.length<=1048576)(h:cs.toList=D.flat xs):
 Own D base (w.alloc (.cells cs D.e)) (.slice (some ⟨w.heap.size,0,none⟩) xs.length xs.length) xs:=by
 refine⟨D.aX xs,.inr ⟨w.heap.size,xs.length,cs,rfl,hb,heap_alloc_new w _,aI _,by unfold maxLen;omega,?_,?_⟩⟩
 ·rw[<-lK,h,D.aX]
 ·rw[h,gY (by rw[D.aX];omega)]
section
variable {P:Program} {α:Type} (D:El P α) {w w':World} {A B:Option Addr} {xs ys:List α}
theorem Sl.addr(h:Sl D w B ys)(hy:ys≠[]):∃ad,B=some ad/\∀j u,(D.flat ys)[j]? =some u->w.cell? (ad.add j)=some u:=by
 obtain⟨b,off,rfl,_,hc⟩:=h hy;refine⟨_,rfl,fun j u hu=> ?_⟩;have:=hc j u hu;unfold Addr.add
 split
 ·rename_i h0;subst h0;simpa using this
 ·exact this
theorem C9(ty:TypeId)(c:Nat)(hs:Sl D w A xs)(hy:Sl D w B ys)(hn:xs.length+ys.length<=68719476736):
 (ys=[]/\(Builtin.append_ #[D.t,D.t] ty #[.slice A xs.length xs.length,.slice B ys.length c]).run P w=.ok (.slice A xs.length xs.length) w)∨
 (ys≠[]/\∃v' w',(Builtin.append_ #[D.t,D.t] ty #[.slice A xs.length xs.length,.slice B ys.length c]).run P w=.ok v' w'/\Own D w.heap.size w' v' (xs++ys)/\Ext w w'):=by
 obtain⟨i,hi,hz0,hsz,hby⟩:=info_parts D.hi;by_cases hy0:ys=[]
 ·refine .inl ⟨hy0,?_⟩
  subst hy0;cases A<;>cases B<;>simp[Builtin.append_,run_underlying D.ht,sizeOf,typeInfo,hi,Builtin.lenOf,Builtin.firstCells,storeCells,loadCells,loadCellsFrom]
 ·refine .inr ⟨hy0,?_⟩
  obtain⟨ad,rfl,hc⟩:=hy.addr D hy0;have hyl:0<ys.length:=List.length_pos_iff.2 hy0;have hb:=D.hb;have hbytes:(xs.length+ys.length)*i.bytes<=140737488355328:=by rw[hby];exact bX (Nat.mul_le_mul hn hb) (by decide)
  have hlen:(D.flat xs++D.flat ys).length=(xs.length+ys.length)*D.m:=by rw[eu,D.aX,D.aX,Nat.add_mul]
  have fin:∀old:Nat,Own D w.heap.size (w.drew.alloc (.cells ((D.flat xs).toArray++(D.flat ys).toArray++Builtin.zeroCells D.z.cells (grownCap w (xs.length+ys.length) old D.e-(xs.length+ys.length))) D.e))
   (.slice (some ⟨w.heap.size,0,none⟩) (xs.length+ys.length) (grownCap w (xs.length+ys.length) old D.e)) (xs++ys):=by
   intro old;have hge:=grownCap_ge w (xs.length+ys.length) old D.e;have hcm:grownCap w (xs.length+ys.length) old D.e<=maxLen:=grownCap_le_maxLen w (xs.length+ys.length) old D.e (by unfold maxLen;omega);unfold Own;rw[eu,D.dF];refine⟨hlen,.inr ⟨w.heap.size,_,_,rfl,aI _,heap_alloc_new w.drew _,hge,hcm,?_,?_⟩⟩
   ·simp only[Array.size_append,List.size_toArray,size_zeroCells,D.hz,D.aX,<-Nat.add_mul]
    congr 1
    omega
   ·simp only[Array.toList_append,dV]
    rw[<-dV,<-hlen];exact List.take_left
  cases A with
  |none=>
   have hx0:xs=[]:=by
    cases xs with
    |nil=>rfl
    |cons x xs=>obtain⟨_,_,h,_⟩:=hs (by simp);cases h
   subst hx0;have hr:=run_append_nil (P:=P) w D.t ty D.e i D.z D.ht hi hz0 ad ys.length c (D.flat ys) (by rw[D.aX,hsz]) hc hyl (by simp at hn;omega) (by simp at hbytes;omega);have hf:=fin 0;simp only[List.length_nil,bV,show D.flat ([]:List α)=[]from rfl,jW]at hf⊢;exact⟨_,_,hr,by simpa using hf,(Ext.refl w).drew.alloc _⟩
  |some b=>
   have holds:∀j u,(D.flat xs)[j]? =some u->w.cell? (b.add j)=some u:=by
    intro j u hu;by_cases hx0:xs=[]
    ·subst hx0;simp[El.flat]at hu
    ·obtain⟨b',h,hc'⟩:=hs.addr D hx0
     cases h
     exact hc' j u hu
   have hr:=run_append_grow (P:=P) w D.t ty D.e i D.z D.ht hi hz0 b xs.length xs.length (D.flat xs) (by rw[D.aX,hsz]) holds ad ys.length c (D.flat ys) (by rw[D.aX,hsz]) hc (by omega) (by omega)
    (growslice_fits (by omega) hbytes)
   exact⟨_,_,hr,fin xs.length,(Ext.refl w).drew.alloc _⟩
end
section
variable {P:Program} {α:Type} (D:El P α) {w w':World} {A:Option Addr} {base g n:Nat} {xs:List α} {zs:List Value}
theorem ahK(ty:TypeId)(c d:Nat)(hown:w.ownsRow base D.e D.m (.slice (some ⟨g,0,none⟩) n d) n zs)(hsl:Sl D w A xs)(hn:xs.length=n):
 ∃w',(Builtin.copy_ #[D.t,D.t] ty #[.slice (some ⟨g,0,none⟩) n d,.slice A xs.length c]).run P w=.ok (goInt n) w'/\Own D base w' (.slice (some ⟨g,0,none⟩) n d) xs/\w.grownBy w' (some g):=by
 obtain⟨i,hi,_,hsz,_⟩:=info_parts D.hi;subst hn;rcases hown.2 with⟨h,_⟩|⟨g',cap,cur,hv,hbg,hh,hnc,hcm,hcs,htk⟩
 ·cases h
 ·cases hv
  have hmin:Nat.min xs.length xs.length=xs.length:=Nat.min_self _;cases xs with
  |nil=>
   refine⟨w,?_,⟨by simp[El.flat],.inr ⟨g,d,cur,rfl,hbg,hh,hnc,hcm,hcs,by simp[El.flat]⟩⟩,⟨rfl,rfl,rfl,aI _,fun _ _ _=>rfl⟩⟩;cases A<;>simp[Builtin.copy_,run_underlying D.ht,Builtin.lenOf,Builtin.firstCells,sizeOf,typeInfo,hi,storeCells,loadCells,loadCellsFrom]
  |cons x xs=>
   obtain⟨b,off,rfl,_,hc⟩:=hsl (by simp);have hlen:=D.aX (x::xs)
   have hl:=run_loadCells_list (P:=P) w ⟨b,off,none⟩ (D.flat (x::xs)) (fun j u hu=>by
    have:=hc j u hu;unfold Addr.add
    split
    ·rename_i h0;subst h0;simpa using this
    ·exact this)
   rw[hlen]at hl;have hfit:0+0+(D.flat (x::xs)).length<=cur.size:=by rw[hlen,hcs];simpa using Nat.mul_le_mul_right _ hnc
   have hst:=run_storeCells_at P g 0 D.e (D.flat (x::xs)) 0 cur w hh hfit D.vJ;have V4:=setRow_heap w g cur ((cur.toList.take (0+0)++D.flat (x::xs)++cur.toList.drop (0+0+(D.flat (x::xs)).length)).toArray) D.e (0,0) hh
   have hg2:w.grownBy (w.setRow g ((cur.toList.take (0+0)++D.flat (x::xs)++cur.toList.drop (0+0+(D.flat (x::xs)).length)).toArray)) (some g):=
    ⟨rfl,rfl,rfl,by simp,fun k _ hk=>setRow_other w g k _ (fun e=>hk (by rw[e]))⟩
   refine⟨_,?_,⟨hlen,.inr ⟨g,d,_,rfl,hbg,V4,hnc,hcm,?_,?_⟩⟩,hg2⟩
   ·simp only[Builtin.copy_,Builtin.lenOf,Builtin.firstCells,sizeOf,typeInfo]
    simp[run_underlying D.ht,hi,hsz];rw[show(xs.length+1)*D.m=(x::xs).length*D.m from by simp,hl];simp[hst]
   ·simp only[List.size_toArray,eu,fu,jV,lK]
    omega
   ·simp only[bV,List.take_zero,jW]
    rw[<-hlen];exact List.take_left
theorem K9{ops:Array Oper}{rest:List Oper}{o:Oper}{a:Act}{Q:Exit->Act->World->Prop}(hgd:o.guard=none)(s x:Operand)
 (ho:o.op=.call {callee:=.builtin .copy,args:= #[s,x],argTypes:= #[D.t,D.t]}) (c d:Nat) (hs:a.eval s=.slice (some ⟨g,0,none⟩) n d) (hx:a.eval x=.slice A xs.length c)
 (hown:w.ownsRow base D.e D.m (.slice (some ⟨g,0,none⟩) n d) n zs) (hsl:Sl D w A xs) (hn:xs.length=n)
 (h:∀w',Own D base w' (.slice (some ⟨g,0,none⟩) n d) xs->w.grownBy w' (some g)->wpList P ops Q rest (a.put o.dst (goInt n)) w'):wpList P ops Q (o::rest) a w:=by
 refine wpList_plain hgd fun K hK=> ?_;obtain⟨w',hr,h2,h3⟩:=ahK D o.type c d hown hsl hn;unfold Oper.wp;simp[execOp,ho,resolve,invoke,builtin,hs,hx,hr,Result.andThen];exact hK _ _ (h w' h2 h3)
theorem Oy{ops:Array Oper}{rest:List Oper}{o:Oper}{a:Act}{Q:Exit->Act->World->Prop}(hgd:o.guard=none)(l c:Operand)(ho:o.op=.makeSlice D.t l c)
 (L C:Int) (hl:a.eval l=.int .i64 L) (hc:a.eval c=.int .i64 C) (n:Nat) (hL:L=n) (hC:C=n) (hn:n<=1048576) (hbase:base<=w.heap.size)
 (h:∀w',w'.ownsRow base D.e D.m (.slice (some ⟨w.heap.size,0,none⟩) n n) n (madeCells D.z.cells (n*D.m)).toList->Ext w w'->w'.heap.size=w.heap.size+1->wpList P ops Q rest (a.put o.dst (.slice (some ⟨w.heap.size,0,none⟩) n n)) w'):wpList P ops Q (o::rest) a w:=by
 obtain⟨i,hi,hz0,hsz,hby⟩:=info_parts D.hi;have hb:=D.hb;have hbound:i.bytes*n<=281474976710656:=by rw[hby];exact bX (Nat.mul_le_mul hb hn) (by decide)
 refine wpList_plain hgd fun K hK=> ?_
 have hrun:=run_make (P:=P) w D.t D.e i D.z D.ht hi hz0 .i64 .i64 n n (by omega) (by omega) (by
  have h:((i.bytes*n:Nat):Int)<=281474976710656:=by omega
  rwa[Int.natCast_mul]at h) (by omega)
 simp only[Int.toNat_natCast]at hrun;subst hL;subst hC;unfold Oper.wp;simp[execOp,ho,hl,hc,hrun,Result.andThen];refine hK _ _ (h _ ?_ ((Ext.refl _).alloc _) (by simp));rw[hsz];refine⟨by simp[size_madeCells],.inr ⟨w.heap.size,n,_,rfl,hbase,heap_alloc_new w _,aI _,by unfold maxLen;omega,by rw[size_madeCells],by rw[gY (by simp[size_madeCells])]⟩⟩
end
def am3{P:Program}{α:Type}(D:El P α)(w:World)(xs:List α)(e:Ending)(w':World):Prop:=∃A c,e=.returned (.slice A xs.length c)/\xs.length<=c/\Sl D w' A xs/\Ext w w'
def Dw{P:Program}{α:Type}(D:El P α)(w:World)(xs:List α)(e:Ending)(w':World):Prop:=∃v,e=.returned v/\Own D w.heap.size w' v xs/\Ext w w'
theorem Own.head{P:Program}{α:Type}{D:El P α}{w:World}{base:Nat}{v:Value}{xs:List α}(h:Own D base w v xs)(hx:xs≠[]):∃g c,v=.slice (some ⟨g,0,none⟩) xs.length c/\base<=g/\g<w.heap.size/\xs.length<=c:=by
 rcases h.2 with⟨_,h0⟩|⟨g,cap,cur,hv,hg,hh,hn,_⟩
 ·exact absurd (kM h0) hx
 ·refine⟨g,cap,hv,hg,?_,hn⟩
  rcases gM g w.heap.size with hlt|hge
  ·exact hlt
  ·rw[ze hge]at hh;cases hh
theorem Zz{α:Type}(f:α->α)(xs:List α)(k:Nat)(hk:k<xs.length):((xs.take k).map f++xs.drop k).set k (f xs[k])=(xs.take (k+1)).map f++xs.drop (k+1):=by
 have hl:((xs.take k).map f).length=k:=by simp;omega
 rw[List.set_append_right _ _ (by omega),hl,Nat.sub_self,iW hk,List.set_cons_zero,jk hk,List.map_append,dV];rfl
theorem ZA{α:Type}(f:α->α)(xs:List α)(k:Nat)(hk:k<xs.length):((xs.take k).map f++xs.drop k)[k]? =some xs[k]:=by
 have hl:((xs.take k).map f).length=k:=by simp;omega
 rw[nJ (by omega),hl,Nat.sub_self,iW hk];rfl
theorem vK(xs:List Int):fD.flat xs=xs.map (Value.int .i64):=by
 induction xs with
 |nil=>rfl
 |cons x xs ih=>
  simp only[El.flat,List.flatMap_cons,gX]at ih⊢;rw[ih];rfl
theorem Own.ahL{w:World}{base g c:Nat}{xs:List Int}(h:Own fD base w (.slice (some ⟨g,0,none⟩) xs.length c) xs){k:Nat}{x:Int}(hk:xs[k]? =some x):w.cell? ⟨g,k,none⟩=some (.int .i64 x)/\w.frozen? ⟨g,k,none⟩=false:=by
 have hl:=(List.getElem?_eq_some_iff.1 hk).1;refine⟨?_,World.ownsRow.frozenAt h k⟩;have:=World.ownsRow.cellAt h k (by simpa[fD]using hl);rw[this,vK,List.getElem?_map,hk];rfl
theorem Own.setInt{w:World}{base g c:Nat}{xs:List Int}(h:Own fD base w (.slice (some ⟨g,0,none⟩) xs.length c) xs)(k:Nat)(u:Int):
 Own fD base (w.setCell ⟨g,k,none⟩ (.int .i64 u)) (.slice (some ⟨g,0,none⟩) (xs.set k u).length c) (xs.set k u):=by
 have:=(World.ownsRow.stored h k (.int .i64 u)).1;unfold Own;rw[List.length_set,vK,List.map_set];rw[vK]at this;exact this
def Gg{P:Program}{α:Type}(D:El P α)(xs:List α):Ty:=⟨fun v w=>∃A c,v=.slice A xs.length c/\xs.length<=c/\Sl D w A xs,fun _ _ _ he ⟨A,c,h1,h2,h3⟩=>⟨A,c,h1,h2,h3.ext he⟩⟩
def afv{P:Program}{α:Type}(D:El P α)(xs:List α):Ty:=⟨fun v w=>∃A,v=.slice A xs.length xs.length/\Sl D w A xs,fun _ _ _ he ⟨A,h1,h3⟩=>⟨A,h1,h3.ext he⟩⟩
def sJ{P:Program}{α:Type}(D:El P α)(base:Nat)(xs:List α):Ty:=⟨fun v w=>Own D base w v xs,fun _ _ _ he h=>h.ext he⟩
def La{P:Program}{α:Type}(D:El P α)(base:Nat)(xs ys:List α):Ty:=
 ⟨fun v w=>(ys≠[]/\Own D base w v (xs++ys))∨(ys=[]/\∃A,v=.slice A xs.length xs.length/\Sl D w A xs),fun _ _ _ he h=>h.elim (fun h=>.inl ⟨h.1,h.2.ext he⟩) (fun⟨h0,A,h1,h3⟩=>.inr ⟨h0,A,h1,h3.ext he⟩)⟩
section
variable {P:Program} {w w':World} {ρ:Operand->Value} {o:Oper} {T:Value->World->Prop} {c:Value}
theorem ak{y:Nat->Option Bool}{X Y:Prop}(hg:o.guard=none)(h:X):if Region.wanted o y=true then X else Y:=by
 rw[bH (by simp[Region.wanted,hg])];exact h
theorem bg{y:Nat->Option Bool}{X Y:Prop}(j:Nat)(want g:Bool)(hg:o.guard=some (j,want))(hy:y j=some g)(h1:g=want->X)(h2:g= !want->Y):if Region.wanted o y=true then X else Y:=by
 by_cases h:g=want
 ·rw[bH (by simp[Region.wanted,hg,hy,h])]
  exact h1 h
 ·rw[aU (by simp[Region.wanted,hg,hy,h])]
  exact h2 (by cases g<;>cases want<;>simp_all)
theorem aV{ops:List Oper}{env:List (Nat×Value)}{a0:List Value}{j t:Nat}{g:Bool}(hd:(ops[j]?).bind (·.dst)=some t)(hx:xD env a0 t=.bool g):vI ops env a0 j=some g:=by
 unfold vI;rw[hd];simp only[hx,Ga]
theorem oF(t:TypeId)(a b:Int)(h1: -9223372036854775808<=a+b)(h2:a+b<=9223372036854775807)(w:World):(binOp .add t (.int .i64 a) (.int .i64 b)).run P w=.ok (.int .i64 (a+b)) w:=by
 simp[binOp,Op.intArith,IntWalk.i64_in _ ⟨h1,h2⟩]
theorem zf(t:TypeId)(a b:Int)(h1: -9223372036854775808<=a-b)(h2:a-b<=9223372036854775807)(w:World):(binOp .sub t (.int .i64 a) (.int .i64 b)).run P w=.ok (.int .i64 (a-b)) w:=by
 simp[binOp,Op.intArith,IntWalk.i64_in _ ⟨h1,h2⟩]
theorem Ve(t:TypeId)(a b:Int)(h1: -9223372036854775808<=a*b)(h2:a*b<=9223372036854775807)(w:World):(binOp .mul t (.int .i64 a) (.int .i64 b)).run P w=.ok (.int .i64 (a*b)) w:=by
 simp[binOp,Op.intArith,IntWalk.i64_in _ ⟨h1,h2⟩]
theorem Vf(t:TypeId)(a b:Int)(w:World):(binOp .lss t (.int .i64 a) (.int .i64 b)).run P w=.ok (.bool (decide (a<b))) w:=by simp[binOp,Op.intCmp]
theorem rV(t:TypeId)(a b:Int)(w:World):(binOp .gtr t (.int .i64 a) (.int .i64 b)).run P w=.ok (.bool (decide (b<a))) w:=by simp[binOp,Op.intCmp]
theorem Vg(t:TypeId)(a b:Int)(w:World):(binOp .leq t (.int .i64 a) (.int .i64 b)).run P w=.ok (.bool (decide (a<=b))) w:=by simp[binOp,Op.intCmp]
theorem Vh(t:TypeId)(a b:Int)(w:World):(binOp .geq t (.int .i64 a) (.int .i64 b)).run P w=.ok (.bool (decide (b<=a))) w:=by simp[binOp,Op.intCmp]
theorem Jo(t:TypeId)(a b:Int)(w:World):(binOp .neq t (.int .i64 a) (.int .i64 b)).run P w=.ok (.bool (decide (a≠b))) w:=by
 have:(a !=b)=decide (a≠b):=by rw[Bool.eq_iff_iff];simp
 simp[binOp,Op.intCmp,this]
theorem eT{v:Value}(hr:(execOp ρ o).run P w=.ok (.value v) w')(he:Ext w w')(h:T v w'):bL P ρ o w T:=by
 unfold bL;rw[hr];exact⟨he,h⟩
theorem aF(x:Operand)(ho:o.op=.move x)(hx:ρ x=c)(h:T c w):bL P ρ o w T:=eT (w':=w) (v:=c) (by simp[execOp,ho,hx]) (Ext.refl _) h
theorem jY(x:Operand)(ho:o.op=.assign x)(hx:ρ x=c)(h:T c w):bL P ρ o w T:=eT (w':=w) (v:=c) (by simp[execOp,ho,hx]) (Ext.refl _) h
theorem nT(x y z:Operand)(ho:o.op=.pick x y z)(b:Bool)(hx:ρ x=.bool b)(hy:b=true->ρ y=c)(hz:b=false->ρ z=c)(h:T c w):bL P ρ o w T:=
 eT (w':=w) (v:=c) (by cases b<;>simp[execOp,ho,hx,asBool,hy,hz]) (Ext.refl _) h
theorem I6(x:Operand)(t:TypeId)(ho:o.op=.unOp .not t x)(b:Bool)(hx:ρ x=.bool b)(h:T (.bool (!b)) w):bL P ρ o w T:=
 eT (w':=w) (v:=.bool (!b)) (by simp[execOp,ho,hx,Op.unary]) (Ext.refl _) h
theorem Bg(x:Operand)(t e:TypeId)(ht:P.underlying t=some (.slice e))(ho:o.op=.call {callee:=.builtin .len,args:= #[x],argTypes:= #[t]})(A:Option Addr)(n k:Nat)(hx:ρ x=.slice A n k)(h:T (.int .i64 n) w):bL P ρ o w T:=
 eT (w':=w) (v:=.int .i64 n) (by simp[execOp,ho,hx,resolve,invoke,builtin,Builtin.len_,goInt,run_underlying ht]) (Ext.refl _) h
theorem jm(x:Operand)(i:Nat)(ho:o.op=.extract x i)(vs:Array Value)(hx:ρ x=.tuple vs)(hv:vs[i]? =some c)(h:T c w):bL P ρ o w T:=
 eT (w':=w) (v:=c) (by simp[execOp,ho,hx,Instr.extract,hv]) (Ext.refl _) h
theorem eF(op:BinOp)(t t':TypeId)(x y:Operand)(ho:o.op=.binOp op t x y t')(a b:Int)(hx:ρ x=.int .i64 a)(hy:ρ y=.int .i64 b)(hr:∀w,(binOp op t (.int .i64 a) (.int .i64 b)).run P w=.ok c w)(h:T c w):bL P ρ o w T:=
 eT (w':=w) (v:=c) (by cases op<;>simp[execOp,ho,hx,hy,eqGuard,hr]) (Ext.refl _) h
theorem Xg(op:BinOp)(t t':TypeId)(x y:Operand)(ho:o.op=.binOp op t x y t')(a b:ByteArray)(hx:ρ x=.string a)(hy:ρ y=.string b)(hr:∀w,(binOp op t (.string a) (.string b)).run P w=.ok c w)(h:T c w):bL P ρ o w T:=
 eT (w':=w) (v:=c) (by cases op<;>simp[execOp,ho,hx,hy,eqGuard,hr]) (Ext.refl _) h
theorem tT(op:BinOp)(t t':TypeId)(x y:Operand)(ho:o.op=.binOp op t x y t')(a b:Array Value)(hx:ρ x=.agg a)(hy:ρ y=.agg b)(hm:P.eqGuardType P.depth t=false)(hr:∀w,(binOp op t (.agg a) (.agg b)).run P w=.ok c w)(h:T c w):bL P ρ o w T:=
 eT (w':=w) (v:=c) (by simp[execOp,ho,hx,hy,run_eqGuard_agg w op t x y a b hm,hr]) (Ext.refl _) h
def Br(ρ:Operand->Value):List Operand->List Value->Prop
 |[],[]=>True
 |x::xs,v::vs=>ρ x=v/\Br ρ xs vs
 |_,_=>False
theorem Br.map{ρ:Operand->Value}:∀{xs:List Operand} {vs:List Value},Br ρ xs vs->xs.map ρ=vs
 |[],[],_=>rfl
 |_::_,_::_,h=>by rw[gX,h.1,Br.map h.2]
 |[],_::_,h=>h.elim
 |_::_,[],h=>h.elim
theorem fC(f:FuncId)(hf:∀args w,(callFunc f args).run P w=.ok (.enter f args) w)(xs:List Operand)(ts:Array TypeId)(ho:o.op=.call {callee:=.value (.func f),args:=xs.toArray,argTypes:=ts})(hfn:ρ (.func f)=.func (.func f) #[] #[])
 (vs:List Value) (hv:Br ρ xs vs) (h:Calls P f vs.toArray w fun e w''=>∃v,e=.returned v/\Ext w w''/\T v w''):bL P ρ o w T:=by
 have hr:(execOp ρ o).run P w=.ok (.enter f vs.toArray) w:=by
  have:=hv.map;simp[execOp,ho,resolve,Deferred.ofValue,hfn,invoke,this,hf]
 unfold bL;rw[hr];exact h
end
section
variable {P:Program} {α:Type} (D:El P α) {w w':World} {A B:Option Addr} {xs ys:List α} {ρ:Operand->Value} {o:Oper}
theorem Xh(x hi mx:Operand)(ho:o.op=.slice D.t x none (some hi) (some mx))(c:Nat)(hx:ρ x=.slice A xs.length c)(h:Nat)(hhi:ρ hi=.int .i64 h)(hmx:ρ mx=.int .i64 h)
 (hsl:Sl D w A xs) (h2:h<=xs.length) (h3:xs.length<=c):bL P ρ o w (afv D (xs.take h)).p:=by
 have hr:=run_slice_any D (w:=w) (A:=A) (c:=c) xs.length 0 h h none (some (.int .i64 h)) (some (.int .i64 h)) rfl rfl ⟨rfl,rfl⟩ (bI _) (aI _) (by omega) h3;unfold bL execOp;simp only[ho,hx,hhi,hmx,Option.map_some,Option.map_none,Sem.run_bind,Sem.run_pure,hr,Result.andThen_ok];refine⟨Ext.refl _,?_⟩
 have hs:Sl D w (if h=0 then A else A.map (·.add (0*D.m))) (xs.take h):=by
  by_cases h0:h=0
  ·subst h0;simp[Sl.nil]
  ·rw[aU h0]
   have:=Sl.take hsl h;cases A with
   |none=>exact this
   |some ad=>simpa[Addr.add]using this
 have e:h-0=(xs.take h).length:=by simp;omega
 rw[e];exact⟨_,rfl,hs⟩
theorem Vi(s x:Operand)(ho:o.op=.call {callee:=.builtin .append,args:= #[s,x],argTypes:= #[D.t,D.t]})(c base:Nat)(hs:ρ s=.slice A xs.length xs.length)(hx:ρ x=.slice B ys.length c)
 (h1:Sl D w A xs) (h2:Sl D w B ys) (hn:xs.length+ys.length<=68719476736) (hbase:base<=w.heap.size):bL P ρ o w (La D base xs ys).p:=by
 have hr:=C9 D o.type c h1 h2 hn;unfold bL execOp;simp only[ho,resolve,invoke,builtin,Sem.run_bind,Sem.run_pure,Result.andThen_ok,List.map_toArray,gX,List.map_nil,hs,hx];rcases hr with⟨h0,hr⟩|⟨h0,v',w',hr,hown,hext⟩
 ·simp only[hr,Result.andThen_ok]
  exact⟨Ext.refl _,.inr ⟨h0,_,rfl,h1⟩⟩
 ·simp only[hr,Result.andThen_ok]
  exact⟨hext,.inl ⟨h0,hown.mono hbase⟩⟩
end
def aK(cs:List Value):Ty:=⟨fun v w=>∃b off,v=.pointer (some ⟨b,off,none⟩)/\b<w.heap.size/\∀j u,cs[j]? =some u->w.cell? ⟨b,off+j,none⟩=some u,
 fun _ _ _ he ⟨b,off,h1,h2,h3⟩=>⟨b,off,h1,bQ h2 he.size,fun j u hu=>(he.cell (p:=⟨b,off+j,none⟩) h2).trans (h3 j u hu)⟩⟩
def fQ(p:Prop)(T:Ty):Ty:=⟨fun v w=>p->T.p v w,fun _ _ _ he h hp=>T.mono _ _ _ he (h hp)⟩
section
variable {P:Program} {w w':World} {ρ:Operand->Value} {o:Oper} {T:Value->World->Prop} {c:Value}
theorem bL.imp{T':Value->World->Prop}(h:bL P ρ o w T)(hi:∀v w',T v w'->T' v w'):bL P ρ o w T':=by
 unfold bL at h⊢;generalize (execOp ρ o).run P w=r at h⊢;cases r with
 |halt x w'=>exact h
 |ok x w'=>
  cases x<;>simp only at h⊢<;>first|exact h.elim|skip
  ·exact⟨h.1,hi _ _ h.2⟩
  ·exact⟨h.1,hi _ _ h.2⟩
  ·refine Calls.mono h ?_
   rintro e w'' ⟨x,rfl,h1,h2⟩;exact⟨x,rfl,h1,hi _ _ h2⟩
theorem bL.gd{p:Prop}{T:Ty}(h:bL P ρ o w T.p):bL P ρ o w (fQ p T).p:=h.imp fun _ _ h _=>h
theorem I7(x y:Operand)(ho:o.op=.pick x y (.const (.bool false)))(hf:ρ (.const (.bool false))=.bool false)(G X:Bool)(hx:ρ x=.bool G)(hy:G=true->ρ y=.bool X)(h:T (.bool (G&&X)) w):bL P ρ o w T:=
 nT x y _ ho G hx (fun e=>(hy e).trans (by rw[e];rfl)) (fun e=>hf.trans (by rw[e];rfl)) h
theorem ZB(x y:Operand)(ho:o.op=.pick x (.const (.bool true)) y)(hf:ρ (.const (.bool true))=.bool true)(G X:Bool)(hx:ρ x=.bool G)(hy:G=false->ρ y=.bool X)(h:T (.bool (G||X)) w):bL P ρ o w T:=
 nT x _ y ho G hx (fun e=>hf.trans (by rw[e];rfl)) (fun e=>(hy e).trans (by rw[e];rfl)) h
theorem iq{α:Type}(D:El P α)(x i:Operand)(ho:o.op=.indexAddr D.t x i)(A:Option Addr)(xs:List α)(k':Nat)(hx:ρ x=.slice A xs.length k')(k:Nat)(hi:ρ i=.int .i64 k)(hsl:Sl D w A xs)(y:α)(hk:xs[k]? =some y):
 bL P ρ o w (aK (D.E y)).p:=by
 obtain⟨i',hi',_,hsz,_⟩:=info_parts D.hi;have hs:∀w,(sizeOf D.e).run P w=.ok D.m w:=fun w=>by simp[sizeOf,typeInfo,hi',hsz]
 have hlt:=(List.getElem?_eq_some_iff.1 hk).1;obtain⟨b,off,rfl,hb,hc⟩:=hsl.at_ hlt;have hky:xs[k]=y:=(List.getElem?_eq_some_iff.1 hk).2;rw[hky]at hc
 have hr:(execOp ρ o).run P w=.ok (.value (.pointer (some ((⟨b,off,none⟩:Addr).add (k*D.m))))) w:=by
  simp[execOp,ho,hx,hi,Instr.indexAt,asIntOf,run_underlying D.ht,hs,hlt]
 refine eT hr (Ext.refl _) ?_
 have ea:((⟨b,off,none⟩:Addr).add (k*D.m))=⟨b,off+k*D.m,none⟩:=by
  unfold Addr.add
  split
  ·rename_i h0;simp[h0]
  ·rfl
 rw[ea];exact⟨b,off+k*D.m,rfl,hb,hc⟩
theorem bW(t:TypeId)(x:Operand)(ho:o.op=.load t x)(ha:∀w,(isAgg t).run P w=.ok false w)(hp:(aK [c]).p (ρ x) w)(h:T c w):bL P ρ o w T:=by
 obtain⟨b,off,hx,_,hc⟩:=hp;have hcell:w.cell? ⟨b,off,none⟩=some c:=hc 0 c rfl;refine eT (w':=w) (v:=c) ?_ (Ext.refl _) h;simp[execOp,ho,hx,Instr.loadAt,Instr.sureAddr,loadVar,ha,load,Sem.run,hcell]
theorem bU(t:TypeId)(x:Operand)(ho:o.op=.load t x)(ha:∀w,(isAgg t).run P w=.ok true w)(n:Nat)(hn:∀w,(sizeOf t).run P w=.ok n w)(cs:List Value)(hcs:cs.length=n)(hp:(aK cs).p (ρ x) w)(h:T (.agg cs.toArray) w):bL P ρ o w T:=by
 obtain⟨b,off,hx,_,hc⟩:=hp;subst hcs
 have hl:=run_loadCells_list (P:=P) w ⟨b,off,none⟩ cs (fun j u hu=>by
  have:=hc j u hu;unfold Addr.add
  split
  ·rename_i h0;subst h0;simpa using this
  ·exact this)
 refine eT (w':=w) (v:=.agg cs.toArray) ?_ (Ext.refl _) h;simp[execOp,ho,hx,Instr.loadAt,Instr.sureAddr,loadVar,ha,hn,hl]
theorem aK.drop{cs:List Value}{v:Value}{n:Nat}(h:(aK cs).p v w):∃b off,v=.pointer (some ⟨b,off,none⟩)/\(aK (cs.drop n)).p (.pointer (some ⟨b,off+n,none⟩)) w:=by
 obtain⟨b,off,rfl,hb,hc⟩:=h;refine⟨b,off,rfl,b,off+n,rfl,hb,fun j u hu=> ?_⟩;rw[List.getElem?_drop]at hu;have:=hc _ u hu
 rwa[<-Nat.add_assoc]at this
theorem aK.take{cs:List Value}{v:Value}(n:Nat)(h:(aK cs).p v w):(aK (cs.take n)).p v w:=by
 obtain⟨b,off,rfl,hb,hc⟩:=h;refine⟨b,off,rfl,hb,fun j u hu=>hc j u ?_⟩;rw[List.getElem?_take]at hu
 split at hu
 ·exact hu
 ·cases hu
theorem dB(s f:Nat)(x:Operand)(ho:o.op=.fieldAddr s x f)(fs:Array Field)(hs:P.underlying s=some (.struct fs))(kF:Field)(hf:fs[f]? =some kF)(m:Nat)(hm:∀w,(sizeOf kF.type).run P w=.ok m w)(hm0:m≠0)
 (cs:List Value) (hp:(aK cs).p (ρ x) w):bL P ρ o w (aK ((cs.drop kF.offset).take m)).p:=by
 obtain⟨b,off,hx,hq⟩:=aK.drop (n:=kF.offset) hp
 have hr:(execOp ρ o).run P w=.ok (.value (.pointer (some ((⟨b,off,none⟩:Addr).add kF.offset)))) w:=by
  simp[execOp,ho,hx,Instr.fieldAt,run_underlying hs,hf,Instr.sureAddr,fieldPlace,hm,hm0]
 refine eT hr (Ext.refl _) ?_
 have ea:((⟨b,off,none⟩:Addr).add kF.offset)=⟨b,off+kF.offset,none⟩:=by
  unfold Addr.add
  split
  ·rename_i h0;simp[h0]
  ·rfl
 rw[ea];exact aK.take m hq
def vL(ρ:Operand->Value):List (Nat×Operand)->List (Nat×Value)->Prop
 |[],[]=>True
 |p::ps,q::qs=>(p.1=q.1/\ρ p.2=q.2)/\vL ρ ps qs
 |_,_=>False
theorem vL.map{ρ:Operand->Value}:∀{ps:List (Nat×Operand)} {qs:List (Nat×Value)},vL ρ ps qs->ps.map (fun x=>(x.1,ρ x.2))=qs
 |[],[],_=>rfl
 |p::_,q::_,h=>by
  rw[gX,vL.map h.2,h.1.1,h.1.2]
 |[],_::_,h=>h.elim
 |_::_,[],h=>h.elim
theorem Cx(t:TypeId)(ps:List (Nat×Operand))(ho:o.op=.build t ps.toArray)(qs:List (Nat×Value))(hv:vL ρ ps qs)(hr:∀w,(Instr.build t qs.toArray).run P w=.ok c w)(h:T c w):bL P ρ o w T:=by
 have:=hv.map;refine eT (w':=w) (v:=c) ?_ (Ext.refl _) h;simp[execOp,ho,this,hr]
theorem Nw{α:Type}(D:El P α)(n:Nat)(ps:List (Nat×Operand))(ho:o.op=.buildSlice D.t n ps.toArray)(qs:List (Nat×Value))(hv:vL ρ ps qs)(base:Nat)(hb:base<=w.heap.size)(xs:List α)(hn:xs.length=n)(h20:n<=1048576)
 (hr:∀w,(Instr.buildSlice D.t n qs.toArray).run P w=.ok (.slice (some ⟨w.heap.size,0,none⟩) n n) (w.alloc (.cells (D.flat xs).toArray D.e))):bL P ρ o w (sJ D base xs).p:=by
 have:=hv.map;refine eT (w':=w.alloc (.cells (D.flat xs).toArray D.e)) (v:=.slice (some ⟨w.heap.size,0,none⟩) n n) ?_ ((Ext.refl _).alloc _) ?_
 ·simp[execOp,ho,this,hr]
 ·subst hn
  exact Own.lit D hb h20 (by simp)
end
theorem Lb{P:Program}{α:Type}(D:El P α){w:World}{v:Value}{B:Option Addr}{base:Nat}{xs ys rs:List α}{ops:Array Oper}{rest:List Oper}{o:Oper}{a:Act}{Q:Exit->Act->World->Prop}(hgd:o.guard=none)(s x:Operand)
 (ho:o.op=.call {callee:=.builtin .append,args:= #[s,x],argTypes:= #[D.t,D.t]}) (c:Nat) (hs:a.eval s=v) (hx:a.eval x=.slice B rs.length c) (hg:(La D base xs ys).p v w) (hsl:Sl D w B rs)
 (hn:xs.length+ys.length+rs.length<=68719476736) (hbase:base<=w.heap.size)
 (h:∀A' c' zs w',Hid (zs=xs++ys++rs)->zs.length<=c'->Sl D w' A' zs->Below base w w'->wpList P ops Q rest (a.put o.dst (.slice A' zs.length c')) w'):wpList P ops Q (o::rest) a w:=by
 rcases hg with⟨_,hown⟩|⟨h0,A,rfl,hsx⟩
 ·refine fK D hgd s x ho c hs hown hx hsl (by simp;omega) hbase ?_
  intro v' w' hown' hb' _;obtain⟨A',c',rfl,hc',hs'⟩:=hown'.form;exact h A' c' _ w' rfl hc' hs' hb'
 ·subst h0
  refine wpList_plain hgd fun K hK=> ?_;have hr:=C9 D o.type c hsx hsl (by simp at hn;omega);unfold Oper.wp execOp;simp only[ho,resolve,invoke,builtin,Sem.run_bind,Sem.run_pure,Result.andThen_ok,List.map_toArray,gX,List.map_nil,hs,hx];rcases hr with⟨h0,hr⟩|⟨h0,v',w',hr,hown,hext⟩
  ·subst h0
   simp only[hr,Result.andThen_ok];exact hK _ _ (h A xs.length xs w (by simp[Hid]) (aI _) hsx (Below.refl _ _))
  ·simp only[hr,Result.andThen_ok]
   obtain⟨A',c',rfl,hc',hs'⟩:=hown.form;exact hK _ _ (h A' c' _ w' (by simp[Hid]) hc' hs' (Below.mono hext hbase))
theorem ZC{k:IntKind}{a b:Int}(h:a=b):Value.int k a=.int k b:=by rw[h]
section
variable {w w':World} {A:Option Addr}
theorem I8{xs:List ByteArray}(h:Sl bP w A xs){k:Nat}(hk:k<xs.length):∃b off,A=some ⟨b,off,none⟩/\b<w.heap.size/\w.cell? ⟨b,off+k,none⟩=some (.string xs[k]):=by
 obtain⟨b,off,hA,hb,hc⟩:=h.at_ hk;refine⟨b,off,hA,hb,?_⟩;have:=hc 0 _ rfl;simpa[bP]using this
theorem Eo{xs:List Int}(h:Sl fD w A xs){k:Nat}(hk:k<xs.length):∃b off,A=some ⟨b,off,none⟩/\b<w.heap.size/\w.cell? ⟨b,off+k,none⟩=some (.int .i64 xs[k]):=by
 obtain⟨b,off,hA,hb,hc⟩:=h.at_ hk;refine⟨b,off,hA,hb,?_⟩;have:=hc 0 _ rfl;simpa[fD]using this
theorem Lc{xs:List aJ}(h:Sl aQ w A xs){k:Nat}(hk:k<xs.length):∃b off,A=some ⟨b,off,none⟩/\b<w.heap.size/\w.cell? ⟨b,off+k*4,none⟩=some (.string xs[k].t)/\
 w.cell? ⟨b,off+k*4+1,none⟩=some (.int .i64 xs[k].a)/\w.cell? ⟨b,off+k*4+2,none⟩=some (.int .i64 xs[k].i)/\w.cell? ⟨b,off+k*4+3,none⟩=some (.int .i64 xs[k].k):=by
 obtain⟨b,off,hA,hb,hc⟩:=h.at_ hk;exact⟨b,off,hA,hb,by simpa[aQ]using hc 0 _ rfl,hc 1 _ rfl,hc 2 _ rfl,hc 3 _ rfl⟩
end
instance:DecidableEq aJ:=fun x y=>by
 rcases x with⟨a,b,c,d⟩;rcases y with⟨a',b',c',d'⟩;exact decidable_of_iff (a=a'/\b=b'/\c=c'/\d=d') (by simp)
theorem Bt{α:Type}{xs ys:List α}{k:Nat}(hx:k<xs.length)(hy:k<ys.length):xs.take (k+1)=ys.take (k+1)↔xs.take k=ys.take k/\xs[k]=ys[k]:=by
 rw[jk hx,jk hy]
 constructor
 ·intro h
  have:=List.append_inj h (by simp;omega);exact⟨this.1,by simpa using this.2⟩
 ·rintro⟨h1,h2⟩
  rw[h1,h2]
theorem bytes_inj{a b:ByteArray}(h:a.toList=b.toList):a=b:=by
 rw[ByteArray.toList_eq,ByteArray.toList_eq]at h;cases a;cases b
 simpa using h
theorem zB(a b:ByteArray):(a.toList==b.toList)=decide (a=b):=by
 rw[Bool.eq_iff_iff];simp only[beq_iff_eq,decide_eq_true_eq];exact⟨bytes_inj,fun h=>by rw[h]⟩
theorem oU{a b:Bool}(h:a=b):Ending.returned (.bool a)=.returned (.bool b):=by rw[h]
@[go_sem] theorem asS (a b c a' b' c':Int) (w:World):(Op.equalIn 9999 46 (.agg #[.int .i64 a,.int .i64 b,.int .i64 c]) (.agg #[.int .i64 a',.int .i64 b',.int .i64 c'])).run prog w=.ok (decide (a=a'/\b=b'/\c=c')) w:=by
 have u3:=underlying3;have hS:prog.underlying 46=some (.struct (prog.fieldsOf 46)):=by kernel_rfl
 rw[show(9999:Nat)=9998+1 from rfl,run_equalIn_agg w 9998 46 _ _ hS (by kernel_rfl)];simp only[Program.fieldsOf,underlying46]
 go_simp
 by_cases h1:a=a'<;>by_cases h2:b=b'<;>by_cases h3:c=c'<;>simp[h1,h2,h3]
@[go_sem] theorem ait (s s':ByteArray) (a b c a' b' c':Int) (w:World):(Op.equalIn 10000 48 (.agg #[.string s,.int .i64 a,.int .i64 b,.int .i64 c]) (.agg #[.string s',.int .i64 a',.int .i64 b',.int .i64 c'])).run prog w=
 .ok (decide (s=s'/\a=a'/\b=b'/\c=c')) w:=by
 have u3:=underlying9;have hS:prog.underlying 48=some (.struct (prog.fieldsOf 48)):=by kernel_rfl
 rw[show(10000:Nat)=9999+1 from rfl,run_equalIn_agg w 9999 48 _ _ hS (by kernel_rfl)];simp only[Program.fieldsOf,underlying48]
 go_simp
 by_cases h1:s=s'
 ·subst h1
  by_cases h1:a=a'<;>by_cases h2:b=b'<;>by_cases h3:c=c'<;>simp[h1,h2,h3]
 ·have hn:¬s.toList=s'.toList:=fun h=>h1 (bytes_inj h)
  simp[h1,hn]
theorem ahM(w:World)(x y:aJ):(binOp .neq 48 (.agg #[.string x.t,.int .i64 x.a,.int .i64 x.i,.int .i64 x.k]) (.agg #[.string y.t,.int .i64 y.a,.int .i64 y.i,.int .i64 y.k])).run prog w=.ok (.bool (!decide (x=y))) w:=by
 rw[run_neq_struct,ait];simp only[Result.andThen_ok]
 congr 3
 cases x;cases y
 simp
theorem Qm{α:Type}(p:α->Bool)(l:List α)(k:Nat)(hk:k<l.length):(l.take (k+1)).all p=((l.take k).all p&&p l[k]):=by
 rw[jk hk,List.all_append];simp
theorem Q5{α:Type}{p:α->Bool}{l:List α}{k:Nat}(hk:k<l.length)(h:p l[k]=false):l.all p=false:=by
 rw[List.all_eq_false];exact⟨l[k],dW hk,by simp[h]⟩
theorem Fw{α β:Type}(f:α->β)(l:List α)(k:Nat)(hk:k<l.length):(l.take (k+1)).map f=(l.take k).map f++[f l[k]]:=by
 rw[jk hk,List.map_append];rfl
end Go.Proofs.YtgboomjahhnldaaGreatDoor
