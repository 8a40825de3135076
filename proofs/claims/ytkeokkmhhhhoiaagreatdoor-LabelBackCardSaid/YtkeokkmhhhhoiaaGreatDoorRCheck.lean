import Derived.Test.YtkeokkmhhhhoiaaGreatDoorK1
import Derived.RangeFuncFrom
import Derived.RangeFuncBox
import Derived.RangeFuncLeaves
import Derived.Shelf.Abstract
import Derived.WalkKit
import Derived.OwnWalkIn
import Derived.TacticsInMore
import Derived.LoopNIn
import Derived.LoopIn
import Derived.LoopTactic
import Derived.RangeFuncCalls
import Derived.RangeFuncNested
namespace Go.Proofs.YtkeokkmhhhhoiaaGreatDoor
open Go Go.SE Go.RowKit Go.Shelf
set_option linter.unusedVariables false
attribute [local go_sem] Oper.semAt_some
def AdQ (x:Ap):Bool:=decide (0<=x.GQ)&&(decide (x.GQ<=x.GD)&&(decide (x.GD<=1114111)&&(decide (0<=x.CP)&&decide (x.CP<=999999))))
theorem AlZ (x:Ap):RQ x=some (AdQ x):=by
 unfold RQ AdQ
 by_cases h1:0<=x.GQ<;>by_cases h2:x.GQ<=x.GD<;>by_cases h3:x.GD<=1114111<;>by_cases h4:0<=x.CP<;>simp[h1,h2,h3,h4]
def AgA (x:Ap):Value:=.agg #[.int .i32 x.GQ, .int .i32 x.GD, .int .i64 x.CP]
theorem AdR (x:Ap) {w:World} (G:Glob pl.laid w A0):Calls Tryz.prog 237 #[AgA x] w fun e w'=>e=.returned (.bool (AdQ x))/\Below w.heap.size w w':=by
 refine(sU x (AdQ x) (AlZ x)).top G (vs:= [AgA x]) rfl fun i a v ha hv=>?_
 match i,ha,hv with
 |0,ha,hv=>
  cases ha;cases hv
  refine .agg _ [.int .i32 x.GQ, .int .i32 x.GD, .int .i64 x.CP] rfl (fun v hv=>?_) fun c a v ha hv=>?_
  ·simp at hv;rcases hv with rfl|rfl|rfl<;>rfl
  ·match c,ha,hv with
   |0,ha,hv=>cases ha;cases hv;exact .int _ _
   |1,ha,hv=>cases ha;cases hv;exact .int _ _
   |2,ha,hv=>cases ha;cases hv;exact .int _ _
   |c+3,ha,hv=>simp at ha
 |i+1,ha,hv=>simp at ha
theorem dJ (n:Int) (t:TypeId) (a:Addr) (w:World):Calls Tryz.prog 213 #[.int .i64 n, .iface t (.pointer (some a))] w fun e w'=>e=.returned (.iface 70 (.pointer (some ⟨w.heap.size,0,none⟩)))/\w'=w.alloc (.cells #[.int .i64 n, .iface t (.pointer (some a))] 74):=by
 go_enter Tryz.func213,Tryz.ntmps213
 go_wp2
 go_ret
 exact⟨rfl,rfl⟩
theorem tN (s:Value) (hs:s.cells= #[s]) (w:World) (a:Option Addr) (n c:Nat) (hs:s=.slice a n c):Calls Tryz.prog 214 #[s] w fun e w'=>e=.returned (.func (.func 236) #[] #[.pointer (some ⟨w.heap.size,0,none⟩)])/\w'=w.alloc (.cells #[s] 23):=by
 subst hs
 go_enter Tryz.func214,Tryz.ntmps214
 go_wp2
 go_ret
 exact⟨rfl,rfl⟩
structure KC (W W':World):Prop where
 size:W.heap.size<=W'.heap.size
 same: ∀(k:Nat) (o:Obj),W.heap[k]? =some o->o.isCells=true->W'.heap[k]? =some o
theorem KC.refl (W:World):KC W W:=⟨Nat.le_refl _,fun _ _ h _=>h⟩
theorem KC.trans {A B C:World} (h:KC A B) (k:KC B C):KC A C:=⟨Nat.le_trans h.size k.size,fun i o hi ho=>k.same i o (h.same i o hi ho) ho⟩
theorem KC.alloc (W:World) (o:Obj):KC W (W.alloc o):=⟨by simp,fun k o' hk _=>(Below.heap_alloc W o k (Array.getElem?_eq_some_iff.1 hk).1).trans hk⟩
theorem KC.below {W W':World} (h:Below W.heap.size W W'):KC W W':=⟨h.size,fun k o hk _=>(h.block k (Array.getElem?_eq_some_iff.1 hk).1).trans hk⟩
theorem KC.put (W:World) (l:Nat) (o o':Obj) (hl:W.heap[l]? =some o) (ho:o.isCells=false):KC W (W.putObj l o'):=⟨by simp,fun k o'' hk h=>by
 by_cases e:k=l
 ·subst e;rw[hl]at hk;cases hk;rw[ho]at h;cases h
 ·exact(World.putObj_heap_other e).trans hk⟩
theorem KC.cell {W W':World} (h:KC W W') {a:Addr} {v:Value} (hc:W.cell? a=some v):W'.cell? a=some v:=by
 have hc':=hc
 unfold World.cell? at hc
 cases ho:W.heap[a.block]? with
 |none=>simp[ho]at hc
 |some o=>
  have:o.isCells=true:=by cases o<;>simp_all[Obj.isCells]
  rw[<- hc',World.cell?_of_block ((h.same _ _ ho this).trans ho.symm)]
theorem KC.glob {L:Laid} {W W':World} (h:KC W W') (G:Glob L W A0):Glob L W' A0 where
 sent g hg:=by
  obtain⟨h1,h2,a,h3,h5,cur,t,h6⟩:=G.sent g hg
  exact⟨nA0 _,Nat.lt_of_lt_of_le h2 h.size,a,h.cell h3,nA0 _,cur,t,h.same _ _ h6 rfl⟩
 apart g g' a hg hg' e e':=by
  obtain⟨_,_,b,h3,_⟩:=G.sent g hg
  obtain⟨_,_,b',h3',_⟩:=G.sent g' hg'
  have q:=h.cell h3
  have q':=h.cell h3'
  rw[e]at q
  rw[e']at q'
  cases q;cases q'
  exact G.apart g g' a hg hg' h3 h3'
 cst x hx:=by
  obtain⟨h1,h2,h3⟩:=G.cst x hx
  exact⟨nA0 _,Nat.lt_of_lt_of_le h2 h.size,h.cell h3⟩
def Acz (l:List Ap) (k:Nat):Int:=if k=0 then-1 else(l.getD (k-1) Ai).GD
def adF (aR aO:Addr) (g:Nat):Addr:=if g=12 then aR else aO
abbrev eV (aR aO:Addr) (g:Nat):Value:=.iface 270 (.pointer (some (adF aR aO g)))
theorem UN (l:List Ap) (k:Nat):DK l (k+1)=DK l k++(match G8 l k with|some g=> [(k,g)]|none=> []):=by
 unfold DK
 rw[List.range_succ,List.filterMap_append]
 congr 1
 cases h:G8 l k<;>simp[h]
theorem SX (l:List Ap) (k:Nat):(DK l k).length<=k:=by
 unfold DK
 exact Nat.le_trans (List.length_filterMap_le _ _) (by simp)
theorem Yb (l:List Ap) (k:Nat):G8 l k=if AdQ (l.getD k Ai)=false then some 12 else if(l.getD k Ai).GQ<=Acz l k then some 14 else none:=rfl
set_option maxRecDepth 100000 in
set_option maxHeartbeats 4000000 in
theorem Aa2 (l:List Ap) (hl:l.length<=2000) (n:Nat) (hn:1<=n) (lp Bs b off cap:Nat) (aR aO:Addr) (J Jx:List (Nat×Nat)->World->Prop) (W:World) (hJ:AbidesFrom W.heap.size J)
  (hY: ∀pre x W1,J pre W1->pre.length<l.length->YieldAt Fence.wide (n-1) Tryz.prog lp #[.int .i64 x.1,eV aR aO x.2] W1 fun e W'=>(e=.returned (.bool true)/\J (pre++ [x]) W'/\KC W1 W')∨(e=.returned (.bool false)/\Jx (pre++ [x]) W'))
  (G:Glob pl.laid W A0)
  (a:Option Addr) (ha:0<l.length->a=some ⟨b,off,none⟩)
  (hBs:W.cell? ⟨Bs,0,none⟩=some (.slice a l.length cap))
  (hR6:W.cell? ⟨12,0,none⟩=some (eV aR aO 12)) (hO7:W.cell? ⟨14,0,none⟩=some (eV aR aO 14))
  (hc: ∀j,j<l.length->W.cell? ⟨b,off+j*3,none⟩=some (.int .i32 (l.getD j Ai).GQ)/\W.cell? ⟨b,off+j*3+1,none⟩=some (.int .i32 (l.getD j Ai).GD)/\W.cell? ⟨b,off+j*3+2,none⟩=some (.int .i64 (l.getD j Ai).CP))
  (h0:J [] W):
  CallsIn Fence.wide n Tryz.prog 236 #[.func (.yield lp) #[] #[], .pointer (some ⟨Bs,0,none⟩)] W fun e W'=>(∃v,e=.returned v)/\
   ((∃xs,xs=DK l l.length/\J xs W')∨(∃pre,(∃k,k<=l.length/\pre=DK l k)/\Jx pre W')):=by
 refine callsIn_of_wp Tryz.func236 rfl trivial ?_ rfl
 simp only[Tryz.ntmps236,List.size_toArray,List.length_cons,List.length_nil,Nat.reduceAdd,Nat.reduceSub,Array.replicate_succ,Array.replicate_zero,List.push_toArray,List.append_toArray,List.nil_append,List.cons_append]
 gi_wp2
 gi_loopw [3,9] (fun last i wr=> ∃k:Nat,k<=l.length/\i=.int .i64 k/\last=.int .i32 (Acz l k)/\J (DK l k) wr/\KC W wr)
  (fun last i _=>l.length-(intOf i).toNat)
 case atStart=>exact⟨0,Nat.zero_le _,rfl,rfl,h0,KC.refl _⟩
 case round=>
  obtain⟨k,hk,rfl,rfl,hJs,hnx⟩:=hrel
  by_cases hlt:k<l.length
  ·have ha':=ha (by omega)
   subst ha'
   obtain⟨c0,c1,c2⟩:=hc k hlt
   obtain⟨x,hx⟩: ∃x,l.getD k Ai=x:=⟨_,rfl⟩
   rw[hx]at c0 c1 c2
   have c0:=hnx.cell c0
   have c1:=hnx.cell c1
   have c2:=hnx.cell c2
   have hwr:W.heap.size<=wr.heap.size:=hnx.size
   have hlast:Acz l (k+1)=x.GD:=by rw[<- hx];rfl
   have hfe:=Yb l k
   rw[hx]at hfe
   have hsc:=UN l k
   have hmc:=AdR x (w:=wr.alloc (.cells #[.int .i32 x.GQ, .int .i32 x.GD, .int .i64 x.CP] 98)) ((hnx.trans (KC.alloc _ _)).glob G)
   have after: ∀w',Below (wr.alloc (.cells #[.int .i32 x.GQ, .int .i32 x.GD, .int .i64 x.CP] 98)).heap.size (wr.alloc (.cells #[.int .i32 x.GQ, .int .i32 x.GD, .int .i64 x.CP] 98)) w'->
         KC W w'/\J (DK l k) w'/\wr.heap.size<w'.heap.size/\w'.cell? ⟨wr.heap.size,0,none⟩=some (.int .i32 x.GQ)/\w'.cell? ⟨wr.heap.size,1,none⟩=some (.int .i32 x.GD)/\w'.cell? ⟨12,0,none⟩=some (eV aR aO 12)/\w'.cell? ⟨14,0,none⟩=some (eV aR aO 14):=fun w' hB=>by
       have hs:=hB.size
       simp at hs
       have hcell: ∀i,w'.cell? ⟨wr.heap.size,i,none⟩=(wr.alloc (.cells #[.int .i32 x.GQ, .int .i32 x.GD, .int .i64 x.CP] 98)).cell? ⟨wr.heap.size,i,none⟩:=fun i=>hB.cell (p:=⟨wr.heap.size,i,none⟩) (by simp)
       have hbw:KC W w':=hnx.trans ((KC.alloc _ _).trans (KC.below hB))
       have hj1:J (DK l k) (wr.alloc (.cells #[.int .i32 x.GQ, .int .i32 x.GD, .int .i64 x.CP] 98)):=hJ _ _ _ none hJs (World.grownBy_alloc _ _ _) (fun r e=>by cases e)
       refine⟨hbw,hJ _ _ _ none hj1 ⟨hB.os,hB.tape,hB.output,hB.size,fun k hk _=>hB.block k hk⟩ (fun r e=>by cases e),by omega,?_,?_,hbw.cell hR6,hbw.cell hO7⟩
       ·rw[hcell];simp
       ·rw[hcell];simp
   cases hm:AdQ x with
   |false=>
    rw[hm]at hmc
    rw[hm,if_pos rfl]at hfe
    rw[hfe]at hsc
    gi_wp2
    refine⟨trivial,?_⟩
    refine(callsIn_wide.2 hmc).mono ?_
    rintro e w' ⟨rfl,hB⟩
    obtain⟨q1,q2,q3,q4,q5,q6,q7⟩:=after w' hB
    obtain⟨fn,tmps,assign,body,hy,hR⟩:=hY _ (k,12) w' q2 (Nat.lt_of_le_of_lt (SX l k) hlt)
    dsimp only at hy
    gi_wp2
    refine hR.mono ?_
    rintro e W3 (⟨rfl,hJ3,hk3⟩|⟨rfl,hJx3⟩)
    ·have q5':=hk3.cell q5
     gi_wp2
     go_roundw
     case rel=>exact⟨k+1,by omega,by simp,by rw[hlast],by rw[hsc];exact hJ3,q1.trans hk3⟩
     case measure=>simp[intOf];omega
    ·gi_wp2
     refine bodyPost_ret (results_none rfl _ _ _) rfl ?_
     exact⟨⟨_,rfl⟩, .inr ⟨_,⟨k+1,by omega,hsc.symm⟩,hJx3⟩⟩
   |true=>
    rw[hm]at hmc
    rw[hm,if_neg (by decide)]at hfe
    by_cases hlo:x.GQ<=Acz l k
    ·rw[if_pos hlo]at hfe
     rw[hfe]at hsc
     gi_wp2
     refine⟨trivial,?_⟩
     refine(callsIn_wide.2 hmc).mono ?_
     rintro e w' ⟨rfl,hB⟩
     obtain⟨q1,q2,q3,q4,q5,q6,q7⟩:=after w' hB
     obtain⟨fn,tmps,assign,body,hy,hR⟩:=hY _ (k,14) w' q2 (Nat.lt_of_le_of_lt (SX l k) hlt)
     dsimp only at hy
     gi_wp2
     refine hR.mono ?_
     rintro e W3 (⟨rfl,hJ3,hk3⟩|⟨rfl,hJx3⟩)
     ·have q5':=hk3.cell q5
      gi_wp2
      go_roundw
      case rel=>exact⟨k+1,by omega,by simp,by rw[hlast],by rw[hsc];exact hJ3,q1.trans hk3⟩
      case measure=>simp[intOf];omega
     ·gi_wp2
      refine bodyPost_ret (results_none rfl _ _ _) rfl ?_
      exact⟨⟨_,rfl⟩, .inr ⟨_,⟨k+1,by omega,hsc.symm⟩,hJx3⟩⟩
    ·rw[if_neg hlo]at hfe
     rw[hfe,List.append_nil]at hsc
     gi_wp2
     refine⟨trivial,?_⟩
     refine(callsIn_wide.2 hmc).mono ?_
     rintro e w' ⟨rfl,hB⟩
     obtain⟨q1,q2,q3,q4,q5,q6,q7⟩:=after w' hB
     gi_wp2
     refine⟨fun _ h=>(by cases h),?_⟩
     gi_wp2
     go_roundw
     case rel=>exact⟨k+1,by omega,by simp,by rw[hlast],by rw[hsc];exact q2,q1⟩
     case measure=>simp[intOf];omega
  ·obtain rfl:k=l.length:=by omega
   gi_wp2
   go_end0
   exact⟨⟨_,rfl⟩, .inl ⟨_,rfl,hJs⟩⟩
theorem YA (l:List Ap) {k n:Nat} (h:k<=n): ∃tl,DK l n=DK l k++tl:=by
 obtain⟨d,rfl⟩:=Nat.exists_eq_add_of_le h
 induction d with
 |zero=>exact⟨[],by simp⟩
 |succ d ih=>
  obtain⟨tl,ht⟩:=ih (by omega)
  exact⟨_,by rw[show k+(d+1)=(k+d)+1 from rfl,UN,ht,List.append_assoc]⟩
theorem _root_.Go.SE.Glob.Ame {L:Laid} {w:World} {A:Nat->Prop} (G:Glob L w A):Glob L w A0:=
 ⟨fun g hg=>by obtain⟨_,h2,a,h3,_,h4⟩:=G.sent g hg;exact⟨nA0 _,h2,a,h3,nA0 _,h4⟩,G.apart,fun x hx=>by obtain⟨_,h⟩:=G.cst x hx;exact⟨nA0 _,h⟩⟩
theorem ZB (l:List Ap) (n:Nat) (x:Nat×Nat) (h:x∈DK l n):x.2=12∨x.2=14:=by
 unfold DK at h
 obtain⟨k,_,hk⟩:=List.mem_filterMap.1 h
 rw[Yb]at hk
 split at hk
 ·cases hk;exact .inl rfl
 ·split at hk
  ·cases hk;exact .inr rfl
  ·cases hk
theorem jA (W:World) (vs:Array Value) (t:TypeId) (i:Nat) (v:Value) (n:Nat) (hn:n=W.heap.size) (h:vs[i]? =some v):(W.alloc (.cells vs t)).cell? ⟨n,i,none⟩=some v:=by
 subst hn
 simp[h]
theorem Ab2 {cx:Cx} {b:Nat} : ¬Wr cx [] b:=by rintro⟨i,e,o,_,h,_⟩;simp at h
theorem KC2 (w:World) (o o':Obj):Below w.heap.size w ((w.alloc o).alloc o'):=((Below.refl _ w).alloc (Nat.le_refl _) o).alloc (by simp) o'
set_option maxRecDepth 100000 in
set_option maxHeartbeats 4000000 in
theorem xG (l:List Ap) (hl:l.length<=2000) (w:World) (b off cap:Nat) (aR aO:Addr) (a:Option Addr) (ha:0<l.length->a=some ⟨b,off,none⟩)
  (G:Glob pl.laid w A0) (hR6:w.cell? ⟨12,0,none⟩=some (eV aR aO 12)) (hO7:w.cell? ⟨14,0,none⟩=some (eV aR aO 14))
  (hc: ∀j,j<l.length->w.cell? ⟨b,off+j*3,none⟩=some (.int .i32 (l.getD j Ai).GQ)/\w.cell? ⟨b,off+j*3+1,none⟩=some (.int .i32 (l.getD j Ai).GD)/\w.cell? ⟨b,off+j*3+2,none⟩=some (.int .i64 (l.getD j Ai).CP)):
  Calls Tryz.prog 180 #[.slice a l.length cap] w fun e w'=>Below w.heap.size w w'/\
   ((DK l l.length= []/\e=.returned .nilIface)∨
     ∃x tl B,DK l l.length=x::tl/\w.heap.size<=B/\B<w'.heap.size/\e=.returned (.iface 70 (.pointer (some ⟨B,0,none⟩)))/\w'.cell? ⟨B,0,none⟩=some (.int .i64 x.1)/\w'.cell? ⟨B,1,none⟩=some (eV aR aO x.2)):=by
 refine(callsIn_wide (n:=3)).1 ?_
 refine callsIn_of_wp_marks Tryz.func180 rfl trivial ?_ rfl
 simp only[Tryz.ntmps180,List.size_toArray,List.length_cons,List.length_nil,Nat.reduceAdd,Nat.reduceSub,Array.replicate_succ,Array.replicate_zero,List.push_toArray,List.append_toArray,List.nil_append,List.cons_append]
 have hl':(l.length:Int)<=2000:=by omega
 gi_wp2
 refine⟨trivial,?_⟩
 refine(callsIn_wide.2 (tN (.slice a l.length cap) rfl _ a l.length cap rfl)).mono ?_
 rintro e w' ⟨rfl,rfl⟩
 gi_wp2
 have k2:KC w ((w.alloc (.cells #[.nilIface] 37)).alloc (.cells #[.slice a l.length cap] 23)):=(KC.alloc _ _).trans (KC.alloc _ _)
 refine wpIn_rangeFunc_ownF (α:=Nat×Nat) rfl (by decide) (gf:=236) (lb:= #[.pointer (some ⟨w.heap.size+1,0,none⟩)]) rfl trivial (enters_of Tryz.func236 (by kernel_rfl) rfl)
  (encs:=fun x=> #[.int .i64 x.1,eV aR aO x.2]) (Kp:=KC) (S:=fun xs=>xs=DK l l.length) (Sp:=fun pre=> ∃k,k<=l.length/\pre=DK l k) (N:=l.length)
  (fun lY J Jx W hW hJ hJx hY h0=>?_) (fun h k=>h.trans k) (fun W l o o' hl h1 h2 _=>KC.put W l o o' h1 h2) (Below.refl _ _) (fun _=>rfl)
  (fun pre W=>(pre= []/\W.cell? ⟨w.heap.size,0,none⟩=some .nilIface/\W.frozen? ⟨w.heap.size,0,none⟩=false)/\Below w.heap.size w W)
  (fun c pre W=>(c=.ret/\ ∃x,pre= [x]/\ ∃B,w.heap.size<=B/\B<W.heap.size/\W.cell? ⟨w.heap.size,0,none⟩=some (.iface 70 (.pointer (some ⟨B,0,none⟩)))/\W.cell? ⟨B,0,none⟩=some (.int .i64 x.1)/\W.cell? ⟨B,1,none⟩=some (eV aR aO x.2))/\Below w.heap.size w W)
  (OwnFrom.and (Own.from (fun s A B row hs hg hr=>⟨hs.1,cell_kept hs.2.1 hg hr,(frozen_kept hs.2.1 hg hr).trans hs.2.2⟩) _) (ownFrom_below (Nat.le_refl _) (by simp;omega)))
  (fun c=>OwnFrom.and (Own.from (fun s A B row hs hg hr=>by
    obtain⟨h1,x,h2,B',h3,h4,h5,h6,h7⟩:=hs
    exact⟨h1,x,h2,B',h3,Nat.lt_of_lt_of_le h4 hg.size,cell_kept h5 hg hr,cell_kept h6 hg hr,cell_kept h7 hg hr⟩) _) (ownFrom_below (Nat.le_refl _) (by simp;omega)))
  ⟨⟨rfl,by simp,by simp⟩,KC2 w _ _⟩
  (fun x=> { tmps:= #[.slice a l.length cap,undef, .pointer (some ⟨w.heap.size,0,none⟩), .int .i64 x.1,eV aR aO x.2, .slice a l.length cap, .int .i64 l.length, .bool (decide (2000<(l.length:Int))),undef,undef, .slice a l.length cap, .func (.func 236) #[] #[.pointer (some ⟨w.heap.size+1,0,none⟩)], .int .i64 x.1,eV aR aO x.2,undef,undef,undef],defers:= [] }) ?assign ?body ?done ?stop
 ·have kW:KC w W:=k2.trans (KC.below hW)
  exact Aa2 l hl 2 (by omega) lY (w.heap.size+1) b off cap aR aO J Jx W hJ hY (kW.glob G) a ha (by
   rw[hW.cell (p:=⟨w.heap.size+1,0,none⟩) (by simp)]
   simp) (kW.cell hR6) (kW.cell hO7) (fun j hj=>⟨kW.cell (hc j hj).1,kW.cell (hc j hj).2.1,kW.cell (hc j hj).2.2⟩) h0
 case assign=>
  intro l x W K hK
  gi_wp2
  exact hK
 case body=>
  rintro lp pre x W ⟨⟨rfl,hc1,hf1⟩,hB⟩ hlt
  gi_wp2
  refine⟨trivial,?_⟩
  refine(CallsIn.inRound lp (callsIn_wide.2 (dJ x.1 270 (adF aR aO x.2) W))).mono ?_
  rintro e w' ⟨rfl,rfl⟩
  have hz:w.heap.size<W.heap.size:=(Array.getElem?_eq_some_iff.1 (cells_of_cell hc1).choose_spec.1).1
  have hc1':(W.alloc (.cells #[.int .i64 x.1,eV aR aO x.2] 74)).cell? ⟨w.heap.size,0,none⟩=some .nilIface:=(World.cell?_of_block (Below.heap_alloc W _ _ hz)).trans hc1
  have Apx:(W.alloc (.cells #[.int .i64 x.1,eV aR aO x.2] 74)).frozen? ⟨w.heap.size,0,none⟩=false:=(World.frozen?_of_block (Below.heap_alloc W _ _ hz)).trans hf1
  gi_wp2
  have hB':=(hB.setCell (p:=⟨w.heap.size,0,none⟩) (Nat.le_refl _) (.iface 70 (.pointer (some ⟨W.heap.size,0,none⟩)))).alloc (by simpa using hB.size) (.cells #[.int .i64 x.1,eV aR aO x.2] 74)
  refine⟨(KeepsOthers.setCell _ _ _).trans (KeepsOthers.alloc _ _),⟨rfl,x,rfl,W.heap.size,hB.size,by simp,?_,jA _ _ _ _ _ _ (by simp) rfl,jA _ _ _ _ _ _ (by simp) rfl⟩,hB'⟩
  rw[World.cell?_of_block (Below.heap_alloc _ _ _ (by simpa using hz))]
  exact World.cell?_setCell_same' _ _ _ (by rw[hc1];rfl)
 case done=>
  rintro D xs W hD hxs ⟨⟨rfl,hc1,hf1⟩,hB⟩ hK
  gi_wp2
  have hK':=(KeepsOthers.setCell W ⟨w.heap.size,0,none⟩ .nilIface).same D _ hK rfl
  have hB':=hB.setCell (p:=⟨w.heap.size,0,none⟩) (Nat.le_refl _) .nilIface
  refine⟨by simp, .inl ⟨_,_,rfl,run_takeDeferred hK',?_⟩⟩
  have aQ:=cell_kept (World.cell?_setCell_same' W ⟨w.heap.size,0,none⟩ .nilIface (by rw[hc1];rfl)) (grownBy_putObj' _ D (.deferred none)) (fun r e=>by cases e;exact⟨_,hK',rfl⟩)
  refine⟨.nilIface,?_,hB'.trans (belowK_b (w:=w) (Nat.le_refl _) _ D _ _ (by simp at hD;omega) hK' rfl rfl), .inl ⟨hxs.symm,rfl⟩⟩
  simp[results,Tryz.f180,go_sem,aQ]
 case stop=>
  rintro D c pre W hD ⟨k,hk,hSp⟩ ⟨⟨rfl,x,rfl,B,hB1,hB2,h1,h2,h3⟩,hB⟩ hK
  gi_wp2
  refine⟨by simp, .inl ⟨_,_,rfl,run_takeDeferred hK,?_⟩⟩
  have kp: ∀ {a v},W.cell? a=some v->(W.putObj D (.deferred none)).cell? a=some v:=fun h=>cell_kept h (grownBy_putObj' _ D (.deferred none)) (fun r e=>by cases e;exact⟨_,hK,rfl⟩)
  have aQ:=kp h1
  obtain⟨tl,htl⟩:=YA l hk
  refine⟨.iface 70 (.pointer (some ⟨B,0,none⟩)),?_,hB.trans (belowK_b (w:=w) (Nat.le_refl _) _ D _ _ (by simp at hD;omega) hK rfl rfl), .inr ⟨x,tl,B,by rw[htl,<- hSp];rfl,hB1,by simpa using hB2,rfl,kp h2,kp h3⟩⟩
  simp[results,Tryz.f180,go_sem,aQ]
set_option maxRecDepth 100000 in
set_option maxHeartbeats 4000000 in
theorem Ac7 (n:Nat) (hl:2000<n) (w:World) (cap:Nat) (aF:Addr) (a:Option Addr) (hF3:w.cell? ⟨18,0,none⟩=some (.iface 270 (.pointer (some aF)))):
  Calls Tryz.prog 180 #[.slice a n cap] w fun e w'=>Below w.heap.size w w'/\
   ∃B,w.heap.size<=B/\B<w'.heap.size/\e=.returned (.iface 70 (.pointer (some ⟨B,0,none⟩)))/\w'.cell? ⟨B,0,none⟩=some (.int .i64 0)/\w'.cell? ⟨B,1,none⟩=some (.iface 270 (.pointer (some aF))):=by
 refine(callsIn_wide (n:=3)).1 ?_
 refine callsIn_of_wp_marks Tryz.func180 rfl trivial ?_ rfl
 simp only[Tryz.ntmps180,List.size_toArray,List.length_cons,List.length_nil,Nat.reduceAdd,Nat.reduceSub,Array.replicate_succ,Array.replicate_zero,List.push_toArray,List.append_toArray,List.nil_append,List.cons_append]
 have hl': ¬(n:Int)<=2000:=by omega
 have h3:(w.alloc (.cells #[.nilIface] 37)).cell? ⟨18,0,none⟩=some (.iface 270 (.pointer (some aF))):=((KC.alloc w _).cell hF3)
 gi_wp2
 refine⟨trivial,?_⟩
 refine(callsIn_wide.2 (dJ 0 270 aF _)).mono ?_
 rintro e w' ⟨rfl,rfl⟩
 gi_wp2
 have hB:Below w.heap.size w ((w.alloc (.cells #[.iface 70 (.pointer (some ⟨w.heap.size+1,0,none⟩))] 37)).alloc (.cells #[.int .i64 0, .iface 270 (.pointer (some aF))] 74)):=KC2 w _ _
 have aQ:((w.alloc (.cells #[.iface 70 (.pointer (some ⟨w.heap.size+1,0,none⟩))] 37)).alloc (.cells #[.int .i64 0, .iface 270 (.pointer (some aF))] 74)).cell? ⟨w.heap.size,0,none⟩=some (.iface 70 (.pointer (some ⟨w.heap.size+1,0,none⟩))):=by simp
 refine⟨.iface 70 (.pointer (some ⟨w.heap.size+1,0,none⟩)),?_,hB,w.heap.size+1,by omega,by simp,rfl,by simp,by simp⟩
 simp[results,Tryz.f180,go_sem,aQ]
open Go.SE in
theorem Wi (AZ:List Ap) (r:Er) (h:La AZ=some r):Contract pl 180 [(Aw AZ)] [] (.err r) []:=by
 refine⟨⟨_,Tryz.func180,by kernel_rfl,by kernel_rfl⟩,fun V w cx vs S hlen R=>?_⟩
 match vs,hlen with
 | [v0],_=>
   have r0:=R 0 _ v0 rfl rfl
   have hA: ∀b,w.heap.size<=b-> ¬Av V cx [] b:=fun b hb h=>h.elim (fun h=>absurd (S.low b h) (by omega)) fun h=>absurd h Ab2
   cases r0 with
   |sl _ _ _ a cap BU vals hnil hcap hmax hz hmem Gr hrel=>
    have G0:Glob pl.laid w A0:=S.glob.Ame
    have fin: ∀ {w':World},Below w.heap.size w w'->Ext 0 V w w' cx cx [] []/\Bj pl.laid V w' cx []:=fun hB=>⟨Ext.grown hB.os hB.tape hB.output hB.size hB.block,S.grown hB.size hB.block⟩
    unfold La at h
    by_cases hl:2000<AZ.length
    ·rw[if_pos hl]at h
     cases h
     obtain⟨_,_,aF,hF,_⟩:=S.glob.sent 18 (by simp[pl,gsL])
     refine(Ac7 AZ.length hl w cap aF a hF).mono ?_
     rintro e w' ⟨hB,B,hB1,hB2,rfl,h1,h2⟩
     obtain⟨E,S'⟩:=fin hB
     obtain⟨k1,k2,aF',k3,_⟩:=S'.glob.sent 18 (by simp[pl,gsL])
     have k4:=(KC.below hB).cell hF
     refine⟨_,cx,rfl,E,S', .Ve 70 0 _ B 0 _ (hA B hB1) hB2 h1 h2 (.UE 18 _ _ k1 k2 k4)⟩
    ·rw[if_neg hl]at h
     cases h
     obtain⟨_,_,aR,hR,_⟩:=S.glob.sent 12 (by simp[pl,gsL])
     obtain⟨_,_,aO,hO,_⟩:=S.glob.sent 14 (by simp[pl,gsL])
     have cellsOf: ∀(b off:Nat),a=some ⟨b,off,none⟩->(∀(j c:Nat) (x:AV),j<AZ.length->(Lg (AZ.getD j Ai)).cells[c]? =some x->w.cell? ⟨b,off+(j*BU+c),none⟩=some (vals j c)/\(vals j c).oneCell'=true)->
          ∀j,j<AZ.length->w.cell? ⟨b,off+j*3,none⟩=some (.int .i32 (AZ.getD j Ai).GQ)/\w.cell? ⟨b,off+j*3+1,none⟩=some (.int .i32 (AZ.getD j Ai).GD)/\w.cell? ⟨b,off+j*3+2,none⟩=some (.int .i64 (AZ.getD j Ai).CP):=fun b off ha hm j hj=>by
         have he:BU=3:=((Gr j hj).2).symm
         have q:=fun(c:Nat) (x:AV) (h:(Lg (AZ.getD j Ai)).cells[c]? =some x)=>(hm j c x hj h).1
         have p:=fun(c:Nat) (x:AV) (h:(Lg (AZ.getD j Ai)).cells[c]? =some x)=>hrel j c x hj h
         subst he
         have q0:=q 0 _ rfl
         have q1:=q 1 _ rfl
         have q2:=q 2 _ rfl
         have p0:=p 0 _ rfl
         have p1:=p 1 _ rfl
         have p2:=p 2 _ rfl
         generalize vals j 0=u0 at q0 p0
         generalize vals j 1=u1 at q1 p1
         generalize vals j 2=u2 at q2 p2
         cases p0;cases p1;cases p2
         exact⟨q0,q1,q2⟩
     obtain⟨b,off,ha,hc⟩: ∃b off,(0<AZ.length->a=some ⟨b,off,none⟩)/\ ∀j,j<AZ.length->w.cell? ⟨b,off+j*3,none⟩=some (.int .i32 (AZ.getD j Ai).GQ)/\w.cell? ⟨b,off+j*3+1,none⟩=some (.int .i32 (AZ.getD j Ai).GD)/\w.cell? ⟨b,off+j*3+2,none⟩=some (.int .i64 (AZ.getD j Ai).CP):=by
         by_cases h0:0<AZ.length
         ·obtain⟨b,off,ha,_,_,hm⟩:=hmem h0
          exact⟨b,off,fun _=>ha,cellsOf b off ha hm⟩
         ·exact⟨0,0,fun h=>absurd h h0,fun j hj=>absurd hj (by omega)⟩
     refine(xG AZ (by omega) w b off cap aR aO a ha G0 hR hO hc).mono ?_
     rintro e w' ⟨hB,hres⟩
     obtain⟨E,S'⟩:=fin hB
     rcases hres with ⟨h0,rfl⟩|⟨x,tl,B,h0,hB1,hB2,rfl,h1,h2⟩
     ·exact⟨_,cx,rfl,E,S',by rw[h0];exact .Wp⟩
     ·rw[h0]
      have hg:x.2=12∨x.2=14:=ZB AZ _ x (by rw[h0];simp)
      have hin:x.2∈pl.laid.gs:=by rcases hg with e|e<;>rw[e]<;>simp[pl,gsL]
      obtain⟨k1,k2,_⟩:=S'.glob.sent x.2 hin
      have k4:w'.cell? ⟨x.2,0,none⟩=some (.iface 270 (.pointer (some (adF aR aO x.2)))):=by
          rcases hg with e|e<;>rw[e]
          ·exact(KC.below hB).cell hR
          ·exact(KC.below hB).cell hO
      exact⟨_,cx,rfl,E,S', .Ve 70 _ _ B 0 _ (hA B hB1) hB2 h1 h2 (.UE x.2 _ _ k1 k2 k4)⟩
end Go.Proofs.YtkeokkmhhhhoiaaGreatDoor
