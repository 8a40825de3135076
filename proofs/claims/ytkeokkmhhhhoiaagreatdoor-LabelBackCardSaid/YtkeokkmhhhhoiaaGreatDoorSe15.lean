import Derived.Test.YtkeokkmhhhhoiaaGreatDoorSe14
import Derived.RangeFuncLeaves
import Derived.OrdersIn
import Derived.ControlIn
import Derived.RangeFuncCalls
import Derived.Deep.LoopGhost
import Derived.RangeFuncRecord
import Derived.Deep.LoopGhost
namespace Go.SE
open Go
set_option linter.unusedVariables false
variable {L:Laid}
set_option linter.unusedSimpArgs false
def fo (ro:Option Nat):Fence:= { Fence.wide with round:=ro }
def dH (P:Program) (c:Code) (Q:Exit->Act->World->Prop) (a:Act) (w:World):Prop:= ∀ro,c.wpIn (fo ro) 0 P Q a w
section
variable {P:Program} {Q Q':Exit->Act->World->Prop} {a:Act} {w:World}
theorem dH.wp {c:Code} (h:dH P c Q a w):c.wp P Q a w:=(wpIn_wide (n:=0)).1 (h none)
theorem UC {c:Code} (h:dH P c Q a w) (hq: ∀e a w,Q e a w->Q' e a w):dH P c Q' a w:=fun ro=>wpIn_mono (h ro) hq
theorem Afd (h:Q .normal a w):dH P .skip Q a w:=fun _=>wpIn_skip h
theorem Ade {l:Nat} (h:Q .normal a w):dH P (.label l) Q a w:=fun _=>wpIn_label h
theorem Afc {id:Nat} (h:Q (.exit id) a w):dH P (.exit id) Q a w:=fun _=>wpIn_exit h
theorem Ahy (h:Q .ret a w):dH P .ret Q a w:=fun _=>wpIn_ret h
theorem Acd {x y:Code} (h:dH P x (Exit.then (dH P y Q) Q) a w):dH P (.seq x y) Q a w:=fun ro=>wpIn_seq (wpIn_mono (h ro) fun e a w q=>by
 cases e<;>first|exact q ro|exact q)
theorem xL {c:Operand} {x y:Code} {t:Bool} (hc:a.eval c=.bool t) (h:dH P (if t then x else y) Q a w):dH P (.cond c x y) Q a w:=fun ro=>wpIn_cond hc (h ro)
theorem pX {id:Nat} {c:Code} (h:dH P c (Exit.inBlock id Q) a w):dH P (.block id c) Q a w:=fun ro=>wpIn_block (h ro)
theorem Wn {c:Code} (I:Nat->Act->World->Prop) (n₀:Nat) (h₀:I n₀ a w) (round: ∀n a w,I n a w->dH P c (Exit.then (fun a' w'=> ∃n',n'<n/\I n' a' w') Q) a w):dH P (.loop c) Q a w:=fun ro=>by
 refine wpIn_loop (fun a w=> ∃n,I n a w) (fun a w=>leastOf (fun n=>I n a w)) ⟨n₀,h₀⟩ ?_
 intro a w hI
 refine wpIn_mono (round _ a w (leastOf_spec hI).1 ro) ?_
 intro e a' w' hq
 cases e with
 |normal=>
  obtain⟨n',hlt,hI'⟩:=hq
  exact⟨⟨n',hI'⟩,Nat.lt_of_le_of_lt ((leastOf_spec ⟨n',hI'⟩).2 n' hI') hlt⟩
 |_=>exact hq
def ZE:Code->Bool
 | .seq a b=>ZE a||ZE b
 | .cond _ a b=>ZE a||ZE b
 | .block _ c=>ZE c
 | .loop c=>ZE c
 | .rangeFunc _ _ _ _=>true
 |_=>false
def Tp (P:Program) (c:Code) (Q:Exit->Act->World->Prop) (a:Act) (w:World):Prop:=match ZE c with|true=>c.wp P Q a w|false=>dH P c Q a w
theorem dH.x {c:Code} (h:dH P c Q a w):Tp P c Q a w:=by
 unfold Tp;split
 ·exact h.wp
 ·exact h
theorem Tp.wp {c:Code} (h:Tp P c Q a w):c.wp P Q a w:=by
 unfold Tp at h;split at h
 ·exact h
 ·exact h.wp
theorem Tp.c {c:Code} (h:Tp P c Q a w) (hr:ZE c=false):dH P c Q a w:=by
 unfold Tp at h;rw[hr]at h;exact h
theorem WZ {c:Code} (h1:c.wp P Q a w) (h2:ZE c=false->dH P c Q a w):Tp P c Q a w:=by
 unfold Tp;split
 ·exact h1
 ·exact h2 ‹_›
theorem Qa {c:Code} (h:Tp P c Q a w) (hq: ∀e a w,Q e a w->Q' e a w):Tp P c Q' a w:=
 WZ (wp_mono h.wp hq) fun hr=>UC (h.c hr) hq
theorem xM {x y:Code} (h:Tp P x (Exit.then (Tp P y Q) Q) a w):Tp P (.seq x y) Q a w:=
 WZ (wp_seq (wp_mono h.wp fun e a w q=>by cases e<;>first|exact q.wp|exact q)) fun hr=>by
  simp only[ZE,Bool.or_eq_false_iff]at hr
  exact Acd (UC (h.c hr.1) fun e a w q=>by cases e<;>first|exact q.c hr.2|exact q)
theorem Adf {c:Operand} {x y:Code} {t:Bool} (hc:a.eval c=.bool t) (h:Tp P (if t then x else y) Q a w):Tp P (.cond c x y) Q a w:=
 WZ (wp_cond hc h.wp) fun hr=>by
  simp only[ZE,Bool.or_eq_false_iff]at hr
  exact xL hc (h.c (by cases t<;>simp[hr.1,hr.2]))
theorem AaV {id:Nat} {c:Code} (h:Tp P c (Exit.inBlock id Q) a w):Tp P (.block id c) Q a w:=WZ (wp_block h.wp) fun hr=>pX (h.c hr)
theorem fU {c:Code} (I:Nat->Act->World->Prop) (n₀:Nat) (h₀:I n₀ a w) (round: ∀n a w,I n a w->Tp P c (Exit.then (fun a' w'=> ∃n',n'<n/\I n' a' w') Q) a w):Tp P (.loop c) Q a w:=
 WZ (wp_loop_ghost I n₀ h₀ fun n a w h=>(round n a w h).wp) fun hr=>Wn I n₀ h₀ fun n a w h=>(round n a w h).c hr
theorem AeZ {ro:Option Nat} {f:FuncId} {args:Array Value} {R:Ending->World->Prop} (h:Calls P f args w R):CallsIn (fo ro) 0 P f args w R:=(callsIn_wide (n:=0)).2 h
theorem Aix {ro:Option Nat} {row:String} {args:Array Value} {R:Value->World->Prop} (h:Rows P row args w R):RowsIn (fo ro) 0 P row args w R:=fun c cs _=>by
 obtain⟨v,w',r,s⟩:=h c cs
 exact⟨v,w',r,stepsIn_wide.2 s⟩
theorem AcH {ro:Option Nat} {o:Oper} {next:Act->World->Prop} (hd: ∀c,o.op≠.defer c) (h:o.wp P a w next Q):o.wpIn (fo ro) 0 P a w next Q:=by
 unfold Oper.wp at h
 refine⟨fun _ _=>trivial,?_⟩
 rw[Oper.semAt_eq _ _ _ hd]
 generalize (execOp a.eval o).run P w=r at h ⊢
 cases r with
 |ok n w'=>
  cases n with
  |value v=>exact h
  |skip=>exact h
  | «defer» d=>exact h
  |enter f args=>exact⟨fun hh=>(by cases hh),AeZ h⟩
  |row row args=>exact⟨fun hh=>(by cases hh),Aix h⟩
  |_=>exact h.elim
 |halt x w'=>
  cases x<;>first|exact h|exact h.elim
theorem vC {ro:Option Nat} {ops:Array Oper} (hd: ∀(j:Nat) (o:Oper) (c:Call),ops[j]? =some o->o.op≠.defer c) (hL: ¬LetsOut Q): ∀(l:List Nat) (a:Act) (w:World),wpOps P ops Q l a w->wpOpsIn (fo ro) 0 P ops Q l a w
 | [],a,w,h=>h
 |i::rest,a,w,h=>by
  simp only[wpOps]at h
  simp only[wpOpsIn]
  cases ho:ops[i]? with
  |none=>rw[ho]at h;exact vC hd hL rest a w h
  |some o=>
   rw[ho]at h
   simp only at h ⊢
   split
   ·rename_i hw
    rw[if_pos hw]at h
    exact AcH (fun c=>hd i o c ho) (Oper.wp_mono (vC hd hL rest) (h.resolve_right fun h=>hL h.2))
   ·rename_i hw
    rw[if_neg hw]at h
    exact⟨fun _ _=>trivial,vC hd hL rest _ _ h⟩
theorem sD {ro:Option Nat} {md:Region.Mode} {ops:Array Oper} (hd: ∀(j:Nat) (o:Oper) (c:Call),ops[j]? =some o->o.op≠.defer c) (hL: ¬LetsOut Q): ∀(fuel:Nat) (listed:Array Bool) (a:Act) (w:World),wpAny P md ops Q fuel listed a w->wpAnyIn (fo ro) 0 P md ops Q fuel listed a w
 |0,listed,a,w,h=>h
 |fuel+1,listed,a,w,h=>by
  refine⟨h.1,fun i hi=>?_⟩
  have h2:=h.2 i hi
  unfold wpOp at h2
  unfold wpOpIn
  cases ho:ops[i]? with
  |none=>rw[ho]at h2;exact sD hd hL fuel _ a w h2
  |some o=>
   rw[ho]at h2
   simp only at h2 ⊢
   split
   ·rename_i hw
    rw[if_pos hw]at h2
    exact AcH (fun c=>hd i o c ho) (Oper.wp_mono (sD hd hL fuel _) (h2.resolve_right fun h=>hL h.2))
   ·rename_i hw
    rw[if_neg hw]at h2
    exact⟨fun _ _=>trivial,sD hd hL fuel _ _ _ h2⟩
theorem AaU {id:Nat} {ops:Array Oper} (hd: ∀(j:Nat) (o:Oper) (c:Call),ops[j]? =some o->o.op≠.defer c) (hL: ¬LetsOut Q) (h:wpOps P ops Q (List.range ops.size) a w):dH P (.region id ops false) Q a w:=fun ro=>wpIn_region (vC hd hL _ a w h)
theorem jJ {id:Nat} {ops:Array Oper} (hm:P.follows .mixedOrders=true) (hd: ∀(j:Nat) (o:Oper) (c:Call),ops[j]? =some o->o.op≠.defer c) (hL: ¬LetsOut Q)
 (h:wpAny P .any ops Q ops.size (Array.replicate ops.size false) a { w with drawn:=w.drawn+1 }):dH P (.region id ops true) Q a w:=fun ro=>wpIn_region_any hm (sD hd hL _ _ a _ h)
end
section
variable {P:PL}
theorem Bj.drew {V:Nat->Prop} {w:World} {cx:Cx} {s:Store} (S:Bj L V w cx s):Bj L V { w with drawn:=w.drawn+1 } cx s:=S.grown (w':= { w with drawn:=w.drawn+1 }) (Nat.le_refl _) fun _ _=>rfl
theorem Ext.drew {m:Nat} {V:Nat->Prop} {w:World} {cx:Cx} {s:Store} :Ext m V w { w with drawn:=w.drawn+1 } cx cx s s:=Ext.grown rfl rfl rfl (Nat.le_refl _) fun _ _=>rfl
theorem EU.drew {V:Nat->Prop} {w:World} {cx:Cx} {fr:Fr} {a:Act} (R:EU L V w cx fr a):EU L V { w with drawn:=w.drawn+1 } cx fr a:=
 ⟨R.st.drew,R.size,Marks.keep (w:=w) (w':= { w with drawn:=w.drawn+1 }) (fun _ _ _ _=>rfl) (fun _ _ h=>h) R.defers,fun i x hx=>(R.tmps i x hx).ext Ext.drew R.st.len⟩
def Ex.to:Ex->Exit
 | .normal=>.normal
 | .exit id=>.exit id
 | .ret=>.ret
def Left (L:Laid) (m:Nat) (V:Nat->Prop) (w:World) (cx:Cx) (fr:Fr) (K:Ex->Fr->Prop) (e:Exit) (a':Act) (w':World):Prop:=
 ∃ex fr' BX,e=ex.to/\K ex fr'/\m<=fr'.s.length/\Ext m V w w' cx BX fr.s fr'.s/\EU L V w' BX fr' a'
theorem Left.step {m:Nat} {V:Nat->Prop} {w w1 w':World} {cx PU:Cx} {fr Rl:Fr} {K:Ex->Fr->Prop} {e:Exit} {a':Act} (E:Ext m V w w1 cx PU fr.s Rl.s) (h:Left L m V w1 PU Rl K e a' w'):Left L m V w cx fr K e a' w':=by
 obtain⟨ex,fr',BX,h1,h2,h3,h4,h5⟩:=h
 exact⟨ex,fr',BX,h1,h2,h3,E.trans h4,h5⟩
theorem bY: ∀(l:List Oper),V6 l=true->match Ru l with
  |none=> ∀(i:Nat) (o:Oper),l[i]? =some o->Ij o=false
  |some (d,ty)=> ∃i o,l[i]? =some o/\o.op=.alloc ty/\o.dst=some d/\o.guard=none/\Ij o=true/\ ∀(j:Nat) (o':Oper),l[j]? =some o'->Ij o'=true->j=i
 | [],_=>fun i o h=>by simp at h
 |o::r,h=>by
  unfold V6 at h
  split at h
  ·rename_i ha
   simp only[Bool.and_eq_true,Option.isNone_iff_eq_none,List.all_eq_true]at h
   obtain⟨hg,hr⟩:=h
   have ha':=ha
   unfold Ij at ha
   split at ha
   ·rename_i t d e1 e2
    have key:Ru (o::r)=some (d,t):=by rw[Ru];simp only[e1,e2]
    rw[key]
    refine⟨0,o,rfl,e1,e2,hg,ha',fun j o' hj hb=>?_⟩
    cases j with
    |zero=>rfl
    |succ j=>
     have:=hr o' (List.mem_of_getElem? (by simpa using hj))
     rw[hb]at this
     cases this
   ·cases ha
  ·rename_i ha
   have ih:=bY r h
   have key:Ru (o::r)=Ru r:=by
    rw[Ru]
    unfold Ij at ha
    split at ha
    ·cases ha
    ·rfl
   rw[key]
   split at ih
   ·intro i o' hi
    cases i with
    |zero=>simp at hi;subst hi;exact ha
    |succ i=>exact ih i o' (by simpa using hi)
   ·obtain⟨i,o1,h1,h2,h3,h4,h5,h6⟩:=ih
    refine⟨i+1,o1,by simpa using h1,h2,h3,h4,h5,fun j o' hj hb=>?_⟩
    cases j with
    |zero=>simp at hj;subst hj;rw[ha]at hb;cases hb
    |succ j=>rw[h6 j o' (by simpa using hj) hb]
theorem yC {o:Oper} {t:TypeId} {z:AV} {ob:E8} (ho:o.op=.alloc t) (hz:Oy P t=some z) (h:newObj P t z=some ob) (w0:World) (i:Nat) (d:Tmp):
  ∃cur,Ahd P ⟨i,d,ob,cur⟩/\ ∀w ρ,Gives P o ρ w fun u w'=>u=.pointer (some ⟨w.heap.size,0,none⟩)/\w'=w.alloc (.cells cur ob.ety):=by
 obtain⟨i1,v,hi,hv,hr,hk⟩:=I8 hz w0 [] (fun _=>False)
 obtain⟨h1,h2,h3,h4,h5⟩:=RS h hk hr
 refine⟨v.cells,⟨h2,Yx h,h3,h4,fun w cx A=>?_⟩,fun w ρ=>?_⟩
 ·obtain⟨i2,v2,hi2,hv2,hr2,hk2⟩:=I8 hz w cx A
  rw[hi]at hi2
  cases hi2
  rw[hv]at hv2
  cases hv2
  exact(RS h hk hr2).2.2.2.2
 ·have he:(execOp ρ o).run P w=.ok (.value (.pointer (some ⟨w.heap.size,0,none⟩))) (w.alloc (.cells v.cells t)):=by
   simp[execOp,ho,Instr.alloc,zeroValue,typeInfo,hi,hv,newVar,newRow]
  simp only[Gives,he,h1]
  exact⟨trivial,trivial⟩
theorem AbG {id:Nat} {ops:Array Oper} {m:Nat} {V:Nat->Prop} {w:World} {cx:Cx} {fr:Fr} {a:Act} {K:Fr->Prop} {Q:Exit->Act->World->Prop} (Abj:P.follows .mixedOrders=true) (h:Ab6 P ops.toList fr K) (R:EU P.laid V w cx fr a) (hm:m<=fr.s.length)
  (hK: ∀fr' w' BX a',K fr'->m<=fr'.s.length->Ext m V w w' cx BX fr.s fr'.s->EU P.laid V w' BX fr' a'->Q .normal a' w') (hQ: ∀c a w,¬Q (.panic c) a w) (hL: ¬LetsOut Q):dH P.toProgram (.region id ops true) Q a w:=by
 obtain⟨hq,h⟩:=h
 rw[tH]at hq
 simp only[Bool.and_eq_true]at hq
 obtain⟨⟨⟨MN,htail⟩,hle⟩,hal⟩:=hq
 obtain⟨ts,e0,e1,e2⟩:=eH _ _ h
 generalize hn:pW ops.toList=n at*
 have hle:n<=ops.size:=by simpa using Nat.ble_eq.mp hle
 have hlen:(ops.toList.take n).length=n:=by rw[List.length_take,Array.length_toList];omega
 rw[hlen]at e1
 have htk: ∀(i:Nat) (o:Oper),(ops.toList.take n)[i]? =some o↔i<n/\ops[i]? =some o:=fun i o=>by
  rw[List.getElem?_take]
  split<;>simp[*]
 have hstep: ∀i o,i<n->ops[i]? =some o->Step P ops.toList fr.s o (ts i) (ts (i+1)):=fun i o hi ho=>e2 i o ((htk i o).2 ⟨hi,ho⟩)
 have hsp:=bY _ hal
 obtain⟨al,Ang,hmk,hli,hrest⟩: ∃al:Option Al,(∀l,al=some l->l.i<n/\Ahd P l)/\(∀i o,i<n->ops[i]? =some o->Ij o=true-> ∃l,al=some l/\l.i=i/\o.dst=some l.d/\ ∀w ρ,Gives P o ρ w fun u w'=>u=.pointer (some ⟨w.heap.size,0,none⟩)/\w'=w.alloc (.cells l.cur l.ob.ety))/\
   (∀l o,al=some l->ops[l.i]? =some o->o.dst=some l.d/\Ij o=true/\o.guard=none)/\Ku P ops.toList (ops.toList.drop n) (Afl al (ts n) fr.s) K:=by
  split at e1
  ·rename_i hnone
   rw[hnone]at hsp
   refine⟨none,fun l h=>(by cases h),fun i o hi ho ha=>?_,fun l o h=>(by cases h),e1⟩
   have:=hsp i o ((htk i o).2 ⟨hi,ho⟩)
   rw[ha]at this
   cases this
  ·rename_i d ty hsome
   rw[hsome]at hsp
   obtain⟨i,o,ho,h1,h2,h3,h4,h5⟩:=hsp
   obtain⟨hi,ho⟩:=(htk i o).1 ho
   split at e1
   ·exact e1.elim
   ·rename_i z hz
    split at e1
    ·exact e1.elim
    ·rename_i ob Sd
     rw[Xm]at e1
     obtain⟨cur,A,hg⟩:=yC h1 hz Sd w i d
     refine⟨some ⟨i,d,ob,cur⟩,fun l h=>(by cases h;exact⟨hi,A⟩),fun j o' hj ho' ha=>?_,fun l o' h ho'=>?_,e1⟩
     ·have:=h5 j o' ((htk j o').2 ⟨hj,ho'⟩) ha
      subst this
      rw[ho]at ho'
      cases ho'
      exact⟨_,rfl,rfl,h2,hg⟩
     ·cases h
      rw[ho]at ho'
      cases ho'
      exact⟨h2,h4,h3⟩
 have hf: ∀i,(Array.replicate ops.size false).getD i false=false:=fun i=>by
  by_cases hi:i<ops.size<;>simp[Array.getD,hi]
 have I0:Inv P ops V { w with drawn:=w.drawn+1 } cx fr.s n (ts 0) (ts n) (Array.replicate ops.size false) a { w with drawn:=w.drawn+1 } :=by
  refine⟨by simp,fun i hi=>(by rw[hf]at hi;cases hi),fun i o _ hi=>(by rw[hf]at hi;cases hi),Ext.refl,R.st.drew,by rw[e0];exact R.size,Marks.keep (w:=w) (w':= { w with drawn:=w.drawn+1 }) (fun _ _ _ _=>rfl) (fun _ _ h=>h) R.defers,fun u x _ hx=>?_,fun k o u x _ _ _ hl=>(by rw[hf]at hl;cases hl),fun k o u x _ _ _ _ hx=>?_⟩
  ·rw[e0]at hx;exact R.drew.tmps u x hx
  ·rw[e0]at hx;exact R.drew.tmps u x hx
 have hnd:(KZ ops.toList n).Pairwise (·< ·):=List.Pairwise.filter _ List.pairwise_lt_range
 have hcnt:((List.range n).filter fun i=> !(KZ ops.toList n).contains i).length+(KZ ops.toList n).length=n:=by
  have key: ∀(l:List Nat) (p:Nat->Bool),((l.filter fun i=> !p i).length+(l.filter p).length=l.length):=by
   intro l p
   induction l with
   |nil=>rfl
   |cons x xs ih=>cases hx:p x<;>simp[List.filter_cons,hx]<;>omega
  have hp:=key (List.range n) fun i=>(KZ ops.toList n).contains i
  have he:(List.range n).filter (fun i=>(KZ ops.toList n).contains i)=KZ ops.toList n:=by
   conv=>rhs;unfold KZ
   refine List.filter_congr fun i hi=>?_
   rw[Bool.eq_iff_iff,List.contains_iff_mem]
   conv=>lhs;unfold KZ
   rw[List.mem_filter]
   exact⟨fun h=>h.2,fun h=>⟨hi,h⟩⟩
  rw[he,List.length_range]at hp
  exact hp
 refine jJ Abj (AgD MN) hL ?_
 have hsz:ops.size=(ops.size-(KZ ops.toList n).length)+(KZ ops.toList n).length:=by omega
 rw[hsz]
 rw[<- hsz]
 have hgo:=yZ MN hstep hle (Ad3 MN) hQ (KZ ops.toList n) (ops.size-(KZ ops.toList n).length) (Array.replicate ops.size false) a { w with drawn:=w.drawn+1 } (fun i hi=>by
  obtain⟨q1,o,q2,q3,q4⟩:=kQ hi
  exact⟨q1,o,q2,q3,fun j hj=>.inr (q4 j hj)⟩) hnd (fun i _=>hf i) I0 fun listed' a' I' hl=>?_
 ·rw[<- hsz]at hgo
  exact hgo
 have hl: ∀i,listed'.getD i false=true↔i∈KZ ops.toList n:=fun i=>by rw[hl i,hf];simp
 refine Ad2 MN htail hstep hle Ang hmk hli R.st.drew hrest hm (fun fr' w' BX a' h1 h2 h3 h4=>hK fr' w' BX a' h1 h2 ((Ext.drew (w:=w) (cx:=cx) (s:=fr.s)).trans h3) h4) _ listed' a' { w with drawn:=w.drawn+1 } V (fun i hi=>(hl i).2 hi) I' ?_ ?_
 ·cases al with
  |none=>rfl
  |some l=>
   refine .inl ⟨?_,rfl⟩
   cases hb:listed'.getD l.i false with
   |false=>rfl
   |true=>
    obtain⟨_,o,ho,hmv,_⟩:=kQ ((hl l.i).1 hb)
    have uH:=(hli l o rfl ho).2.1
    unfold Ij at uH
    rcases hmv with hmv|hmv
    ·unfold Vo at hmv
     split at hmv
     ·rename_i x hop
      rw[hop]at uH
      cases uH
     ·cases hmv
    ·unfold Vn at hmv
     split at hmv
     ·rename_i hop
      rw[hop]at uH
      cases uH
     ·rename_i hop
      rw[hop]at uH
      cases uH
     ·rename_i hop
      rw[hop]at uH
      cases uH
     ·cases hmv
 ·have he:(List.range n).filter (fun i=> !listed'.getD i false)=(List.range n).filter (fun i=> !(KZ ops.toList n).contains i):=by
   refine List.filter_congr fun i _=>?_
   congr 1
   rw[Bool.eq_iff_iff,List.contains_iff_mem]
   exact hl i
  rw[he]
  omega
theorem AcY {m:Nat} (Abj:P.follows .mixedOrders=true): ∀(c:Code) (fr:Fr) (K:Ex->Fr->Prop),awp P m c fr K-> ∀V w cx a,EU P.laid V w cx fr a->m<=fr.s.length->dH P.toProgram c (Left P.laid m V w cx fr K) a w:=by
 intro c
 induction c with
 |skip=>exact fun fr K h V w cx a R hm=>Afd ⟨.normal,fr,cx,rfl,h,hm,Ext.refl,R⟩
 |label l=>exact fun fr K h V w cx a R hm=>Ade ⟨.normal,fr,cx,rfl,h,hm,Ext.refl,R⟩
 |exit id=>exact fun fr K h V w cx a R hm=>Afc ⟨.exit id,fr,cx,rfl,h,hm,Ext.refl,R⟩
 |ret=>exact fun fr K h V w cx a R hm=>Ahy ⟨.ret,fr,cx,rfl,h,hm,Ext.refl,R⟩
 |region id ops draw=>
  intro fr K h V w cx a R hm
  cases draw with
  |false=>
   obtain⟨hp,h⟩:=Bn (show need (lQ ops.toList) (Ku P ops.toList ops.toList fr (K .normal)) from h)
   refine AaU (fun j o c ho e=>?_) (fun⟨a,w,ex,_,_,h,_⟩=>by cases ex<;>cases h) ?_
   ·unfold lQ at hp
    rw[List.all_eq_true]at hp
    have:=hp o (by rw[Array.mem_toList_iff];exact Array.mem_of_getElem? ho)
    rw[e]at this
    cases this
   have:=U2 (ops:=ops) (Q:=Left P.laid m V w cx fr K) ops.toList 0 fr (K .normal) (fun j=>by simp) h V w cx a R hm fun fr' w' BX a' h1 h2 h3 h4=>⟨.normal,fr',BX,rfl,h1,h2,h3,h4⟩
   simpa using this
  |true=>exact AbG Abj h R hm (fun fr' w' BX a' h1 h2 h3 h4=>⟨.normal,fr',BX,rfl,h1,h2,h3,h4⟩) (fun c a w ⟨ex,_,_,h,_⟩=>by cases ex<;>cases h) (fun⟨a,w,ex,_,_,h,_⟩=>by cases ex<;>cases h)
 |seq x y ihx ihy=>
  intro fr K h V w cx a R hm
  refine Acd (UC (ihx fr _ h V w cx a R hm) fun e a1 w1 hl=>?_)
  obtain⟨ex,Rl,PU,rfl,h2,h3,h4,h5⟩:=hl
  cases ex with
  |normal=>exact UC (ihy Rl K h2 V w1 PU a1 h5 h3) fun e a2 w2 hl=>hl.step h4
  |exit id=>exact⟨.exit id,Rl,PU,rfl,h2,h3,h4,h5⟩
  |ret=>exact⟨.ret,Rl,PU,rfl,h2,h3,h4,h5⟩
 |cond c x y ihx ihy=>
  intro fr K h V w cx a R hm
  simp only[awp]at h
  split at h
  ·rename_i b hb
   have he:=R.eval c
   rw[hb]at he
   refine xL he.OM ?_
   cases b with
   |true=>exact ihx fr K h V w cx a R hm
   |false=>exact ihy fr K h V w cx a R hm
  ·exact h.elim
 |block id c ih=>
  intro fr K h V w cx a R hm
  refine pX (UC (ih fr _ h V w cx a R hm) fun e a1 w1 hl=>?_)
  obtain⟨ex,Rl,PU,rfl,h2,h3,h4,h5⟩:=hl
  simp only[iM]at h2
  cases ex with
  |normal=>exact⟨.normal,Rl,PU,rfl,h2,h3,h4,h5⟩
  |exit j=>
   simp only[Ex.to,Exit.inBlock]
   by_cases hj:j=id
   ·subst hj
    rw[if_pos rfl]
    simp only[beq_self_eq_true]at h2
    exact⟨.normal,Rl,PU,rfl,h2,h3,h4,h5⟩
   ·rw[if_neg hj]
    have:(j==id)=false:=by simpa using hj
    simp only[this]at h2
    exact⟨.exit j,Rl,PU,rfl,h2,h3,h4,h5⟩
  |ret=>exact⟨.ret,Rl,PU,rfl,h2,h3,h4,h5⟩
 |loop c ih=>
  intro fr K h V w cx a R hm
  simp only[awp,X7]at h
  obtain⟨I,μ,⟨VG,hw0,hI0⟩,kG⟩:=h
  have hm0: ∀fr fr':Fr,Weak m fr fr'-> ∀V w cx a,EU P.laid V w cx fr a-> ∃BX,Ext m V w w cx BX fr.s fr'.s/\EU P.laid V w BX fr' a:=fun _ _ h=>h P.laid
  obtain⟨XU,E0,R0⟩:=hw0 P.laid V w cx a R
  have hlen: ∀(cx BX:Cx) (fr fr':Fr) (w w':World) (a:Act),m<=fr.s.length->Bj P.laid V w cx fr.s->Ext m V w w' cx BX fr.s fr'.s->Bj P.laid V w' BX fr'.s->m<=fr'.s.length:=fun cx BX fr fr' w w' a h1 h2 h3 h4=>by
   by_cases h0:m=0
   ·omega
   ·have hlt:m-1<cx.length:=by rw[h2.len];omega
    have:=h3.cx (m-1) cx[m-1] (by omega) (by simp[hlt])
    have:=(List.getElem?_eq_some_iff.1 this).1
    rw[h4.len]at this
    omega
  refine Wn (fun n a1 w1=> ∃Rl PU,I Rl/\μ Rl=n/\m<=Rl.s.length/\Ext m V w w1 cx PU fr.s Rl.s/\EU P.laid V w1 PU Rl a1) (μ VG) ⟨VG,XU,hI0,rfl,hlen cx XU fr VG w w a hm R.st E0 R0.st,E0,R0⟩ ?_
  rintro n a1 w1 ⟨Rl,PU,hI1,rfl,hm1,E1,R1⟩
  refine UC (ih Rl _ (kG Rl hI1) V w1 PU a1 R1 hm1) fun e a2 w2 hl=>?_
  obtain⟨ex,XZ,UY,rfl,h2,h3,h4,h5⟩:=hl
  cases ex with
  |normal=>
   obtain⟨jP,hw3,hI3,hlt⟩:=h2
   obtain⟨cx3,E3,R3⟩:=hw3 P.laid V w2 UY a2 h5
   exact⟨μ jP,hlt,jP,cx3,hI3,rfl,hlen UY cx3 XZ jP w2 w2 a2 h3 h5.st E3 R3.st,(E1.trans h4).trans E3,R3⟩
  |exit j=>exact⟨.exit j,XZ,UY,rfl,h2,h3,E1.trans h4,h5⟩
  |ret=>exact⟨.ret,XZ,UY,rfl,h2,h3,E1.trans h4,h5⟩
 |_=>exact fun fr K h=>h.elim
theorem Jw {p:Nat->Bool} : ∀ {l:List AV},Rt p l=true-> ∀x∈l,x.refs p=true
 | [],_,x,hx=>by cases hx
 |v::vs,h,x,hx=>by
  simp only[Rt,Bool.and_eq_true]at h
  rcases List.mem_cons.1 hx with rfl|hx
  ·exact h.1
  ·exact Jw h.2 x hx
theorem AV.AbF {p:Nat->Bool} {v x:AV} {c:Nat} (h:v.refs p=true) (hx:v.cells[c]? =some x):x.refs p=true:=by
 cases v with
 |agg cs=>exact Jw (l:=cs) (by simpa[AV.refs]using h) x (List.mem_of_getElem? hx)
 |H8 k l=>
  simp only[AV.cells,List.getElem?_map,Option.map_eq_some_iff]at hx
  obtain⟨n,_,rfl⟩:=hx
  rfl
 |_=>
  simp only[AV.cells,List.getElem?_singleton]at hx
  split at hx<;>simp_all
theorem Rel.bG {w:World} {cx:Cx} {A A':Nat->Prop} {m:Nat} (hn: ∀b,b<w.heap.size-> ¬A b-> ¬A' b) {x:AV} {v:Value} (h:Rel w cx A x v) (hr:x.refs (fun i=>Nat.blt i m)=true):Rel w (cx.take m) A' x v:=by
 have htake: ∀(i:Nat) (e:Qr),Nat.blt i m=true->cx[i]? =some e->(cx.take m)[i]? =some e:=fun i e hi he=>by
  rw[List.getElem?_take,if_pos (by simpa using hi)];exact he
 induction h with
 |ms id n cap e he hnn hn' hcap htot hmax=>exact .ms id n cap e (htake _ _ hr he) hnn hn' hcap htot hmax
 |ms0 id e he hnn=>exact .ms0 id e (htake _ _ hr he) hnn
 |LP id off n cap o e he hnn hn' hcap hoff hmax=>exact .LP id off n cap o e (htake _ _ hr he) hnn hn' hcap hoff hmax
 |XK id e he hnn=>exact .XK id e (htake _ _ hr he) hnn
 |mp id i off e he hnn hi'=>exact .mp id i off e (htake _ _ hr he) hnn hi'
 |gH id i off=>exact .gH id i off
 |gI id i off e he hnn hi'=>exact .gI id i off e (htake _ _ hr he) hnn hi'
 |sd id n a h=>exact .sd id n a fun h0=>(h h0).imp fun e h=>⟨htake _ _ hr h.1,h.2⟩
 |sl Fg n get a cap BU vals hnil hcap hmax hz hmem Gr hrel ih=>
  exact(Rel.sl Fg n get a cap BU vals hnil hcap hmax hz hmem Gr hrel).KY (Nat.le_refl _) (fun _ _ _=>rfl) hn rfl
 |ip e off b o vals Gr hA hb hmem hrel ih=>
  exact(Rel.ip e off b o vals Gr hA hb hmem hrel).KY (Nat.le_refl _) (fun _ _ _=>rfl) hn rfl
 |agg cs vs hl h1 hrel ih=>exact .agg cs vs hl h1 (fun c x v hx hv=>ih c x v hx hv (Jw (by simpa[AV.refs]using hr) x (List.mem_of_getElem? hx)))
 |GU cs vs hl hrel ih=>exact .GU cs vs hl (fun c x v hx hv=>ih c x v hx hv (Jw (by simpa[AV.refs]using hr) x (List.mem_of_getElem? hx)))
 |fn f a b a' b' hl hl' hrel hrel' ih ih'=>
  simp only[AV.refs,Bool.and_eq_true]at hr
  exact .fn f a b a' b' hl hl' (fun c x v hx hv=>ih c x v hx hv (Jw hr.1 x (List.mem_of_getElem? hx))) (fun c x v hx hv=>ih' c x v hx hv (Jw hr.2 x (List.mem_of_getElem? hx)))
 |iface t x v hrel ih=>exact .iface t x v (ih (by simpa[AV.refs]using hr))
 |unk v=>exact .unk v
 |bool b=>exact .bool b
 |int k n=>exact .int k n
 |str s=>exact .str s
 |Lf=>exact .Lf
 |PO=>exact .PO
 |Ox=>exact .Ox
 |Tv b=>exact .Tv b
 |Ye a=>exact .Ye a
 |H8 k l=>exact .H8 k l
 |Wp=>exact .Wp
 |UE g t a hA hb hm=>exact .UE g t a (hn g hb hA) hb hm
 |Ve t n e b o v hA hb h0 h1 hrel ih=>exact .Ve t n e b o v (hn b hb hA) hb h0 h1 (ih rfl)
theorem Yy {p:Nat->Bool} : ∀ {s:Store} {i:Nat} {o:E8},M0 p s=true->s[i]? =some (some o)->o.row.refs p=true
 | [],i,o,_,h=>by simp at h
 |x::xs,i,o,hk,h=>by
  cases i with
  |zero=>
   simp at h
   subst h
   simp only[M0,Bool.and_eq_true]at hk
   exact hk.1
  |succ i=>
   have h:xs[i]? =some (some o):=by simpa using h
   cases x with
   |none=>exact Yy (s:=xs) (by simpa[M0]using hk) h
   |some y=>simp only[M0,Bool.and_eq_true]at hk;exact Yy hk.2 h
theorem Row.AgC {p:Nat->Bool} {r:Row} (h:r.refs p=true) (hok:r.ok) {i:Nat} (hi:i<r.len) {w:World} {cx:Cx} {A:Nat->Prop} {c:Nat} {x:AV} (hx:(r.get i).cells[c]? =some x):x.refs p=true∨x.Lm=true:=by
 cases r with
 |vals l=>
  left
  simp only[Row.len]at hi
  refine AV.AbF (Jw (by simpa[Row.refs]using h) (l.getD i .unk) ?_) hx
  simp only[List.getD,List.getElem?_eq_getElem hi,Option.getD_some]
  exact List.getElem_mem hi
 |Sg l=>
  right
  simp only[Row.len]at hi
  refine AV.J3 (hok (l.getD i .unk) ?_) hx
  simp only[List.getD,List.getElem?_eq_getElem hi,Option.getD_some]
  exact List.getElem_mem hi
 |Y6 n g=>right;exact AV.J3 (hok i hi) hx
 |ints k l=>right;exact AV.J3 (v:=.int k _) rfl hx
 |strs l=>right;exact AV.J3 (v:=.str _) rfl hx
 |bools l=>right;exact AV.J3 (v:=.bool _) rfl hx
theorem Bj.take {V:Nat->Prop} {w:World} {cx:Cx} {s:Store} (S:Bj L V w cx s) {m:Nat} (h:M0 (fun i=>Nat.blt i m) (s.take m)=true):Bj L V w (cx.take m) (s.take m)/\Ext m V w w cx (cx.take m) s (s.take m):=by
 have Aa9: ∀(i:Nat) (e:Qr),(cx.take m)[i]? =some e->cx[i]? =some e:=fun i e h=>by
  rw[List.getElem?_take]at h
  by_cases hi:i<m
  ·rw[if_pos hi]at h;exact h
  ·rw[if_neg hi]at h;cases h
 have gets: ∀(i:Nat) (o:E8),(s.take m)[i]? =some (some o)->s[i]? =some (some o):=fun i o h=>by
  rw[List.getElem?_take]at h
  by_cases hi:i<m
  ·rw[if_pos hi]at h;exact h
  ·rw[if_neg hi]at h;cases h
 have hwr: ∀b,Wr (cx.take m) (s.take m) b->Wr cx s b:=fun b ⟨i,e,o,he,ho,hr,hn,hb⟩=>⟨i,e,o,Aa9 i e he,gets i o ho,hr,hn,hb⟩
 refine⟨⟨S.low,by simp[S.len],fun i e o he ho hn=>?_,fun i e o he ho hn=>S.gM i e o (Aa9 i e he) (gets i o ho) hn,fun i e o he ho hm=>S.may i e o (Aa9 i e he) (gets i o ho) hm,fun i e o he ho hn=>S.apart i e o (Aa9 i e he) (gets i o ho) hn,
  fun i j ei ej oi oj hei uO hoi hoj hni dO hne nQ=>S.inj i j ei ej oi oj (Aa9 i ei hei) (Aa9 j ej uO) (gets i oi hoi) (gets j oj hoj) hni dO hne nQ,S.glob.move (Nat.le_refl _) (fun _ _ _=>rfl) fun b _ hA hA'=>hA (hA'.imp (fun h=>h) (hwr b))⟩,
  rfl,rfl,rfl,Nat.le_refl _,fun _ _ _=>rfl,fun b _ hA hA'=>hA (hA'.imp (fun h=>h) (hwr b)),fun b _ hA hA'=>hA (hwr b hA'),fun i e hi he=>by rw[List.getElem?_take,if_pos hi];exact he⟩
 obtain⟨cur,R⟩:=S.obj i e o (Aa9 i e he) (gets i o ho) hn
 refine⟨cur,R.hp,R.tot,R.BU,R.len,R.ok,R.fits,R.size,fun j c x hj hx=>?_⟩
 obtain⟨v,h1,h2,h3⟩:=R.cells j c x hj hx
 refine⟨v,h1,h2,?_⟩
 have hn': ∀b,b<w.heap.size-> ¬Av V cx s b-> ¬Av V (cx.take m) (s.take m) b:=fun b _ hA hA'=>hA (hA'.imp (fun h=>h) (hwr b))
 rcases Row.AgC (w:=w) (cx:=cx) (A:=Av V cx s) (Yy h ho) R.ok (by rw[<- R.len];exact hj) hx with hr|hr
 ·exact h3.bG hn' hr
 ·exact h3.KY (Nat.le_refl _) (fun _ _ _=>rfl) hn' hr
theorem Qb {m:Nat} {fr:Fr} {x:AV} {K:AV->Store->Prop} (h:Vf m fr x K): ∃r s',K r s'/\ ∀V w cx a v,EU L V w cx fr a->m<=fr.s.length->Rel w cx (Av V cx fr.s) x v-> ∃BX,Ext m V w w cx BX fr.s s'/\Bj L V w BX s'/\Rel w BX (Av V BX s') r v:=by
 rcases h with ⟨hq,hK⟩|⟨hq,x',hs,hi,hK⟩|hK
 ·simp only[Bool.and_eq_true]at hq
  refine⟨_,_,hK,fun V w cx a v R hm hx=>?_⟩
  obtain⟨S',E⟩:=R.st.take hq.2
  exact⟨_,E,S',hx.bG (fun b hb=>E.now b hb) hq.1⟩
 ·refine⟨_,_,hK,fun V w cx a v R hm hx=>?_⟩
  have F:=H7.Ib (Ch 6 fr.s x) fr.s
  have S1:=R.st.fewer F
  have hq':M0 (fun i=>Nat.blt i m) ((Ib fr.s (Ch 6 fr.s x)).take m)=true:=by
   have key: ∀(s s':Store),s.length=s'.length->(∀(i:Nat) (o':E8),s'[i]? =some (some o')-> ∃o:E8,s[i]? =some (some o)/\o'.row=o.row)->M0 (fun i=>Nat.blt i m) s=true->M0 (fun i=>Nat.blt i m) s'=true:=by
    intro s
    induction s with
    |nil=>intro s' hl _ _;cases s' with|nil=>rfl|cons _ _=>cases hl
    |cons y s ih=>
     intro s' hl Uo hk
     cases s' with
     |nil=>cases hl
     |cons y' s'=>
      have hk':M0 (fun i=>Nat.blt i m) s=true:=by
           cases y with
           |none=>simpa[M0]using hk
           |some o=>simp only[M0,Bool.and_eq_true]at hk;exact hk.2
      have ih':=ih s' (by simpa using hl) (fun i o' ho=>by simpa using Uo (i+1) o' (by simpa using ho)) hk'
      cases y' with
      |none=>simpa[M0]using ih'
      |some o'=>
       obtain⟨o,ho,hrow⟩:=Uo 0 o' rfl
       simp at ho
       subst ho
       simp only[M0,Bool.and_eq_true]at hk ⊢
       exact⟨by rw[hrow];exact hk.1,ih'⟩
   refine key _ _ (by simp[F.len]) (fun i o' ho=>?_) hq
   rw[List.getElem?_take]at ho
   split at ho
   ·rename_i hi
    obtain⟨o,h1,h2,_⟩:=F.obj i o' ho
    exact⟨o,by rw[List.getElem?_take,if_pos hi];exact h1,h2⟩
   ·cases ho
  obtain⟨S',E⟩:=S1.take hq'
  refine⟨_,(Ext.fewer (w:=w) (cx:=cx) F).trans E,S',?_⟩
  have:=(hx.Uf R.st (A':=Av V (cx.take m) ((Ib fr.s (Ch 6 fr.s x)).take m)) (fun b hb=>?_) 6 x x' v hs fun id hid e o he ho hn hb=>?_).1
  ·exact this.KY (Nat.le_refl _) (fun _ _ _=>rfl) (fun _ _ h=>h) hi
  ·rcases hb with hb|⟨i,e,o,he,ho,hr,hn,hbb⟩
   ·exact .inl hb
   ·rw[List.getElem?_take]at he ho
    split at he
    ·rw[if_pos ‹_›]at ho
     exact .inr (F.back ⟨i,e,o,he,ho,hr,hn,hbb⟩)
    ·cases he
  ·obtain⟨o',h1,h2⟩:=UQ (Ch 6 fr.s x) fr.s id o hid ho
   refine WO S1 he h1 hn h2 ?_
   rcases hb with hb|⟨i,e',o2,he',ho',hr,hn',hbb⟩
   ·exact .inl hb
   ·rw[List.getElem?_take]at he' ho'
    split at he'
    ·rw[if_pos ‹_›]at ho'
     exact .inr ⟨i,e',o2,he',ho',hr,hn',hbb⟩
    ·cases he'
 ·exact⟨_,_,hK,fun V w cx a v R hm hx=>⟨cx,Ext.refl,R.st,hx⟩⟩
theorem tK {m:Nat} {fr:Fr} {x:AV} {K:AV->Store->Prop} (h:gV m fr x K): ∃r s',K r s'/\ ∀V w cx a v,EU L V w cx fr a->m<=fr.s.length->Rel w cx (Av V cx fr.s) x v-> ∃BX,Ext m V w w cx BX fr.s s'/\Bj L V w BX s'/\Rel w BX (Av V BX s') r v:=by
 cases m with
 |succ m=>exact Qb h
 |zero=>
  simp only[gV]at h
  split at h
  ·rename_i v' hv
   obtain⟨hi,hK⟩:=Bn h
   rw[qO]at hK
   exact Qb (.inr (.inl ⟨by rw[List.take_zero];rfl,v',hv,hi,by rw[List.take_zero];exact hK⟩))
  ·exact h.elim
theorem Qz {fr:Fr} : ∀(rs:List ResultVar) (K:List AV->Prop),Te P fr rs K-> ∃xs,K xs/\xs.length=rs.length/\ ∀V w cx a,EU P.laid V w cx fr a-> ∃us:List Value,us.length=rs.length/\
  (rs.mapM (m:=Sem) fun
    | .tmp t=>pure (a.tmps.getD t undef)
    | .cell p t=>do loadVar t (<- asAddr (a.tmps.getD p undef))).run P w=.ok us w/\ ∀(c:Nat) (x:AV) (u:Value),xs[c]? =some x->us[c]? =some u->Rel w cx (Av V cx fr.s) x u
 | [],K,h=>⟨[],h,rfl,fun V w cx a R=>⟨[],rfl,rfl,fun c x u hx=>by simp at hx⟩⟩
 | .tmp i::rs,K,h=>by
   obtain⟨xs,hK,hl,hrun⟩:=Qz rs _ h
   refine⟨_,hK,by simp[hl],fun V w cx a R=>?_⟩
   obtain⟨us,h1,h2,h3⟩:=hrun V w cx a R
   refine⟨a.tmps.getD i undef::us,by simp[h1],by simp only[List.mapM_cons,Sem.run_bind,Sem.run_pure,Result.andThen_ok,h2],fun c x u hx hu=>?_⟩
   cases c with
   |zero=>simp at hx hu;subst hx;subst hu;have:=R.eval (.tmp i);simpa[Kh,Act.eval]using this
   |succ c=>exact h3 c x u (by simpa using hx) (by simpa using hu)
 | .cell p t::rs,K,h=>by
   obtain⟨r,h1,hload⟩:=rG h
   obtain⟨xs,hK,hl,hrun⟩:=Qz rs _ h1
   refine⟨_,hK,by simp[hl],fun V w cx a R=>?_⟩
   obtain⟨us,g1,g2,g3⟩:=hrun V w cx a R
   have hp:Rel w cx (Av V cx fr.s) (fr.t.getD p .unk) (a.tmps.getD p undef):=by have:=R.eval (.tmp p);simpa[Kh,Act.eval]using this
   obtain⟨ad,u,e1,e2,e3⟩:=hload V w cx _ R.st hp
   refine⟨u::us,by simp[g1],?_,fun c x u' hx hu=>?_⟩
   ·have e4:(do loadVar t (<- asAddr (a.tmps.getD p undef)):Sem Value).run P w=.ok u w:=by
     rw[e1]
     simp only[asAddr,Sem.run_bind,Sem.run_pure,Result.andThen_ok,e2]
    simp only[List.mapM_cons,Sem.run_bind]at e4 ⊢
    rw[e4]
    simp only[Result.andThen_ok,Sem.run_bind,g2,Sem.run_pure]
   ·cases c with
    |zero=>simp at hx hu;subst hx;subst hu;exact e3
    |succ c=>exact g3 c x u' (by simpa using hx) (by simpa using hu)
theorem Bj.Gp {L:Laid} {V V':Nat->Prop} {w w':World} {cx:Cx} {s:Store} (S:Bj L V w cx s) (hs:w.heap.size<=w'.heap.size) (hk: ∀b,UZ w b-> ¬V b->w'.heap[b]? =w.heap[b]?) (hV: ∀b,UZ w b-> ¬V b-> ¬V' b) (low: ∀b,V' b->b<w'.heap.size):Bj L V' w' cx s where
 low:=low
 len:=S.len
 obj i e o he ho hn:=by
  obtain⟨cur,R⟩:=S.obj i e o he ho hn
  refine⟨cur,by rw[hk _ R.cel (S.apart i e o he ho hn)];exact R.hp,R.tot,R.BU,R.len,R.ok,R.fits,R.size,fun j c x hj hx=>?_⟩
  obtain⟨v,h1,h2,h3⟩:=R.cells j c x hj hx
  exact⟨v,h1,h2,h3.Gp hs (fun b hb hA=>hk b hb fun h=>hA (.inl h)) fun b hb hA hA'=>hA (hA'.imp (fun h=>(Classical.byContradiction fun hv=>hV b hb hv h)) id)⟩
 gM:=S.gM
 may:=S.may
 apart i e o he ho hn:=by
  obtain⟨cur,R⟩:=S.obj i e o he ho hn
  exact hV _ R.cel (S.apart i e o he ho hn)
 inj:=S.inj
 glob:=S.glob.Gp hs (fun b hb hA=>hk b hb fun h=>hA (.inl h)) fun b hb hA hA'=>hA (hA'.imp (fun h=>(Classical.byContradiction fun hv=>hV b hb hv h)) id)
structure Shut (V:Nat->Prop) (w w':World):Prop where
 os:w'.os=w.os
 tape:w'.tape=w.tape
 output:w'.output=w.output
 size:w'.heap.size=w.heap.size
 heap: ∀k,w'.heap[k]? =w.heap[k]? ∨(w.heap[k]? =some (.deferred (some []))/\ ¬V k)
theorem Shut.refl {V:Nat->Prop} {w:World} :Shut V w w:=⟨rfl,rfl,rfl,rfl,fun _=>.inl rfl⟩
theorem Shut.cel {V:Nat->Prop} {w w':World} (h:Shut V w w') {b:Nat} (hb:UZ w b):w'.heap[b]? =w.heap[b]? :=by
 obtain⟨c,t,f,hc⟩:=hb
 rcases h.heap b with h|⟨h,_⟩
 ·exact h
 ·rw[hc]at h;cases h
theorem Vq {P:Program} {fn:Func} {tmps:Array Value} {R:Ending->World->Prop} {V:Nat->Prop} : ∀(ds:List Deferred) (w:World),Marks V w ds->(∀w',Shut V w w'-> ∃v,(results fn tmps).run P w'=.ok v w'/\R (.returned v) w')->LeavesInM Fence.wide 0 P fn tmps R ds .returning w
 | [],w,_,h=>h w Shut.refl
 |d::ds,w,M,h=>by
  obtain⟨⟨k,h1,h2,h3,h4⟩,M'⟩:=M
  have hlt:=(Array.getElem?_eq_some_iff.1 h2).1
  refine⟨by simp, .inl ⟨k,_,h1,run_takeDeferred h2,Vq (V:=V) ds _ ?_ fun w' S=>h w' ⟨S.os,S.tape,S.output,by rw[S.size];simp[World.putObj],fun j=>?_⟩⟩⟩
  ·
   have key: ∀ds:List Deferred,(∀d'∈ds,d'.target≠.collected k)->Marks V w ds->Marks V (w.putObj k (.deferred none)) ds:=by
    intro ds
    induction ds with
    |nil=>intro _ _;trivial
    |cons e ds ih=>
     intro hne M
     obtain⟨⟨j,q1,q2,q3,q4⟩,M⟩:=M
     exact⟨⟨j,q1,(World.putObj_heap_other (fun e'=>hne e (List.mem_cons_self ..) (by rw[q1,e']))).trans q2,q3,q4⟩,ih (fun d' hd=>hne d' (List.mem_cons_of_mem _ hd)) M⟩
   exact key ds h4 M'
  ·by_cases e:j=k
   ·subst e;exact .inr ⟨h2,h3⟩
   ·rcases S.heap j with q|⟨q,q'⟩
    ·exact .inl (q.trans (World.putObj_heap_other e))
    ·exact .inr ⟨(World.putObj_heap_other e).symm.trans q,q'⟩
def Vm (V:Nat->Prop) (w:World) (b:Nat):Prop:=V b∨w.heap[b]? =some (.deferred (some []))
theorem Bj.marked {L:Laid} {V:Nat->Prop} {w:World} {cx:Cx} {s:Store} (S:Bj L V w cx s):Bj L (Vm V w) w cx s:=
 S.Gp (Nat.le_refl _) (fun _ _ _=>rfl) (fun b hb hV h=>h.elim hV fun h=>by obtain⟨c,t,f,hc⟩:=hb;rw[hc]at h;cases h) fun b h=>h.elim (S.low b) fun h=>(Array.getElem?_eq_some_iff.1 h).1
theorem Rel.marked {V:Nat->Prop} {w:World} {cx:Cx} {s:Store} {x:AV} {v:Value} (h:Rel w cx (Av V cx s) x v):Rel w cx (Av (Vm V w) cx s) x v:=
 h.Gp (Nat.le_refl _) (fun _ _ _=>rfl) fun b hb hA hA'=>hA (hA'.elim (fun h=>h.elim .inl fun h=>by obtain⟨c,t,f,hc⟩:=hb;rw[hc]at h;cases h) .inr)
theorem Ext.shut {m:Nat} {V:Nat->Prop} {w w' w'':World} {cx BX cx3:Cx} {s s' s3:Store} (E:Ext m (Vm V w) w w' cx BX s s') (Sh:Shut (Vm V w) w' w'') (E':Ext m (Vm V w) w'' w'' BX cx3 s' s3):Ext m V w w'' cx cx3 s s3:=by
 have lt: ∀b,b<w.heap.size->b<w''.heap.size:=fun b hb=>by rw[Sh.size];exact Nat.lt_of_lt_of_le hb E.size
 refine⟨Sh.os.trans E.os,Sh.tape.trans E.tape,Sh.output.trans E.output,by rw[Sh.size];exact E.size,fun b hb hW=>?_,fun b hb hA=>?_,fun b hb hW=>E'.grow b (lt b hb) (E.grow b hb hW),fun i e hi he=>E'.cx i e hi (E.cx i e hi he)⟩
 ·rcases Sh.heap b with h|⟨h,h'⟩
  ·exact h.trans (E.keep b hb hW)
  ·exact absurd (.inr ((E.keep b hb hW).symm.trans h)) h'
 ·rintro(h|h)
  ·exact hA (.inl h)
  ·exact E'.grow b (lt b hb) (E.grow b hb fun h=>hA (.inr h)) h
theorem Wj {f:FuncId} {fn:Func} {c:Code} {args:Array Value} {w:World} {R:Ending->World->Prop} (hf:P.funcs[f]? =some fn) (hb:fn.body=some c)
  (h:c.wp P.toProgram (fun e a' w'=>((e=.normal∨e=.ret)/\ ∃V,Marks V w' a'.defers/\ ∀w'',Shut V w' w''-> ∃v,(results fn a'.tmps).run P.toProgram w''=.ok v w''/\R (.returned v) w'')) { tmps:=args++Array.replicate (fn.ntmps-args.size) undef,defers:= [] } w):Calls P.toProgram f args w R:=by
 refine callsIn_wide (n:=0).1 (callsIn_of_wp_marks hf hb trivial (wpIn_wide.2 (wp_mono h fun e a' w' hq=>?_)))
 obtain⟨he,V,M,hr⟩:=hq
 rcases he with rfl|rfl
 ·exact Vq _ _ M hr
 ·exact Vq _ _ M hr
theorem fQ {m:Nat} {f:FuncId} {fn:Func} {c:Code} {args:List AV} {objs Dz:Store} {r:AV} (Q:AV->Store->Prop) (hle0:m<=objs.length) (hQ: ∀r' s',Q r' s'-> ∀V w cx v,Bj P.laid V w cx s'->Rel w cx (Av V cx s') r' v-> ∃BX,Ext m V w w cx BX s' Dz/\Bj P.laid V w BX Dz/\Rel w BX (Av V BX Dz) r v) (hf:P.funcs[f]? =some fn) (hb:fn.body=some c) (hname:(fn.name== "runtime.NumGoroutine")=false)
  (h: ∀V w cx a,EU P.laid V w cx (ML fn args objs) a->m<=(ML fn args objs).s.length->c.wp P.toProgram (Left P.laid m V w cx (ML fn args objs) (AkA P fn m Q)) a w):Bc m P f args objs r Dz:=by
 refine⟨⟨fn,hf,by rw[hb];rfl,hname⟩,fun V w cx vs S hlen R=>?_⟩
 have hfr:EU P.laid (Vm V w) w cx (ML fn args objs) { tmps:=vs.toArray++Array.replicate (fn.ntmps-vs.toArray.size) undef,defers:= [] } :=by
  refine⟨S.marked,by simp[ML,hlen],trivial,fun i x hx=>?_⟩
  simp only[ML]at hx
  rw[List.getElem?_append]at hx
  split at hx
  ·rename_i hi
   have hv:i<vs.length:=by omega
   have hg:(vs.toArray++Array.replicate (fn.ntmps-vs.toArray.size) undef).getD i undef=vs[i]:=by
       simp only[Array.getD_eq_getD_getElem?]
       rw[Array.getElem?_append_left (by simpa using hv)]
       simp[hv]
   rw[hg]
   exact(R i x vs[i] hx (by simp[hv])).marked
  ·rw[List.getElem?_replicate]at hx
   split at hx
   ·cases hx;exact .unk _
   ·cases hx
 refine Wj hf hb (wp_mono (h (Vm V w) w cx _ hfr hle0) fun e a' w' hl=>?_)
 obtain⟨ex,fr',BX,rfl,hK,hm,E,R'⟩:=hl
 have fin:Te P fr' fn.results.toList (fun vs=>gV m fr' (bH vs) Q)-> ∀w'',Shut (Vm V w) w' w''-> ∃v,(results fn a'.tmps).run P w''=.ok v w''/\ ∃v2 UY,Ending.returned v=.returned v2/\Ext m V w w'' cx UY objs Dz/\Bj P.laid V w'' UY Dz/\Rel w'' UY (Av V UY Dz) r v2:=fun hres w'' Sh=>by
  have Rw:EU P.laid (Vm V w) w'' BX fr' { a' with defers:= [] } :=⟨R'.st.Gp (Nat.le_of_eq Sh.size.symm) (fun b hb _=>Sh.cel hb) (fun _ _ h=>h) (fun b h=>by rw[Sh.size];exact R'.st.low b h),R'.size,trivial,fun i x hx=>(R'.tmps i x hx).Gp (Nat.le_of_eq Sh.size.symm) (fun b hb _=>Sh.cel hb) fun _ _ h=>h⟩
  obtain⟨xs,hx,hxl,hrun⟩:=Qz _ _ hres
  obtain⟨us,hul,hmap,hrel⟩:=hrun (Vm V w) w'' BX _ Rw
  obtain⟨r',s',hQ',AjL⟩:=tK hx
  have hle:=hQ r' s' hQ'
  have hval: ∃v,(results fn a'.tmps).run P w''=.ok v w''/\Rel w'' BX (Av (Vm V w) BX fr'.s) (bH xs) v:=by
   have yK:(fn.results.mapM (m:=Sem) fun
         | .tmp t=>pure (a'.tmps.getD t undef)
         | .cell p t=>do loadVar t (<- asAddr (a'.tmps.getD p undef))).run P w''=.ok us.toArray w'':=by
       rw[Array.mapM_eq_mapM_toList,Sem.run_map,hmap]
       rfl
   refine⟨if h:us.toArray.size=1 then us.toArray[0]else .tuple us.toArray,?_,?_⟩
   ·unfold results
    simp only[Sem.run_bind]
    exact(congrArg (fun r:Result (Array Value)=>r.andThen fun a w'=>Sem.run P (pure (if h:a.size=1 then a[0]else Value.tuple a)) w') yK).trans rfl
   ·match xs,us,hxl,hul,hrel with
    | [x],[u],_,_,hrel=>exact hrel 0 x u rfl rfl
    | [],[],_,_,hrel=>exact .GU [] [] rfl fun c x v hx=>by simp at hx
    |x::y::xs,u::u'::us,hxl,hul,hrel=>
     have hne: ¬(u::u'::us).toArray.size=1:=by simp
     rw[dif_neg hne]
     exact .GU _ _ (by omega) hrel
    | [],_::_,h1,h2,_=>simp at h1 h2;omega
    | [_],[],h1,h2,_=>simp at h1 h2;omega
    | [_],_::_::_,h1,h2,_=>simp at h1 h2;omega
    |_::_::_,[],h1,h2,_=>simp at h1 h2;omega
    |_::_::_,[_],h1,h2,_=>simp at h1 h2;omega
  obtain⟨v,hv1,hv2⟩:=hval
  obtain⟨UY,E2,S2,R2⟩:=AjL (Vm V w) w'' BX _ v Rw hm hv2
  obtain⟨cx3,E3,S3,R3⟩:=hle (Vm V w) w'' UY v S2 R2
  exact⟨v,hv1,v,cx3,rfl,E.shut Sh (E2.trans E3),S3.Gp (Nat.le_refl _) (fun _ _ _=>rfl) (fun b _ h h'=>h (.inl h')) (fun b h=>S3.low b (.inl h)),R3.Gp (Nat.le_refl _) (fun _ _ _=>rfl) fun b _ hA hA'=>hA (hA'.imp .inl id)⟩
 cases ex with
 |normal=>exact⟨.inl rfl,_,R'.defers,fin hK⟩
 |ret=>exact⟨.inr rfl,_,R'.defers,fin hK⟩
 |exit id=>exact hK.elim
theorem fT {m:Nat} {f:FuncId} {fn:Func} {c:Code} {args:List AV} {objs Dz:Store} {r:AV} (Q:AV->Store->Prop) (hle0:m<=objs.length) (hQ: ∀r' s',Q r' s'-> ∀V w cx v,Bj P.laid V w cx s'->Rel w cx (Av V cx s') r' v-> ∃BX,Ext m V w w cx BX s' Dz/\Bj P.laid V w BX Dz/\Rel w BX (Av V BX Dz) r v) (hf:P.funcs[f]? =some fn) (hb:fn.body=some c) (hname:(fn.name== "runtime.NumGoroutine")=false)
  (h: ∀V w cx a,EU P.laid V w cx (ML fn args objs) a->m<=(ML fn args objs).s.length->c.wp P.toProgram (Left P.laid m V w cx (ML fn args objs) (Ai6 P fn m Q)) a w):Bc m P f args objs r Dz:=by
 refine⟨⟨fn,hf,by rw[hb];rfl,hname⟩,fun V w cx vs S hlen R=>?_⟩
 have hfr:EU P.laid (Vm V w) w cx (ML fn args objs) { tmps:=vs.toArray++Array.replicate (fn.ntmps-vs.toArray.size) undef,defers:= [] } :=by
  refine⟨S.marked,by simp[ML,hlen],trivial,fun i x hx=>?_⟩
  simp only[ML]at hx
  rw[List.getElem?_append]at hx
  split at hx
  ·rename_i hi
   have hv:i<vs.length:=by omega
   have hg:(vs.toArray++Array.replicate (fn.ntmps-vs.toArray.size) undef).getD i undef=vs[i]:=by
       simp only[Array.getD_eq_getD_getElem?]
       rw[Array.getElem?_append_left (by simpa using hv)]
       simp[hv]
   rw[hg]
   exact(R i x vs[i] hx (by simp[hv])).marked
  ·rw[List.getElem?_replicate]at hx
   split at hx
   ·cases hx;exact .unk _
   ·cases hx
 refine Wj hf hb (wp_mono (h (Vm V w) w cx _ hfr hle0) fun e a' w' hl=>?_)
 obtain⟨ex,fr',BX,rfl,hK,hm,E,R'⟩:=hl
 have fin:Te P fr' fn.results.toList (fun vs=>Vf m fr' (bH vs) Q)-> ∀w'',Shut (Vm V w) w' w''-> ∃v,(results fn a'.tmps).run P w''=.ok v w''/\ ∃v2 UY,Ending.returned v=.returned v2/\Ext m V w w'' cx UY objs Dz/\Bj P.laid V w'' UY Dz/\Rel w'' UY (Av V UY Dz) r v2:=fun hres w'' Sh=>by
  have Rw:EU P.laid (Vm V w) w'' BX fr' { a' with defers:= [] } :=⟨R'.st.Gp (Nat.le_of_eq Sh.size.symm) (fun b hb _=>Sh.cel hb) (fun _ _ h=>h) (fun b h=>by rw[Sh.size];exact R'.st.low b h),R'.size,trivial,fun i x hx=>(R'.tmps i x hx).Gp (Nat.le_of_eq Sh.size.symm) (fun b hb _=>Sh.cel hb) fun _ _ h=>h⟩
  obtain⟨xs,hx,hxl,hrun⟩:=Qz _ _ hres
  obtain⟨us,hul,hmap,hrel⟩:=hrun (Vm V w) w'' BX _ Rw
  obtain⟨r',s',hQ',AjL⟩:=Qb hx
  have hle:=hQ r' s' hQ'
  have hval: ∃v,(results fn a'.tmps).run P w''=.ok v w''/\Rel w'' BX (Av (Vm V w) BX fr'.s) (bH xs) v:=by
   have yK:(fn.results.mapM (m:=Sem) fun
         | .tmp t=>pure (a'.tmps.getD t undef)
         | .cell p t=>do loadVar t (<- asAddr (a'.tmps.getD p undef))).run P w''=.ok us.toArray w'':=by
       rw[Array.mapM_eq_mapM_toList,Sem.run_map,hmap]
       rfl
   refine⟨if h:us.toArray.size=1 then us.toArray[0]else .tuple us.toArray,?_,?_⟩
   ·unfold results
    simp only[Sem.run_bind]
    exact(congrArg (fun r:Result (Array Value)=>r.andThen fun a w'=>Sem.run P (pure (if h:a.size=1 then a[0]else Value.tuple a)) w') yK).trans rfl
   ·match xs,us,hxl,hul,hrel with
    | [x],[u],_,_,hrel=>exact hrel 0 x u rfl rfl
    | [],[],_,_,hrel=>exact .GU [] [] rfl fun c x v hx=>by simp at hx
    |x::y::xs,u::u'::us,hxl,hul,hrel=>
     have hne: ¬(u::u'::us).toArray.size=1:=by simp
     rw[dif_neg hne]
     exact .GU _ _ (by omega) hrel
    | [],_::_,h1,h2,_=>simp at h1 h2;omega
    | [_],[],h1,h2,_=>simp at h1 h2;omega
    | [_],_::_::_,h1,h2,_=>simp at h1 h2;omega
    |_::_::_,[],h1,h2,_=>simp at h1 h2;omega
    |_::_::_,[_],h1,h2,_=>simp at h1 h2;omega
  obtain⟨v,hv1,hv2⟩:=hval
  obtain⟨UY,E2,S2,R2⟩:=AjL (Vm V w) w'' BX _ v Rw hm hv2
  obtain⟨cx3,E3,S3,R3⟩:=hle (Vm V w) w'' UY v S2 R2
  exact⟨v,hv1,v,cx3,rfl,E.shut Sh (E2.trans E3),S3.Gp (Nat.le_refl _) (fun _ _ _=>rfl) (fun b _ h h'=>h (.inl h')) (fun b h=>S3.low b (.inl h)),R3.Gp (Nat.le_refl _) (fun _ _ _=>rfl) fun b _ hA hA'=>hA (hA'.imp .inl id)⟩
 cases ex with
 |normal=>exact⟨.inl rfl,_,R'.defers,fin hK⟩
 |ret=>exact⟨.inr rfl,_,R'.defers,fin hK⟩
 |exit id=>exact hK.elim
theorem jD {f:FuncId} {fn:Func} {c:Code} {args:List AV} {objs Dz:Store} {r:AV} (Q:AV->Store->Prop) (hQ: ∀r' s',Q r' s'->s'=Dz/\ ∀w cx A v,Rel w cx A r' v->Rel w cx A r v) (hf:P.funcs[f]? =some fn) (hb:fn.body=some c) (hname:(fn.name== "runtime.NumGoroutine")=false)
  (h: ∀V w cx a,EU P.laid V w cx (ML fn args objs) a->objs.length<=(ML fn args objs).s.length->c.wp P.toProgram (Left P.laid objs.length V w cx (ML fn args objs) (AkA P fn objs.length Q)) a w):Contract P f args objs r Dz:=
 fQ (m:=objs.length) Q (Nat.le_refl _) (fun r' s' h V w cx v S R=>by
  obtain⟨rfl,hle⟩:=hQ r' s' h
  exact⟨cx,Ext.refl,S,hle _ _ _ _ R⟩) hf hb hname h
end
end Go.SE
