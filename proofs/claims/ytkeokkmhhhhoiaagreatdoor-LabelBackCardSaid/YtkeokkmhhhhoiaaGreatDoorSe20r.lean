import Derived.Test.YtkeokkmhhhhoiaaGreatDoorSe20
import Derived.RangeFuncSeq
import Derived.RangeFuncIn
namespace Go.SE
open Go
set_option linter.unusedVariables false
set_option linter.unusedSimpArgs false
structure Env (V:Nat->Prop) (w:World) (V':Nat->Prop) (w':World):Prop where
 size:w.heap.size<=w'.heap.size
 keep: ∀b,b<w.heap.size-> ¬V b->w'.heap[b]? =w.heap[b]? ∨ ∃r,w.heap[b]? =some (.loop r)
 grow: ∀b,V' b->V b∨w.heap.size<=b
 low: ∀b,V' b->b<w'.heap.size
theorem Env.cel {V V':Nat->Prop} {w w':World} (h:Env V w V' w') {b:Nat} (hb:UZ w b) (hV: ¬V b):w'.heap[b]? =w.heap[b]? :=by
 rcases h.keep b hb.lt hV with q|⟨r,q⟩
 ·exact q
 ·obtain⟨c,t,f,hc⟩:=hb
  rw[q]at hc;cases hc
structure Gho (P:PL) where
 S:List AV->Bool->(Nat->Prop)->(Nat->Prop)->World->Prop
 B:Nat
 good:List AV->Prop
 short: ∀tr g V N w,S tr g V N w->tr.length<=B
 gd: ∀tr V N w,S tr true V N w->good tr
 stay: ∀tr g V N N' w w',S tr g V N w->w'.os=w.os->w'.tape=w.tape->w'.output=w.output->w.heap.size<=w'.heap.size->(∀b,b<w.heap.size-> ¬N b->w'.heap[b]? =w.heap[b]?)->
  (∀b,N' b->N b∨w.heap.size<=b)->(∀b,N' b->b<w'.heap.size)->S tr g V N' w'
structure Host (P:PL) (lp:Nat) extends Gho P where
 ok:List AV->AV->Prop
 shut: ∀tr g V N w w',S tr g V N w->Shut V w w'->S tr g V N w'
 yield: ∀tr x v V N w,S tr true V N w->ok tr x->Rel w [] (fun b=>V b∨N b) x v->YieldAt Fence.wide 0 P.toProgram lp #[v] w fun e w'=> ∃g V',e=.returned (.bool g)/\S (tr++ [x]) g V' N w'/\Env V w V' w'
def AcV (P:PL) (f:FuncId) (caps:List AV) (ok:List AV->AV->Prop) (fin good:List AV->Prop):Prop:=
 ∀(lp:Nat) (H:Host P lp),(∀tr x,ok tr x->H.ok tr x)->(∀tr,H.good tr->good tr)-> ∀(V:Nat->Prop) (w:World) (us:List Value),Bj P.laid V w [] []->caps.length=us.length->
  (∀(i:Nat) (x:AV) (v:Value),caps[i]? =some x->us[i]? =some v->Rel w [] V x v)->H.S [] true V (fun _=>False) w->
  Calls P.toProgram f ([Value.func (.yield lp) #[] #[]]++us).toArray w fun e w'=> ∃r tr g V' N',e=.returned r/\H.S tr g V' N' w'/\(g=true->fin tr)
def Ex.code:Ex->Option Code
 | .normal=>none
 | .exit id=>some (.exit id)
 | .ret=>some .ret
def AmQ (B:Fr->Prop):Ex->Fr->Prop
 | .normal,fr=>B fr
 |_,_=>False
section
variable {L:Laid} {m:Nat} {V V':Nat->Prop} {w0 w w':World} {XU cx BX:Cx} {s0 s s':Store}
theorem Rel.pin (E:Ext m V w0 w XU cx s0 s) {B:Nat->Prop} (hB: ∀b,b<w0.heap.size-> ¬Av V XU s0 b-> ¬B b) {x:AV} {v:Value} (hr:x.refs (fun i=>Nat.blt i m)=true) (r:Rel w0 XU (Av V XU s0) x v):Rel w cx B x v:=
 (r.bG (A':=Av V XU s0) (fun _ _ h=>h) hr).move E.size (fun b hb hA=>E.keep b hb fun h=>hA (.inr h)) hB fun i e he=>by
   rw[List.getElem?_take]at he
   split at he
   ·exact E.cx i e ‹_› he
   ·cases he
theorem Ext.chain (E:Ext m V w0 w XU cx s0 s) (E':Ext m V' w w' cx BX s s'):Ext m V w0 w' XU BX s0 s' where
 os:=E'.os.trans E.os
 tape:=E'.tape.trans E.tape
 output:=E'.output.trans E.output
 size:=Nat.le_trans E.size E'.size
 keep b hb hA:=(E'.keep b (Nat.lt_of_lt_of_le hb E.size) (E.grow b hb hA)).trans (E.keep b hb hA)
 now b hb hA hA':=hA'.elim (fun h=>hA (.inl h)) fun h=>E'.grow b (Nat.lt_of_lt_of_le hb E.size) (E.grow b hb fun h=>hA (.inr h)) h
 grow b hb hA:=E'.grow b (Nat.lt_of_lt_of_le hb E.size) (E.grow b hb hA)
 cx i e hi he:=E'.cx i e hi (E.cx i e hi he)
theorem Ext.vK (E:Ext m V w0 w XU cx s0 s) {l:Nat} (hl:w0.heap.size<=l) (o:Obj):Ext m V w0 (w.putObj l o) XU cx s0 s where
 os:=E.os
 tape:=E.tape
 output:=E.output
 size:=by simpa using E.size
 keep b hb hA:=(World.putObj_heap_other (by omega)).trans (E.keep b hb hA)
 now:=E.now
 grow:=E.grow
 cx:=E.cx
theorem Zk {l:Nat} {o:Obj} (h:w.heap[l]? =some o) (ho: ∀c t f,o≠.cells c t f): ¬UZ w l:=fun⟨c,t,f,q⟩=>by rw[h]at q;exact ho c t f (Option.some.inj q)
theorem Bj.vK (S:Bj L V w cx s) {l:Nat} {o:Obj} (hl: ¬UZ w l):Bj L V (w.putObj l o) cx s:=
 S.Gp (by simp) (fun b hb _=>World.putObj_heap_other fun e=>hl (e▸hb)) (fun _ _ h=>h) fun b h=>by simpa using S.low b h
theorem EU.vK {fr:Fr} {a:Act} (R:EU L V w cx fr a) {l:Nat} {r:Loop} {o:Obj} (hl:w.heap[l]? =some (.loop r)):EU L V (w.putObj l o) cx fr a where
 st:=R.st.vK (Zk hl fun _ _ _ h=>by cases h)
 size:=R.size
 defers:=R.defers.keep (fun k hk hd _=>World.putObj_heap_other fun e=>by subst e;rw[hl]at hd;cases hd) fun _ _ h=>h
 tmps i x hx:=(R.tmps i x hx).Gp (by simp) (fun b hb _=>World.putObj_heap_other fun e=>Zk hl (fun _ _ _ h=>by cases h) (by subst e;exact hb)) fun _ _ h=>h
end
section
variable {P:PL}
@[irreducible] def AbE (P:PL) (m:Nat) (g:Operand) (ps:Array Tmp) (assign body:Code) (l r:MT) (fr:Fr) (K:Ex->Fr->Prop):Prop:=
  ∃(k:Nat) (p:Tmp) (gf:FuncId) (caps:List AV) (ok:List AV->AV->Prop) (fin good:List AV->Prop) (B:Nat) (J:List AV->Ex->Store->Prop) (VG:Fr),
   (ps= #[p]/\ZE assign=false/\ZE body=false/\m<=k/\k<=VG.s.length/\Rt (fun i=>Nat.blt i k) VG.t=true/\Kh VG.t g=.fn (.func gf) [] caps/\RH caps=true)/\Weak m fr VG/\
   (∃fn,P.funcs[gf]? =some fn/\fn.body.isNone=false/\(fn.name== "runtime.NumGoroutine")=false)/\AcV P gf caps ok fin good/\(∀tr ex s,J tr ex s->tr.length<=B)/\(∀tr s,J tr .normal s->good tr)/\J [] .normal VG.s/\
   (∀tr x s,J tr .normal s->ok tr x->W P k assign l ⟨VG.t.set p x,s⟩ (AmQ fun Rl=>W P k body r Rl fun ex XZ=> ∃s',Weak k XZ (BS VG.t.length [] s')/\J (tr++ [x]) ex s'))/\
   ∀tr ex s,J tr ex s->(ex=.normal->fin tr)->K ex ⟨VG.t,s⟩
variable {m:Nat} {fr:Fr} {K:Ex->Fr->Prop}
def YZ:Ex->Bool
 | .normal=>true
 |_=>false
theorem Ada {ex:Ex} :ex.code.isNone=YZ ex:=by cases ex<;>rfl
theorem Tr {g:Operand} {ps:Array Tmp} {assign body:Code} {cut:Bool} {lt rt:MT} (h:AbE P m g ps assign body lt rt fr K):W P m (.rangeFunc g ps assign body) (.t cut lt rt) fr K:=by
 rw[AbE]at h
 obtain⟨k,p,gf,caps,ok,fin,good,B,J,VG,⟨rfl,hra,hrb,hmk,hks,href,hg,Alj⟩,hw0,⟨gfn,Anp,AjM,AjN⟩,hY,hB,hgood,hJ0,kG,hdone⟩:=h
 refine⟨fun V0 wA cxA a RA hmA=>WZ ((wpIn_wide (n:=0)).1 (wpIn_rangeFunc fun fn hfn=>?_)) fun hr=>by simp[ZE]at hr⟩
 obtain⟨XU,EA,R0⟩:=hw0 P.laid V0 wA cxA a RA
 obtain⟨w0,Aj9⟩: ∃w0,w0=wA:=⟨_,rfl⟩
 rw[<- Aj9]at EA R0 ⊢
 have hgv:=R0.eval g
 rw[hg]at hgv
 generalize hga:a.eval g=gv at hgv
 obtain⟨us,hul,AlO,rfl⟩: ∃us:List Value,caps.length=us.length/\(∀(i:Nat) (x:AV) (v:Value),caps[i]? =some x->us[i]? =some v->Rel w0 XU (Av V0 XU VG.s) x v)/\gv=.func (.func gf) #[] us.toArray:=by
  cases hgv with
  |fn _ _ _ first' cap' hl hl' hrel hrel'=>
   have:first'= []:=List.eq_nil_of_length_eq_zero (by simpa using hl.symm)
   subst this
   exact⟨cap',hl',hrel',rfl⟩
 obtain⟨rec,hrec⟩: ∃rec:Option Code->Loop,rec=fun c=> { state:=if c.isNone then .ready else .done,pending:=c,fn,tmps:=a.tmps,params:= #[p],assign,body,defers:=w0.heap.size } :=⟨_,rfl⟩
 obtain⟨W1,hW1⟩: ∃W1,(w0.alloc (.deferred (some []))).alloc (.loop (rec none))=W1:=⟨_,rfl⟩
 have hL1:W1.heap[w0.heap.size+1]? =some (.loop (rec none)):=by
  rw[<- hW1];have:=World.alloc_heap_new (w0.alloc (.deferred (some []))) (.loop (rec none));rwa[World.size_alloc]at this
 have hK1:W1.heap[w0.heap.size]? =some (.deferred (some [])):=by
  rw[<- hW1];exact(RowKit.Below.heap_alloc _ _ _ (by simp)).trans (World.alloc_heap_new w0 _)
 have hs1:W1.heap.size=w0.heap.size+2:=by rw[<- hW1];simp
 have hold: ∀b,b<w0.heap.size->W1.heap[b]? =w0.heap[b]? :=fun b hb=>by
  rw[<- hW1];exact(RowKit.Below.heap_alloc _ _ _ (by simp;omega)).trans (RowKit.Below.heap_alloc _ _ _ hb)
 have hos:W1.os=w0.os/\W1.tape=w0.tape/\W1.output=w0.output:=by rw[<- hW1];exact⟨rfl,rfl,rfl⟩
 have E1: ∀q,Ext q V0 w0 W1 XU XU VG.s VG.s:=fun q=>Ext.grown hos.1 hos.2.1 hos.2.2 (by omega) hold
 have S1:Bj P.laid V0 W1 XU VG.s:=R0.st.grown (by omega) hold
 obtain⟨M,hM⟩: ∃M:Nat->Prop,M=fun b=>W1.heap[b]? =some (.deferred (some []))/\ ¬V0 b:=⟨_,rfl⟩
 have Adw: ∀b,M b->b<w0.heap.size+1:=fun b hb=>by
  rw[hM]at hb
  have h1:=(Array.getElem?_eq_some_iff.1 hb.1).1
  rw[hs1]at h1
  rcases Nat.lt_or_ge b (w0.heap.size+1)with h|h
  ·exact h
  ·have:b=w0.heap.size+1:=by omega
   rw[this,hL1]at hb;cases hb.1
 refine⟨w0.heap.size+1,[{ target:=.collected w0.heap.size,args:= #[] }],W1,{ target:=.fn (.func gf) us.toArray,args:= #[.func (.yield (w0.heap.size+1)) #[] #[]] },W1,gf,
  ([Value.func (.yield (w0.heap.size+1)) #[] #[]]++us).toArray,W1,?_,?_,?_,?_,?_,?_⟩
 ·rw[<- hW1,hrec];exact run_enterLoop_outer _ _ _ _ _
 ·simp only[resolve,hga]
  simp[go_sem]
 ·intro f' hf';exact trivial
 ·simp only[invoke,callFunc,run_program,Sem.run_bind,Result.andThen_ok]
  rw[Anp]
  simp[AjN,AjM,go_sem]
 ·intro hd;simp[Fence.wide]at hd
 obtain⟨VV,hVV⟩: ∃VV:Cx->Store->Nat->Prop,VV=fun cx s b=>V0 b∨(Wr cx s b∨M b):=⟨_,rfl⟩
 obtain⟨SS,hSS⟩: ∃SS:List AV->Bool->(Nat->Prop)->(Nat->Prop)->World->Prop,SS=fun(tr:List AV) (g:Bool) (V N:Nat->Prop) (w:World)=> ∃s cx ex,V=VV cx s/\Bj P.laid (fun b=>V0 b∨N b) w cx s/\Ext k V0 w0 w XU cx VG.s s/\(∀b,M b->w.heap[b]? =some (.deferred (some [])))/\(∀b,N b->W1.heap.size<=b)/\W1.heap.size<=w.heap.size/\k<=s.length/\J tr ex s/\g=YZ ex/\w.heap[w0.heap.size+1]? =some (.loop (rec ex.code)):=⟨_,rfl⟩
 have hgen: ∀(tr:List AV) (g:Bool) (V N N':Nat->Prop) (w w':World),SS tr g V N w->w'.os=w.os->w'.tape=w.tape->w'.output=w.output->w.heap.size<=w'.heap.size->(∀b,b<w.heap.size-> ¬N b->w'.heap[b]? =w.heap[b]? ∨(w.heap[b]? =some (.deferred (some []))/\ ¬V b))->
  (∀b,N' b->N b∨w.heap.size<=b)->(∀b,N' b->b<w'.heap.size)->SS tr g V N' w':=by
  intro tr g' V N N' w w' h
  rw[hSS]at h ⊢
  revert h
  rintro⟨s,cx,ex,hV,S,E,hMw,hN,hsz,hk,hJ,hgx,hl⟩ os tape out size keep grow low
  have hND: ∀b,b<W1.heap.size-> ¬N b:=fun b hb h=>by have:=hN b h;omega
  have hVd: ∀b,M b->V b:=fun b h=>by rw[hV,hVV];exact .inr (.inr h)
  have Anl: ∀b,UZ w b-> ¬N b->w'.heap[b]? =w.heap[b]? :=fun b hb h=>by
   rcases keep b hb.lt h with q|⟨q,_⟩
   ·exact q
   ·obtain⟨c,t,f,hc⟩:=hb;rw[q]at hc;cases hc
  refine⟨s,cx,ex,hV,S.Gp size (fun b hb h=>Anl b hb fun h'=>h (.inr h')) (fun b hb h h'=>h'.elim (fun h'=>h (.inl h')) fun h'=>(grow b h').elim (fun h'=>h (.inr h')) fun h'=>by have:=hb.lt;omega) (fun b h=>h.elim (fun h=>Nat.lt_of_lt_of_le (S.low b (.inl h)) size) (low b)),?_,fun b hb=>?_,fun b h=>(grow b h).elim (hN b) fun h=>by omega,by omega,hk,hJ,hgx,?_⟩
  ·refine⟨os.trans E.os,tape.trans E.tape,out.trans E.output,Nat.le_trans E.size size,fun b hb hA=>?_,E.now,E.grow,E.cx⟩
   have hlt:b<w.heap.size:=Nat.lt_of_lt_of_le hb E.size
   rcases keep b hlt (hND b (by omega))with q|⟨q,q'⟩
   ·exact q.trans (E.keep b hb hA)
   ·refine absurd (hVd b ?_) q'
    rw[hM]
    refine⟨(hold b hb).trans ((E.keep b hb hA).symm.trans q),fun h=>q' ?_⟩
    rw[hV,hVV];exact .inl h
  ·have hlt:=Adw b hb
   rcases keep b (by omega) (hND b (by omega))with q|⟨q,q'⟩
   ·exact q.trans (hMw b hb)
   ·exact absurd (hVd b hb) q'
  ·rcases keep (w0.heap.size+1) (by omega) (hND _ (by omega))with q|⟨q,q'⟩
   ·exact q.trans hl
   ·rw[hl]at q;cases q
 let H:Host P (w0.heap.size+1):= {
  S:=fun tr g V N w=> ∃s cx ex,V=VV cx s/\Bj P.laid (fun b=>V0 b∨N b) w cx s/\Ext k V0 w0 w XU cx VG.s s/\(∀b,M b->w.heap[b]? =some (.deferred (some [])))/\(∀b,N b->W1.heap.size<=b)/\W1.heap.size<=w.heap.size/\k<=s.length/\J tr ex s/\g=YZ ex/\w.heap[w0.heap.size+1]? =some (.loop (rec ex.code))
  B:=B
  ok:=ok
  good:=good
  short:=fun tr g V N w ⟨s,cx,ex,_,_,_,_,_,_,_,hJ,_⟩=>hB tr ex s hJ
  gd:=fun tr V N w ⟨s,cx,ex,_,_,_,_,_,_,_,hJ,hg,_⟩=>by cases ex<;>first|exact hgood tr s hJ|cases hg
  stay:=?_
  shut:=?_
  yield:=?_ }
 ·refine((callsIn_wide (n:=0-1)).2 (hY (w0.heap.size+1) H (fun _ _ h=>h) (fun _ h=>h) (VV XU VG.s) W1 us ?_ hul ?_ ?_)).mono ?_
  ·
   have hc: ∀b,UZ W1 b-> ¬Av V0 XU VG.s b-> ¬Av (VV XU VG.s) [] [] b:=fun b hb hA hA'=>by
    rcases hA' with h|h
    ·rw[hVV]at h
     rcases h with h|h|h
     ·exact hA (.inl h)
     ·exact hA (.inr h)
     ·rw[hM]at h
      obtain⟨c,t,f,hc⟩:=hb
      rw[h.1]at hc;cases hc
    ·exact Wr.none h
   refine⟨fun b hb=>?_,rfl,fun i e o he=>by simp at he,fun i e o he=>by simp at he,fun i e o he=>by simp at he,fun i e o he=>by simp at he,fun i j ei ej oi oj he=>by simp at he,S1.glob.Gp (Nat.le_refl _) (fun _ _ _=>rfl) hc⟩
   rw[hVV]at hb
   rcases hb with h|h|h
   ·exact S1.low b h
   ·exact Wr.lt S1 h
   ·have:=Adw b h;omega
  ·intro i x v hx hv
   have hi:x.Lm=true:=OZ Alj x (List.mem_of_getElem? hx)
   have r1:=(AlO i x v hx hv).KY (w':=W1) (BX:= []) (A':=Av V0 XU VG.s) (by omega) (fun b hb _=>hold b hb) (fun _ _ h=>h) hi
   refine r1.Gp (Nat.le_refl _) (fun _ _ _=>rfl) fun b hb hA hA'=>?_
   rw[hVV]at hA'
   rcases hA' with h|h|h
   ·exact hA (.inl h)
   ·exact hA (.inr h)
   ·rw[hM]at h
    obtain⟨c,t,f,hc⟩:=hb
    rw[h.1]at hc;cases hc
  ·refine⟨VG.s,XU, .normal,rfl,S1.Gp (Nat.le_refl _) (fun _ _ _=>rfl) (fun b _ h h'=>h'.elim h id) (fun b h=>h.elim (S1.low b) fun h=>h.elim),E1 k,fun b hb=>by rw[hM]at hb;exact hb.1,fun b h=>h.elim,Nat.le_refl _,hks,hJ0,rfl,hL1⟩
  ·
   rintro e w2 ⟨r,tr,g',V',N',rfl,⟨s,cx,ex,hV',S2,E2,hM2,hN2,hsz2,hk2,hJ2,hg2,hl2⟩,hfin⟩
   have hst:(rec ex.code).state≠.busy:=by rw[hrec];show(if ex.code.isNone=true then LoopState.ready else LoopState.done)≠LoopState.busy;split<;>simp
   refine⟨(rec ex.code).pending,_,run_endLoop hl2 hst,?_⟩
   generalize hw5:w2.putObj (w0.heap.size+1) (.loop { rec ex.code with state:=.exhausted })=w5
   have E5:Ext k V0 w0 w5 XU cx VG.s s:=by rw[<- hw5];exact E2.vK (by omega) _
   have S5:Bj P.laid V0 w5 cx s:=by
    rw[<- hw5]
    exact((S2.Gp (V':=V0) (Nat.le_refl _) (fun _ _ _=>rfl) (fun b _ h h'=>h (.inl h')) fun b h=>S2.low b (.inl h))).vK (Zk hl2 fun _ _ _ h=>by cases h)
   have hM5: ∀b,M b->w5.heap[b]? =some (.deferred (some [])):=fun b hb=>by
    rw[<- hw5];exact(World.putObj_heap_other (by have:=Adw b hb;omega)).trans (hM2 b hb)
   have R5:EU P.laid V0 w5 cx ⟨VG.t,s⟩ { a with defers:= { target:=.collected w0.heap.size,args:= #[] } ::a.defers } :=by
    refine⟨S5,R0.size,⟨⟨w0.heap.size,rfl,?_,?_,?_⟩,?_⟩,fun i x hx=>?_⟩
    ·refine hM5 _ ?_
     rw[hM]
     exact⟨hK1,fun h=>absurd (R0.st.low _ h) (Nat.lt_irrefl _)⟩
    ·exact fun h=>absurd (R0.st.low _ h) (Nat.lt_irrefl _)
    ·have key: ∀(ds:List Deferred),Marks V0 w0 ds-> ∀d'∈ds,d'.target≠.collected w0.heap.size:=by
            intro ds
            induction ds with
            |nil=>intro _ d' hd;cases hd
            |cons d ds ih=>
             rintro⟨⟨q,q1,q2,q3,q4⟩,Mr⟩ d' hd
             rcases List.mem_cons.1 hd with rfl|hd
             ·intro e
              rw[q1]at e
              cases e
              exact absurd (Array.getElem?_eq_some_iff.1 q2).1 (Nat.lt_irrefl _)
             ·exact ih Mr d' hd
     exact key _ R0.defers
    ·refine Marks.keep (w:=w0) (fun q hq hd hv=>?_) (fun _ _ h=>h) R0.defers
     rw[hd]
     refine hM5 q ?_
     rw[hM]
     exact⟨(hold q hq).trans hd,hv⟩
    ·exact Rel.pin E5 E5.now (Jw href x (List.mem_of_getElem? hx)) (R0.tmps i x hx)
   have EE:Ext m V0 wA w5 cxA cx fr.s s:=by rw[<- Aj9];exact EA.trans (E5.less hmk)
   have hKK:=hdone tr ex s hJ2 fun he=>hfin (by rw[hg2,he];rfl)
   have hL:Left P.laid m V0 wA cxA fr K ex.to { a with defers:= { target:=.collected w0.heap.size,args:= #[] } ::a.defers } w5:=⟨ex,⟨VG.t,s⟩,cx,rfl,hKK,by show m<=s.length;omega,EE,R5⟩
   rw[<- Aj9]at hL
   cases ex with
   |normal=>
    rw[show(rec Ex.normal.code).pending=none from by rw[hrec];rfl]
    exact hL
   |exit id=>
    rw[show(rec (Ex.exit id).code).pending=some (.exit id) from by rw[hrec];rfl]
    exact wpIn_exit hL
   |ret=>
    rw[show(rec Ex.ret.code).pending=some .ret from by rw[hrec];rfl]
    exact wpIn_ret hL
 ·exact fun tr g V N N' w w' h h1 h2 h3 h4 h5 h6 h7=>by
   have:=hgen tr g V N N' w w' (by rw[hSS];exact h) h1 h2 h3 h4 (fun b hb hn=>.inl (h5 b hb hn)) h6 h7
   rw[hSS]at this
   exact this
 ·intro tr g V N w w' h Sh
  have hlow: ∀b,N b->b<w'.heap.size:=fun b hb=>by
   obtain⟨s,cx,ex,_,S,_⟩:=h
   rw[Sh.size]
   exact S.low b (.inr hb)
  have:=hgen tr g V N N w w' (by rw[hSS];exact h) Sh.os Sh.tape Sh.output (Nat.le_of_eq Sh.size.symm) (fun b _ _=>Sh.heap b) (fun b hb=>.inl hb) hlow
  rw[hSS]at this
  exact this
 ·
  rintro tr x v V N w ⟨s,cx,ex,hV,S,E,hMw,hN,hsz,hk,hJ,hgx,hl⟩ hok hx
  have Ann:ex=.normal:=by cases ex<;>first|rfl|cases hgx
  subst Ann
  have hy:=run_yield (P:=P.toProgram) (args:= #[v]) hl (by rw[hrec];rfl)
  refine⟨fn,_,assign,body,by rw[hrec]at hy;exact hy,roundIn_of_wpIn trivial ?_⟩
  have kD: ∀b,b<w0.heap.size-> ¬Av V0 XU VG.s b-> ¬Av (fun b=>V0 b∨N b) cx s b:=fun b hb hA hA'=>by
   rcases hA' with (h|h)|h
   ·exact hA (.inl h)
   ·have:=hN b h;omega
   ·exact E.now b hb hA (.inr h)
  have hxr:Rel w cx (Av (fun b=>V0 b∨N b) cx s) x v:=hx.move (Nat.le_refl _) (fun _ _ _=>rfl) (fun b _ hA hA'=>hA (by
   rcases hA' with (h|h)|h
   ·left;rw[hV,hVV];exact .inl h
   ·exact .inr h
   ·left;rw[hV,hVV];exact .inr (.inl h))) fun i e he=>by simp at he
  have Rr:EU P.laid (fun b=>V0 b∨N b) w cx ⟨VG.t.set p x,s⟩ { tmps:=(Array.zip #[p] #[v]).foldl (fun tmps (t,a)=>tmps.setIfInBounds t a) a.tmps,defers:= [] } :=by
   refine⟨S,?_,trivial,fun i y hy=>?_⟩
   ·show((Array.zip #[p] #[v]).foldl (fun tmps (t,a)=>tmps.setIfInBounds t a) a.tmps).size=_
    simp[R0.size]
   ·simp only[List.getElem?_set]at hy
    show Rel w cx _ y (((Array.zip #[p] #[v]).foldl (fun tmps (t,a)=>tmps.setIfInBounds t a) a.tmps).getD i undef)
    have hz:(Array.zip #[p] #[v]).foldl (fun tmps (t,a)=>tmps.setIfInBounds t a) a.tmps=a.tmps.setIfInBounds p v:=by simp
    rw[hz,Array.getD_eq_getD_getElem?,Array.getElem?_setIfInBounds]
    split at hy
    ·rename_i e
     split at hy
     ·cases hy
      have hlt:p<a.tmps.size:=by rw[R0.size];assumption
      rw[if_pos e,if_pos hlt]
      exact hxr
     ·cases hy
    ·rename_i e
     rw[if_neg e]
     have:=Rel.pin E kD (Jw href y (List.mem_of_getElem? hy)) (R0.tmps i y hy)
     rwa[Array.getD_eq_getD_getElem?]at this
  have hW:=((kG tr x s hJ hok).out _ w cx _ Rr hk).c hra (some (w0.heap.size+1))
  refine wpIn_mono hW ?_
  rintro e a1 w1 ⟨ex1,Rl,PU,rfl,hK1',hlen1,Ea,Ra⟩
  have hnw: ∀ {w:World} {cx:Cx} {s:Store} {V:Nat->Prop},Bj P.laid V w cx s-> ∀ {q:Nat} {o:Obj},w.heap[q]? =some o->(∀c t f,o≠.cells c t f)-> ¬Wr cx s q:=fun S q o hq ho hwr=>by
   obtain⟨c,t,f,hc⟩:=Wr.cells S hwr
   exact Zk hq ho ⟨c,t,f,hc⟩
  cases ex1 with
  |exit id=>exact hK1'.elim
  |ret=>exact hK1'.elim
  |normal=>
   have hl1:w1.heap[w0.heap.size+1]? =some (.loop (rec none)):=(Ea.keep _ (by omega) (hnw S hl fun _ _ _ h=>by cases h)).trans hl
   refine⟨_,run_beginRound hl1 (by rw[hrec];rfl),?_⟩
   generalize hw2:w1.putObj (w0.heap.size+1) (.loop { rec none with state:=.busy })=w2
   have hl2:w2.heap[w0.heap.size+1]? =some (.loop { rec none with state:=.busy }):=by rw[<- hw2];exact World.putObj_heap_same (Array.getElem?_eq_some_iff.1 hl1).1
   have Rb:EU P.laid (fun b=>V0 b∨N b) w2 PU Rl a1:=by rw[<- hw2];exact Ra.vK hl1
   have hW2:=((show W P k body rt Rl _ from hK1').out _ w2 PU a1 Rb hlen1).c hrb (some (w0.heap.size+1))
   refine wpIn_mono hW2 ?_
   rintro e a3 w3 ⟨ex3,jP,cx3,rfl,⟨s',hwk,hJ'⟩,hlen3,Eb,Rc⟩
   obtain⟨cx4,Ec,Rd⟩:=hwk P.laid _ w3 cx3 a3 Rc
   have hl3:w3.heap[w0.heap.size+1]? =some (.loop { rec none with state:=.busy }):=(Eb.keep _ (Array.getElem?_eq_some_iff.1 hl2).1 (hnw Rb.st hl2 fun _ _ _ h=>by cases h)).trans hl2
   have hend:=run_endRound (P:=P.toProgram) ex3.code hl3
   generalize hw4:w3.putObj (w0.heap.size+1) (.loop { { rec none with state:=.busy } with state:=if ex3.code.isNone=true then .ready else .done,pending:=ex3.code })=w4 at hend
   have hl4:w4.heap[w0.heap.size+1]? =some (.loop (rec ex3.code)):=by
    rw[<- hw4,hrec];exact World.putObj_heap_same (Array.getElem?_eq_some_iff.1 hl3).1
   have Abn:w2.heap.size=w1.heap.size:=by rw[<- hw2];simp
   have ApJ:w4.heap.size=w3.heap.size:=by rw[<- hw4];simp
   have E3:Ext k V0 w0 w4 XU cx4 VG.s s':=by
    rw[<- hw4]
    refine Ext.vK ?_ (by omega) _
    have F2:Ext k V0 w0 w2 XU PU VG.s Rl.s:=by rw[<- hw2];exact(E.chain Ea).vK (by omega) _
    exact(F2.chain Eb).chain Ec
   have S4:Bj P.laid (fun b=>V0 b∨N b) w4 cx4 s':=by
    rw[<- hw4];exact Rd.st.vK (Zk hl3 fun _ _ _ h=>by cases h)
   have szs:w.heap.size<=w4.heap.size:=by have h1:=Ea.size;have h2:=Eb.size;omega
   have Agg: ∀b,b<w.heap.size-> ¬Wr cx s b->b≠w0.heap.size+1->w4.heap[b]? =w.heap[b]? /\ ¬Wr cx4 s' b:=fun b hb hw hne=>by
    have b1:b<w1.heap.size:=Nat.lt_of_lt_of_le hb Ea.size
    have g1:=Ea.grow b hb hw
    have b2:b<w2.heap.size:=by omega
    have g2:=Eb.grow b b2 g1
    have b3:b<w3.heap.size:=Nat.lt_of_lt_of_le b2 Eb.size
    have g3:=Ec.grow b b3 g2
    refine⟨?_,g3⟩
    rw[<- hw4]
    refine(World.putObj_heap_other hne).trans ((Eb.keep b b2 g1).trans ?_)
    rw[<- hw2]
    exact(World.putObj_heap_other hne).trans (Ea.keep b hb hw)
   have hmN: ∀b,M b-> ¬Wr cx s b:=fun b hb=>hnw S (hMw b hb) fun _ _ _ h=>by cases h
   have AfZ: ∃s cx ex,VV cx4 s'=VV cx s/\Bj P.laid (fun b=>V0 b∨N b) w4 cx s/\Ext k V0 w0 w4 XU cx VG.s s/\(∀b,M b->w4.heap[b]? =some (.deferred (some [])))/\(∀b,N b->W1.heap.size<=b)/\W1.heap.size<=w4.heap.size/\k<=s.length/\J (tr++ [x]) ex s/\ex3.code.isNone=YZ ex/\w4.heap[w0.heap.size+1]? =some (.loop (rec ex.code)):=
    ⟨s',cx4,ex3,rfl,S4,E3,fun b hb=>(Agg b (by have:=Adw b hb;omega) (hmN b hb) (by have:=Adw b hb;omega)).1.trans (hMw b hb),hN,by omega,Xe hlen3 Rc.st Ec Rd.st,hJ',Ada,hl4⟩
   have AjE:Env V w (VV cx4 s') w4:=by
    refine⟨szs,fun b hb hv=>?_,fun b hb=>?_,fun b hb=>?_⟩
    ·by_cases e:b=w0.heap.size+1
     ·subst e;exact .inr ⟨_,hl⟩
     ·exact .inl (Agg b hb (fun h=>hv (by rw[hV,hVV];exact .inr (.inl h))) e).1
    ·rw[hVV]at hb
     rw[hV,hVV]
     rcases hb with h|h|h
     ·exact .inl (.inl h)
     ·by_cases hlt:b<w.heap.size
      ·by_cases hwr:Wr cx s b
       ·exact .inl (.inr (.inl hwr))
       ·by_cases e:b=w0.heap.size+1
        ·subst e
         exact absurd h (hnw S4 hl4 fun _ _ _ h=>by cases h)
        ·exact absurd h (Agg b hlt hwr e).2
      ·exact .inr (by omega)
     ·exact .inl (.inr (.inr h))
    ·rw[hVV]at hb
     rcases hb with h|h|h
     ·exact S4.low b (.inl h)
     ·exact Wr.lt S4 h
     ·have:=Adw b h;omega
   cases ex3 with
   |normal=>exact⟨_,_,hend,_,_,rfl,AfZ,AjE⟩
   |exit id=>exact⟨_,_,hend,_,_,rfl,AfZ,AjE⟩
   |ret=>exact⟨_,_,hend,_,_,rfl,AfZ,AjE⟩
def stepW (P:PL) (m:Nat) (c:Code) (t:MT) (fr:Fr) (K:Ex->Fr->Prop):Prop:=
 match t with
 | .z=>awp P m c fr K
 | .t cut l r=>
   match c with
   | .seq a b=>(match cut with|false=>W P m a l fr (gK (fun fr K=>W P m b r fr K) K)|true=>Adc m (fun K'=>W P m a l fr K') (fun fr' K'=>W P m b r fr' K') K)
   | .block id c=>W P m c l fr (iM id K)
   | .loop c=>X7 m (fun fr K=>W P m c l fr K) fr K
   | .cond c x y=>(match Kh fr.t c with| .bool b=>brP b (W P m x l fr K) (W P m y r fr K)|_=>False)
   | .rangeFunc g ps a b=>AbE P m g ps a b l r fr K
   |_=>False
 | .w _=>False
 | .m _=>False
theorem TT {c:Code} {t:MT} (Abj:P.follows .mixedOrders=true) (h:stepW P m c t fr K):W P m c t fr K:=by
 cases t with
 |z=>exact Tz Abj h
 |w l=>exact h.elim
 |m l=>exact h.elim
 |t cut l r=>
  cases c with
  |seq a b=>
   cases cut with
   |false=>exact Ta h
   |true=>exact Tc h
  |block id c=>exact Tb h
  |loop c=>exact Tl h
  |cond c x y=>
   simp only[stepW]at h
   split at h
   ·rename_i b hb
    exact Td hb h
   ·exact h.elim
  |rangeFunc g ps a b=>exact Tr h
  |_=>exact h.elim
theorem Af {f:FuncId} {fn:Func} {c:Code} (mt:MT) {args:List AV} {objs Dz:Store} {r:AV} (hf:P.funcs[f]? =some fn) (hb:fn.body=some c) (hname:(fn.name== "runtime.NumGoroutine")=false)
  (h:W P objs.length c mt (ML fn args objs) (AkA P fn objs.length fun r' s'=>r'.Le r/\s'=Dz)):Contract P f args objs r Dz:=
 jD _ (fun r' s' ⟨h1,h2⟩=>⟨h2,h1⟩) hf hb hname fun V w cx a R hm=>(h.out V w cx a R hm).wp
end
end Go.SE
