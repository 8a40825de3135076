import Derived.Test.YtkeokkmhhhhoiaaGreatDoorSe17
import Derived.ChangeArms
import Derived.DataReads
import Derived.WideShapes
import Derived.Below
namespace Go.SE
open Go
set_option linter.unusedVariables false
variable {L:Laid}
abbrev A0:Nat->Prop:=Av (fun _=>False) [] []
theorem nA0 (b:Nat): ¬A0 b:=fun h=>h.elim False.elim fun h=>absurd h Wr.none
def Opens (P:Program) (t:TypeId) {α:Type} (en:α->AV) (ok:α->Prop):Prop:=
 ∀(H:Type) (enc:TypeId×Value->H) (w:World) (base:Nat) (sp:Nat->Bool) (held:Bool) (fuel:Nat) (cs:List Value) (y:DataW H×List MemPlace),DataW.trod enc P w base sp held fuel t cs=some y->
  ∃a,ok a/\(en a).Lm=true/\(en a).A9=cs.length/\cs.length=P.cellsOf t/\ ∀(c:Nat) (x:AV),(en a).cells[c]? =some x-> ∃v,cs[c]? =some v/\v.oneCell'=true/\Rel w [] A0 x v
section
variable {P:Program} {t e:TypeId}
theorem bC {w:World} {x:AV} {v:Value} (h1:v.oneCell'=true) (hx:x.cells= [x]) (R:Rel w [] A0 x v): ∀(c:Nat) (z:AV),x.cells[c]? =some z-> ∃u,[v][c]? =some u/\u.oneCell'=true/\Rel w [] A0 z u:=by
 intro c z hz
 rw[hx]at hz
 cases c with
 |zero=>simp at hz;subst hz;exact⟨v,rfl,h1,R⟩
 |succ c=>simp at hz
theorem qZ {k:IntKind} (ht:P.underlying t=some (.int k)) (hc:P.cellsOf t=1):Opens P t (fun n:Int=>AV.int k n) fun n=>(Lit.int k n).wf=true:=by
 intro H enc w base sp held fuel cs y h
 obtain⟨n,rfl,_,hw⟩:=DataW.trod_int ht h
 exact⟨n,hw,rfl,rfl,by simp[hc],bC rfl rfl (.int k n)⟩
theorem Opens.map {α β:Type} {en:α->AV} {ok:α->Prop} {en':β->AV} {ok':β->Prop} (O:Opens P t en ok) (f:α->β) (h: ∀a,ok a->en' (f a)=en a/\ok' (f a)):Opens P t en' ok':=by
 intro H enc w base sp held fuel cs y ht
 obtain⟨a,h1,h2,h3,h4,h5⟩:=O H enc w base sp held fuel cs y ht
 obtain⟨e1,e2⟩:=h a h1
 exact⟨f a,e2,by rw[e1];exact h2,by rw[e1];exact h3,h4,by rw[e1];exact h5⟩
theorem addN (b off n:Nat):(Addr.mk b off none).add n=⟨b,off+n,none⟩:=by
 by_cases h:n=0
 ·subst h;simp[Addr.add]
 ·simp[Addr.add,h]
theorem AcC {α:Type} (d:α): ∀(n:Nat) (p:Nat->α->Prop),(∀j,j<n-> ∃a,p j a)-> ∃l:List α,l.length=n/\ ∀j,j<n->p j (l.getD j d)
 |0,p,_=>⟨[],rfl,fun j hj=>by omega⟩
 |n+1,p,h=>by
  obtain⟨l,h1,h2⟩:=AcC d n (fun j=>p (j+1)) fun j hj=>h (j+1) (by omega)
  obtain⟨a,ha⟩:=h 0 (by omega)
  refine⟨a::l,by simp[h1],fun j hj=>?_⟩
  cases j with
  |zero=>exact ha
  |succ j=>exact h2 j (by omega)
theorem zI {α:Type} {en:α->AV} {ok:α->Prop} (ht:P.underlying t=some (.slice e)) (hc:P.cellsOf t=1) (hpos:0<P.cellsOf e) (O:Opens P e en ok) (d:α):
  Opens P t (fun s:Option Bool×List α=>AV.sl s.1 s.2.length fun i=>en (s.2.getD i d)) fun s=>s.2.length<=maxLen/\(∀j,j<s.2.length->ok (s.2.getD j d))/\ ∃b,s.1=some b/\(b=true->s.2= []):=by
 intro H enc w base sp held fuel cs y h
 rcases DataW.trod_slice ht h with ⟨rfl,_⟩|⟨a,len,cap,elems,rest,n,_,rfl,_,hb,hl,hm,hlen,hel,_⟩
 ·refine⟨(some true,[]),⟨by simp,fun j hj=>by simp at hj,true,rfl,fun _=>rfl⟩,rfl,rfl,by simp[hc],bC rfl rfl ?_⟩
  exact .sl (some true) 0 _ none 0 (P.cellsOf e) (fun _ _=>undef) (fun b hb=>by cases hb;rfl) (Nat.le_refl _) (Nat.zero_le _) (fun _=>rfl) (fun h=>by omega) (fun j hj=>by omega) (fun j c x hj=>by omega)
 ·obtain⟨b,off,spot⟩:=a
  have each: ∀j,j<len-> ∃z:α,ok z/\(en z).Lm=true/\(en z).A9=P.cellsOf e/\ ∀(c:Nat) (x:AV),(en z).cells[c]? =some x-> ∃v,w.cell? ((Addr.mk b off spot).add (j*P.cellsOf e) |>.add c)=some v/\v.oneCell'=true/\Rel w [] A0 x v:=by
   intro j hj
   have h1:=hel j hj
   rw[List.getElem?_eq_getElem (by omega),Option.bind_eq_some_iff]at h1
   obtain⟨cs',hcs,hy⟩:=h1
   obtain⟨z,g1,g2,g3,g4,g5⟩:=O H enc w base sp held n cs' _ hy
   obtain⟨_,k2,k3⟩:=World.cells?_some hcs
   refine⟨z,g1,g2,by rw[g3,g4],fun c x hx=>?_⟩
   obtain⟨v,hv,hv1,hr⟩:=g5 c x hx
   have hlt:c<P.cellsOf e:=by rw[<- k2];exact(List.getElem?_eq_some_iff.1 hv).1
   exact⟨v,by rw[k3 c hlt];exact hv,hv1,hr⟩
  obtain⟨l,hll,hlp⟩:=AcC d len _ each
  subst hll
  refine⟨(some false,l),⟨Nat.le_trans hl hm,fun j hj=>(hlp j hj).1,false,rfl,fun h=>by cases h⟩,rfl,rfl,by simp[hc],bC rfl rfl ?_⟩
  refine .sl (some false) l.length _ (some ⟨b,off,spot⟩) cap (P.cellsOf e) (fun j c=>(w.cell? ((Addr.mk b off spot).add (j*P.cellsOf e) |>.add c)).getD undef) (fun b hb=>by cases hb;rfl) hl hm (fun h=>by cases h) (fun hn=>?_) (fun j hj=>⟨(hlp j hj).2.1,(hlp j hj).2.2.1⟩) (fun j c x hj hx=>?_)
  ·
   have h0:=hlp 0 hn
   obtain⟨x0,hx0⟩: ∃x,(en (l.getD 0 d)).cells[0]? =some x:=⟨_,AV.LU _ 0 (by rw[h0.2.2.1];exact hpos)⟩
   obtain⟨v0,hv0,_,_⟩:=h0.2.2.2 0 x0 hx0
   have hs:=World.cell?_spot hv0
   have hspot:spot=none:=by simpa[Addr.add]using hs
   subst hspot
   have hbl:UZ w b:=UZ.of_cell (j:=off+0*P.cellsOf e+0) (by rw[addN,addN]at hv0;exact hv0)
   refine⟨b,off,rfl,nA0 b,hbl,fun j c x hj hx=>?_⟩
   obtain⟨v,hv,hv1,_⟩:=(hlp j hj).2.2.2 c x hx
   have ha:((Addr.mk b off none).add (j*P.cellsOf e)).add c=⟨b,off+(j*P.cellsOf e+c),none⟩:=by rw[addN,addN,Nat.add_assoc]
   rw[ha]at hv
   simp only[ha,hv,Option.getD_some]
   exact⟨trivial,hv1⟩
  ·obtain⟨v,hv,hv1,hr⟩:=(hlp j hj).2.2.2 c x hx
   simp only[hv,Option.getD_some]
   exact hr
theorem Opens.cell {α:Type} {en:α->AV} {ok:α->Prop} (O:Opens P t en ok) (h1: ∀a,(en a).cells= [en a]) {H:Type} {enc:TypeId×Value->H} {w:World} {base:Nat} {sp:Nat->Bool} {held:Bool} {fuel:Nat} {v:Value} {y:DataW H×List MemPlace}
  (h:DataW.trod enc P w base sp held fuel t [v]=some y): ∃a,ok a/\(en a).Lm=true/\v.oneCell'=true/\Rel w [] A0 (en a) v:=by
 obtain⟨a,g1,g2,g3,g4,g5⟩:=O H enc w base sp held fuel [v] y h
 obtain⟨u,hu,hu1,hr⟩:=g5 0 (en a) (by rw[h1];rfl)
 simp at hu
 subst hu
 exact⟨a,g1,g2,hu1,hr⟩
end
theorem Akz {w:World} (G:Glob L w A0):Bj L (fun _=>False) w [] [] where
 low:=fun b h=>h.elim
 len:=rfl
 obj:=fun i e o h=>by simp at h
 gM:=fun i e o h=>by simp at h
 may:=fun i e o h=>by simp at h
 apart:=fun i e o h=>by simp at h
 inj:=fun i j ei ej oi oj h=>by simp at h
 glob:=G
theorem Glob.none {te:TypeId} {w:World} {A:Nat->Prop} :Glob ⟨te,[],[]⟩ w A:=⟨fun _ h=>absurd h List.not_mem_nil,fun _ _ _ h=>absurd h List.not_mem_nil,fun _ h=>absurd h List.not_mem_nil⟩
theorem Opens.arg {P:Program} {t:TypeId} {α:Type} {en:α->AV} {ok:α->Prop} (O:Opens P t en ok) (h1: ∀a,(en a).cells= [en a]) {H:Type} {enc:TypeId×Value->H} {w:World} {base:Nat} {sp:Nat->Bool} {held:Bool} {v:Value} {d:DataW H} {ps:List MemPlace} (hv:v.cells.toList= [v])
  (h:DataW.Trod enc P w base sp held t v d ps): ∃a,ok a/\Rel w [] A0 (en a) v:=by
 obtain⟨fuel,h⟩:=h
 rw[hv]at h
 obtain⟨a,g1,_,_,g2⟩:=O.cell h1 h
 exact⟨a,g1,g2⟩
theorem Opens.Ajj {P:Program} {t:TypeId} {α:Type} {en:α->AV} {ok:α->Prop} (O:Opens P t en ok) (h1: ∀a,∃xs,en a=.agg xs) {H:Type} {enc:TypeId×Value->H} {w:World} {base:Nat} {sp:Nat->Bool} {held:Bool} {cs:Array Value} {d:DataW H} {ps:List MemPlace}
  (h:DataW.Trod enc P w base sp held t (.agg cs) d ps): ∃a,ok a/\Rel w [] A0 (en a) (.agg cs):=by
 obtain⟨fuel,h⟩:=h
 obtain⟨a,g1,g2,g3,g4,g5⟩:=O _ enc w base sp held fuel _ _ h
 obtain⟨xs,hx⟩:=h1 a
 refine⟨a,g1,?_⟩
 rw[hx]at g3 g5 ⊢
 have hc:(Value.agg cs).cells.toList=cs.toList:=rfl
 rw[hc]at g3 g5
 have hl:xs.length=cs.toList.length:=g3
 refine .agg xs cs.toList hl (fun v hv=>?_) fun c x v hx' hv=>?_
 ·obtain⟨i,hi⟩:=List.getElem?_of_mem hv
  have hlt:i<xs.length:=by rw[hl];exact(List.getElem?_eq_some_iff.1 hi).1
  obtain⟨u,hu,hu1,_⟩:=g5 i xs[i] (List.getElem?_eq_getElem hlt)
  rw[hi]at hu
  cases hu
  exact hu1
 ·obtain⟨u,hu,_,hr⟩:=g5 c x hx'
  rw[hv]at hu
  cases hu
  exact hr
theorem Contract.top {P:PL} {f:FuncId} {args:List AV} {b:Bool} (h:Contract P f args [] (.bool b) []) {w:World} (G:Glob P.laid w A0) {vs:List Value} (hl:args.length=vs.length) (R: ∀(i:Nat) (x:AV) (v:Value),args[i]? =some x->vs[i]? =some v->Rel w [] A0 x v):
  Calls P f vs.toArray w fun e w'=>e=.returned (.bool b)/\RowKit.Below w.heap.size w w':=by
 refine(h.2 (fun _=>False) w [] vs (Akz G) hl R).mono fun e w' ⟨v,BX,he,E,_,hr⟩=>?_
 rw[hr.OM]at he
 exact⟨he,E.os,E.tape,E.output,E.size,fun k hk=>E.keep k hk Wr.none⟩
end Go.SE
