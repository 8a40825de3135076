import Derived.Test.YtkeokkmhhhhoiaaGreatDoorSe21
namespace Go.SE
open Go
set_option linter.unusedVariables false
section
variable {P:Program} {t e:TypeId}
theorem Vs {α:Type} {en:α->AV} {ok:α->Prop} (ht:P.underlying t=some (.slice e)) (hc:P.cellsOf t=1) (hpos:0<P.cellsOf e) (O:Opens P e en ok) (d:α):
  Opens P t (fun l:List α=>AV.sl none l.length fun i=>en (l.getD i d)) fun l=>l.length<=maxLen/\ ∀j,j<l.length->ok (l.getD j d):=by
 intro H enc w base sp held fuel cs y h
 obtain⟨a,h1,h2,h3,h4,h5⟩:=zI ht hc hpos O d H enc w base sp held fuel cs y h
 refine⟨a.2,⟨h1.1,h1.2.1⟩,rfl,h3,h4,fun c x hx=>?_⟩
 obtain⟨v,hv,hv1,hr⟩:=h5 0 _ rfl
 cases c with
 |zero=>
  simp[AV.cells]at hx
  subst hx
  exact⟨v,hv,hv1,AV.Le.mP _ _ _ _ hr⟩
 |succ c=>simp[AV.cells]at hx
def Seg (w:World) (cs:List Value) (off:Nat) (l:List AV):Prop:= ∀(c:Nat) (x:AV),l[c]? =some x-> ∃v,cs[off+c]? =some v/\v.oneCell'=true/\Rel w [] A0 x v
theorem Seg.nil {w:World} {cs:List Value} {off:Nat} :Seg w cs off []:=fun c x h=>by simp at h
theorem Seg.app {w:World} {cs:List Value} {off off':Nat} {A B:List AV} (h:Seg w cs off A) (h':Seg w cs off' B) (ho:off'=off+A.length):Seg w cs off (A++B):=by
 subst ho
 intro c x hx
 rw[List.getElem?_append]at hx
 split at hx
 ·exact h c x hx
 ·rename_i hc
  obtain⟨v,hv,hr⟩:=h' _ x hx
  exact⟨v,by rw[show off+c=off+A.length+(c-A.length) by omega];exact hv,hr⟩
theorem Ml {fs:Array Field} (ht:P.underlying t=some (.struct fs)) {H:Type} {enc:TypeId×Value->H} {w:World} {base:Nat} {sp:Nat->Bool} {held:Bool} {fuel:Nat} {cs:List Value} {y:DataW H×List MemPlace}
  (h:DataW.trod enc P w base sp held fuel t cs=some y): ∃n,cs.length=P.cellsOf t/\ ∀(i:Nat) (f:Field),fs[i]? =some f-> ∃z,DataW.trod enc P w base sp held n f.type ((cs.drop f.offset).take (P.cellsOf f.type))=some z:=by
 obtain⟨xs,n,_,_,h1,h2,h3⟩:=DataW.trod_struct ht h
 refine⟨n,h1,fun i f hf=>?_⟩
 have hlt:i<xs.length:=by rw[h2];exact(Array.getElem?_eq_some_iff.1 hf).1
 exact⟨xs[i],by rw[h3 i f hf,List.getElem?_eq_getElem hlt]⟩
theorem Opens.seg {α:Type} {en:α->AV} {ok:α->Prop} (O:Opens P t en ok) {H:Type} {enc:TypeId×Value->H} {w:World} {base:Nat} {sp:Nat->Bool} {held:Bool} {n:Nat} {cs:List Value} {off m:Nat}
  (h: ∃z,DataW.trod enc P w base sp held n t ((cs.drop off).take m)=some z): ∃a,ok a/\Seg w cs off (en a).cells:=by
 obtain⟨z,h⟩:=h
 obtain⟨a,h1,_,_,_,h5⟩:=O H enc w base sp held n _ z h
 refine⟨a,h1,fun c x hx=>?_⟩
 obtain⟨v,hv,hr⟩:=h5 c x hx
 rw[List.getElem?_take]at hv
 split at hv
 ·rw[List.getElem?_drop]at hv
  exact⟨v,hv,hr⟩
 ·cases hv
theorem Seg.zero {w:World} {cs:List Value} {l:List AV} (h:Seg w cs 0 l): ∀(c:Nat) (x:AV),l[c]? =some x-> ∃v,cs[c]? =some v/\v.oneCell'=true/\Rel w [] A0 x v:=fun c x hx=>by
 have:=h c x hx
 rwa[Nat.zero_add]at this
end
end Go.SE
