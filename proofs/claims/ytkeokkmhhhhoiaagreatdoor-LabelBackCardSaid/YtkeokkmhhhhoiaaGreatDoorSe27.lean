import Derived.Test.YtkeokkmhhhhoiaaGreatDoorSe26
namespace Go.SE
open Go
set_option linter.unusedVariables false
set_option linter.unusedSimpArgs false
variable {P:PL} {m:Nat}
theorem W.mono {c:Code} {l:MT} {fr:Fr} {K K':Ex->Fr->Prop} (h:W P m c l fr K) (hq: ∀ex f,K ex f->K' ex f):W P m c l fr K':=
 ⟨fun V w cx a R hm=>Qa (h.out V w cx a R hm) fun e a1 w1 hl=>by
   obtain⟨ex,fr',BX,h1,h2,h3,h4,h5⟩:=hl
   exact⟨ex,fr',BX,h1,hq _ _ h2,h3,h4,h5⟩⟩
def AcD (dS:Fr->(Ex->Fr->Prop)->Prop) (K:Ex->Fr->Prop):Nat->Fr->Prop
 |0,_=>False
 |n+1,fr=>dS fr (gK (fun XZ _=>AcD dS K n XZ) K)
theorem zC {c:Code} {l:MT} {fr:Fr} {K:Ex->Fr->Prop} (n:Nat) (h:AcD (fun fr K=>W P m c l fr K) K n fr):X7 m (fun fr K=>W P m c l fr K) fr K:=by
 refine kU (fun a:Nat×Fr=>a.2) (fun a=>AcD (fun fr K=>W P m c l fr K) K a.1 a.2) (fun a=>a.1) (n,fr) h rV ?_
 rintro⟨k,f⟩ hk hM
 cases k with
 |zero=>exact hk.elim
 |succ k=>
  have hk:W P m c l f (gK (fun XZ _=>AcD (fun fr K=>W P m c l fr K) K k XZ) K):=hk
  refine hk.mono fun ex f2 h2=>?_
  cases ex with
  |normal=>exact next (F:=fun a:Nat×Fr=>a.2) (a:=(k+1,f)) hM (k,f2) rV h2 (Nat.lt_succ_self k)
  |exit j=>exact h2
  |ret=>exact h2
end Go.SE
