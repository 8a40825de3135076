import Derived.Test.YtkeokkmhhhhoiaaGreatDoorSe25
import Derived.Maps.OwnIn
import Derived.Maps.OwnSet
namespace Go.SE
open Go Go.Maps
set_option linter.unusedVariables false
set_option linter.unusedSimpArgs false
def memT (tr:List AV) (a:Int):Bool:=tr.any fun x=>match x with| .int _ n=>n==a|_=>false
def wP (q:IntKind) (D:DataW Unit) (tr:List AV):Prop:=IsMap D/\ ∀a,(Lit.int q a).wf=true->D.atKey (.int q a) (.lit (.int .i64 0))=.lit (.int .i64 (bif memT tr a then 1 else 0))
theorem wP.nil {q:IntKind} :wP q (.map []) []:=⟨⟨[],rfl⟩,fun a _=>by simp[WideAt.atKey_none,memT]⟩
theorem wP.put {q:IntKind} {D:DataW Unit} {tr:List AV} (h:wP q D tr) (a:Int) (hk:WideAt.IsKeyLit (.int q a)):wP q (D.put (.int q a) (.lit (.int .i64 1))) (tr++ [.int q a]):=by
 refine⟨IsMap.put h.1 _ _,fun b hb=>?_⟩
 by_cases e:b=a
 ·subst e
  rw[atKey_put_same h.1 hk]
  simp[memT]
 ·have hne:Lit.int q b≠Lit.int q a:=fun e'=>by injection e' with _ e';exact e e'
  rw[atKey_put_other hne,h.2 b hb]
  have:(a==b)=false:=by simpa using fun e':a=b=>e e'.symm
  simp[memT,this]
section
variable {P:PL} {G:Gho P} {tr0:List AV} {g0:Bool} {k e mt:TypeId} {q:IntKind} {b:Nat}
variable {fr:Fr} {tr:List AV} {g:Bool} {K:Ex->Fr->List AV->Bool->Prop}
end
end Go.SE
