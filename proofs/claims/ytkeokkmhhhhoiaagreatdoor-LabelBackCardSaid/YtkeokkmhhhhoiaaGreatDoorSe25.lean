import Derived.Test.YtkeokkmhhhhoiaaGreatDoorSe24
namespace Go.SE
open Go
set_option linter.unusedVariables false
set_option linter.unusedSimpArgs false
section
variable {P:PL} {lp:Nat}
def AkX (P:PL) (H:Gho P) (K:Ex->Fr->List AV->Bool->Prop) (e:Exit) (a':Act) (w':World):Prop:=
 ∃ex fr' BX tr' g' V',e=ex.to/\K ex fr' tr' g'/\EU P.laid V' w' BX fr' a'/\H.S tr' g' V' (Wr BX fr'.s) w'
structure WY (P:PL) (H:Gho P) (c:Code) (mt:MT) (fr:Fr) (tr:List AV) (g:Bool) (K:Ex->Fr->List AV->Bool->Prop):Prop where
 out: ∀V w cx a,EU P.laid V w cx fr a->H.S tr g V (Wr cx fr.s) w->c.wp P (AkX P H K) a w
variable {H:Gho P} {fr:Fr} {tr:List AV} {g:Bool} {K:Ex->Fr->List AV->Bool->Prop}
end
inductive YS (S X:Type) where
 |fin
 |yld (x:X) (post:Option (Stp S Unit))
section
variable {S X C R:Type}
variable {P:PL} {lp:Nat} {H:Host P lp}
end
end Go.SE
