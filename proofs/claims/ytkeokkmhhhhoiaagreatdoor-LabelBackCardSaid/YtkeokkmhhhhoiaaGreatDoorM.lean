import Derived.Test.YtkeokkmhhhhoiaaGreatDoorL
namespace Go.Proofs.YtkeokkmhhhhoiaaGreatDoor
open Go Go.SE
set_option linter.unusedVariables false
set_option linter.unusedSimpArgs false
structure EB where
 Bd:Int
 Bp:(List Int)
def Ac:EB:=⟨0,[]⟩
structure Ap where
 GQ:Int
 GD:Int
 CP:Int
def Ai:Ap:=⟨0,0,0⟩
structure Ab where
 Ad:(List EB)
 Au:(List Ap)
 AJ:(List Int)
structure Bb where
 Ev:(List Ap)
 Gt:(List Ap)
 JX:(List Ap)
 Hl:(List Ap)
 I7:(List Ap)
 Hg:(List Ap)
 JZ:(List Ap)
 JY:(List Ap)
 J2:(List Ap)
 DJ:(List Ap)
 NT:(List Ap)
structure CQ where
 Bd:Int
 Bp:Int
def E9:CQ:=⟨0,0⟩
structure Ag where
 Ca:Ab
 Ct:Bb
 EL:(List CQ)
structure BR where
 XD:(List Ap)
 Ir:Int
def Cr:BR:=⟨[],0⟩
def Az (l:(List Int)):AV:=.sl none l.length fun i=>(AV.int .i32 (l.getD i 0))
def Nb (x:EB):AV:=.agg [(.int .i32 x.Bd),(Az x.Bp)]
def Eu (l:(List EB)):AV:=.sl none l.length fun i=>(Nb (l.getD i Ac))
def Lg (x:Ap):AV:=.agg [(.int .i32 x.GQ),(.int .i32 x.GD),(.int .i64 x.CP)]
def Aw (l:(List Ap)):AV:=.sl none l.length fun i=>(Lg (l.getD i Ai))
def Aq (x:Ab):AV:=.agg [(Eu x.Ad),(Aw x.Au),(Az x.AJ)]
def FL (x:Bb):AV:=.agg [(Aw x.Ev),(Aw x.Gt),(Aw x.JX),(Aw x.Hl),(Aw x.I7),(Aw x.Hg),(Aw x.JZ),(Aw x.JY),(Aw x.J2),(Aw x.DJ),(Aw x.NT)]
def Vd (x:CQ):AV:=.agg [(.int .i32 x.Bd),(.int .i32 x.Bp)]
def DY (l:(List CQ)):AV:=.sl none l.length fun i=>(Vd (l.getD i E9))
def AB (x:Ag):AV:=.agg [(Eu x.Ca.Ad),(Aw x.Ca.Au),(Az x.Ca.AJ),(Aw x.Ct.Ev),(Aw x.Ct.Gt),(Aw x.Ct.JX),(Aw x.Ct.Hl),(Aw x.Ct.I7),(Aw x.Ct.Hg),(Aw x.Ct.JZ),(Aw x.Ct.JY),(Aw x.Ct.J2),(Aw x.Ct.DJ),(Aw x.Ct.NT),(DY x.EL)]
def Jg (l:(List Int)):AV:=.sl none l.length fun i=>(AV.int .i64 (l.getD i 0))
def YW (x:(List (List Ap))):AV:=.agg [(Aw (x.getD 0 [])),(Aw (x.getD 1 [])),(Aw (x.getD 2 [])),(Aw (x.getD 3 [])),(Aw (x.getD 4 [])),(Aw (x.getD 5 [])),(Aw (x.getD 6 [])),(Aw (x.getD 7 [])),(Aw (x.getD 8 [])),(Aw (x.getD 9 [])),(Aw (x.getD 10 []))]
def Nc (x:BR):AV:=.agg [(Aw x.XD),(.int .i64 x.Ir)]
def JB (l:(List BR)):AV:=.sl none l.length fun i=>(Nc (l.getD i Cr))
noncomputable def ND:Option Ag:=
 some ({ Ca:=({ Ad:= [],Au:= [],AJ:= [] } :Ab),Ct:=({ Ev:= [],Gt:= [],JX:= [],Hl:= [],I7:= [],Hg:= [],JZ:= [({ GQ:=(252:Int),GD:=(252:Int),CP:=(0:Int) } :Ap)],JY:= [],J2:= [],DJ:= [],NT:= [] } :Bb),EL:= [({ Bd:=(220:Int),Bp:=(252:Int) } :CQ)] } :Ag)
noncomputable def MZ (FX:Int) (ZV:Er):Option Er:=
 some (Er.box 70 FX ZV)
noncomputable def SN (Bq:Int) (s1:Int):Option (Int×Int×Int×Int):=
 bif (Bq==(224:Int))then
  if 0<=s1 then
   some (s1,(IntKind.wrap .i32 (XI .u8 Bq (Int.fdiv (63:Int) (2 ^ (min (s1).toNat (IntKind.bits .u8)))))),(160:Int),(191:Int))
  else none
 else
  bif (Bq==(237:Int))then
   if 0<=s1 then
    some (s1,(IntKind.wrap .i32 (XI .u8 Bq (Int.fdiv (63:Int) (2 ^ (min (s1).toNat (IntKind.bits .u8)))))),(128:Int),(159:Int))
   else none
  else
   bif (Bq==(240:Int))then
    if 0<=s1 then
     some (s1,(IntKind.wrap .i32 (XI .u8 Bq (Int.fdiv (63:Int) (2 ^ (min (s1).toNat (IntKind.bits .u8)))))),(144:Int),(191:Int))
    else none
   else
    bif (Bq==(244:Int))then
     if 0<=s1 then
      some (s1,(IntKind.wrap .i32 (XI .u8 Bq (Int.fdiv (63:Int) (2 ^ (min (s1).toNat (IntKind.bits .u8)))))),(128:Int),(143:Int))
     else none
    else
     if 0<=s1 then
      some (s1,(IntKind.wrap .i32 (XI .u8 Bq (Int.fdiv (63:Int) (2 ^ (min (s1).toNat (IntKind.bits .u8)))))),(128:Int),(191:Int))
     else none
noncomputable def dV (Bq:Int):Option (Int×Int×Int×Int):=
 Option.bind (
  bif (decide (Bq>=(245:Int)))then
   some (.inr ((-1:Int),(0:Int),(128:Int),(191:Int)))
  else
   bif (decide (Bq>=(240:Int)))then
    some (.inl (IntKind.wrap .i64 ((IntKind.wrap .i64 ((IntKind.wrap .i64 ((0:Int)+(1:Int)))+(1:Int)))+(1:Int))))
   else
    bif (decide (Bq>=(224:Int)))then
     some (.inl (IntKind.wrap .i64 ((IntKind.wrap .i64 ((0:Int)+(1:Int)))+(1:Int))))
    else
     bif (decide (Bq>=(194:Int)))then
      some (.inl (IntKind.wrap .i64 ((0:Int)+(1:Int))))
     else
      bif (decide (Bq>=(128:Int)))then
       some (.inr ((-1:Int),(0:Int),(128:Int),(191:Int)))
      else
       some (.inr ((0:Int),(IntKind.wrap .i32 Bq),(128:Int),(191:Int))):Option (Sum Int (Int×Int×Int×Int))) fun z=>
 match z with
 | .inl s1=>
  SN Bq s1
 | .inr (v3)=>
  some (v3.1,v3.2.1,v3.2.2.1,v3.2.2.2)
noncomputable def kY (BA:ByteArray) (FX:Int) (s9:Int×Int×Int×Int) (s13:Bool):Option (Stp (Int×Int×Int×Int) (Sum Int (Int×Int×Er))):=
 bif s13 then
  Option.bind (MZ FX (Er.sent 7)) fun rW=>
  some (.done (.inr ((0:Int),(0:Int),rW)))
 else
  some (.next ((ior .i32 (IntKind.wrap .i32 (s9.1*64)) (IntKind.wrap .i32 (XI .u8 (bt BA (IntKind.wrap .i64 (FX+s9.2.2.2))) (63:Int)))),(128:Int),(191:Int),(IntKind.wrap .i64 (s9.2.2.2+(1:Int)))))
noncomputable def kZ (BA:ByteArray) (FX:Int) (y4:Int×Int×Int×Int) (s9:Int×Int×Int×Int):Option (Stp (Int×Int×Int×Int) (Sum Int (Int×Int×Er))):=
 bif (decide (s9.2.2.2<=y4.1))then
  bif (decide ((IntKind.wrap .i64 (FX+s9.2.2.2))>=((BA.size:Nat):Int)))then
   Option.bind (MZ FX (Er.sent 11)) fun P5=>
   some (.done (.inr ((0:Int),(0:Int),P5)))
  else
   if 0<=(IntKind.wrap .i64 (FX+s9.2.2.2))/\(IntKind.wrap .i64 (FX+s9.2.2.2))<((BA.size:Nat):Int)then
    Option.bind (
     bif (decide ((bt BA (IntKind.wrap .i64 (FX+s9.2.2.2)))<s9.2.1))then
      some true
     else
      some (decide ((bt BA (IntKind.wrap .i64 (FX+s9.2.2.2)))>s9.2.2.1)):Option Bool) fun s13=>
    kY BA FX s9 s13
   else none
 else
  some (.done (.inl s9.1))
noncomputable def oV (BA:ByteArray) (FX:Int) (s1:Bool):Option (Int×Int×Er):=
 bif s1 then
  Option.bind (MZ FX (Er.sent 12)) fun y3=>
  some ((0:Int),(0:Int),y3)
 else
  if 0<=FX/\FX<((BA.size:Nat):Int)then
   Option.bind (dV (bt BA FX)) fun y4=>
   bif (decide (y4.1<(0:Int)))then
    Option.bind (MZ FX (Er.sent 7)) fun y5=>
    some ((0:Int),(0:Int),y5)
   else
    Option.bind (
     iter (kZ BA FX y4) (y4.2.1,y4.2.2.1,y4.2.2.2,(1:Int)):Option (Sum Int (Int×Int×Er))) fun z=>
    match z with
    | .inl s6=>
     some (s6,(IntKind.wrap .i64 (y4.1+(1:Int))),Er.nil)
    | .inr (v18)=>
     some (v18.1,v18.2.1,v18.2.2)
  else none
noncomputable def kX (BA:ByteArray) (FX:Int):Option (Int×Int×Er):=
 Option.bind (
  bif (decide (FX<(0:Int)))then
   some true
  else
   some (decide (FX>=((BA.size:Nat):Int))):Option Bool) fun s1=>
 oV BA FX s1
noncomputable def gG (BA:ByteArray) (s4:(List Int)×Int):Option (Stp ((List Int)×Int) (Sum (List Int) ((List Int)×Er))):=
 bif (decide (s4.2<((BA.size:Nat):Int)))then
  Option.bind (kX BA s4.2) fun y7=>
  bif (!y7.2.2.isNil)then
   some (.done (.inr ([],y7.2.2)))
  else
   if(s4.1.length+1)*4<=140737488355328 then
    some (.next ((s4.1++ [y7.1]),(IntKind.wrap .i64 (s4.2+y7.2.1))))
   else none
 else
  some (.done (.inl s4.1))
noncomputable def Zg (BA:ByteArray):Option ((List Int)×Er):=
 Option.bind (
  iter (gG BA) ([],(0:Int)):Option (Sum (List Int) ((List Int)×Er))) fun z=>
 match z with
 | .inl s1=>
  some (s1,Er.nil)
 | .inr (v10)=>
  some (v10.1,v10.2)
noncomputable def J6 (p_r:Int):Option Bool:=
 bif (decide (p_r>=(65:Int)))then
  some (decide (p_r<=(90:Int)))
 else
  some false
noncomputable def LZ (YF:Int) (DW:(List CQ)) (EX:Int):Option Bool:=
 if 0<=YF/\YF<((DW.length:Nat):Int)then
  some (decide ((DW.getD (YF.toNat) E9).Bd>=EX))
 else none
noncomputable def EI (Ua:(List CQ)) (EX:Int) (s4:Int×Int):Option (Stp (Int×Int) Int):=
 bif (decide (s4.1<s4.2))then
  Option.bind (LZ (IntKind.wrap .i64 (Int.fdiv (IntKind.wrap .u64 (IntKind.wrap .i64 (s4.1+s4.2))) 2)) Ua EX) fun y7=>
  bif (!y7)then
   some (.next ((IntKind.wrap .i64 ((IntKind.wrap .i64 (Int.fdiv (IntKind.wrap .u64 (IntKind.wrap .i64 (s4.1+s4.2))) 2))+(1:Int))),s4.2))
  else
   some (.next (s4.1,(IntKind.wrap .i64 (Int.fdiv (IntKind.wrap .u64 (IntKind.wrap .i64 (s4.1+s4.2))) 2))))
 else
  some (.done s4.1)
noncomputable def GL (p_n:Int) (Ua:(List CQ)) (EX:Int):Option Int:=
 Option.bind (
  iter (EI Ua EX) ((0:Int),p_n):Option Int) fun s1=>
 some s1
noncomputable def Ql (AZ:(List CQ)) (p_r:Int) (y1:Int) (s2:Bool):Option (Int×Bool):=
 bif s2 then
  some (p_r,false)
 else
  if 0<=y1/\y1<((AZ.length:Nat):Int)then
   some ((AZ.getD (y1.toNat) E9).Bp,true)
  else none
noncomputable def Mj (AZ:(List CQ)) (p_r:Int):Option (Int×Bool):=
 Option.bind (GL ((AZ.length:Nat):Int) AZ p_r) fun y1=>
 Option.bind (
  bif (y1==((AZ.length:Nat):Int))then
   some true
  else
   if 0<=y1/\y1<((AZ.length:Nat):Int)then
    some ((AZ.getD (y1.toNat) E9).Bd != p_r)
   else none:Option Bool) fun s2=>
 Ql AZ p_r y1 s2
noncomputable def Ot (s7:Bool):Option Int:=
 bif s7 then
  some (4:Int)
 else
  some (0:Int)
noncomputable def SA (p_r:Int) (s5:Bool):Option Int:=
 bif s5 then
  some (3:Int)
 else
  Option.bind (
   bif (decide (p_r>=(44032:Int)))then
    some (decide (p_r<(55204:Int)))
   else
    some false:Option Bool) fun s7=>
  Ot s7
noncomputable def Sz (p_r:Int) (s3:Bool):Option Int:=
 bif s3 then
  some (2:Int)
 else
  Option.bind (
   bif (decide (p_r>(4519:Int)))then
    some (decide (p_r<(4547:Int)))
   else
    some false:Option Bool) fun s5=>
  SA p_r s5
noncomputable def Sy (p_r:Int) (s1:Bool):Option Int:=
 bif s1 then
  some (1:Int)
 else
  Option.bind (
   bif (decide (p_r>=(4449:Int)))then
    some (decide (p_r<(4470:Int)))
   else
    some false:Option Bool) fun s3=>
  Sz p_r s3
noncomputable def J5 (p_r:Int):Option Int:=
 Option.bind (
  bif (decide (p_r>=(4352:Int)))then
   some (decide (p_r<(4371:Int)))
  else
   some false:Option Bool) fun s1=>
 Sy p_r s1
noncomputable def LY (YF:Int) (DW:Ab) (EX:Int):Option Bool:=
 if 0<=YF/\YF<((DW.Ad.length:Nat):Int)then
  some (decide ((DW.Ad.getD (YF.toNat) Ac).Bd>=EX))
 else none
noncomputable def EH (Ua:Ab) (EX:Int) (s4:Int×Int):Option (Stp (Int×Int) Int):=
 bif (decide (s4.1<s4.2))then
  Option.bind (LY (IntKind.wrap .i64 (Int.fdiv (IntKind.wrap .u64 (IntKind.wrap .i64 (s4.1+s4.2))) 2)) Ua EX) fun y7=>
  bif (!y7)then
   some (.next ((IntKind.wrap .i64 ((IntKind.wrap .i64 (Int.fdiv (IntKind.wrap .u64 (IntKind.wrap .i64 (s4.1+s4.2))) 2))+(1:Int))),s4.2))
  else
   some (.next (s4.1,(IntKind.wrap .i64 (Int.fdiv (IntKind.wrap .u64 (IntKind.wrap .i64 (s4.1+s4.2))) 2))))
 else
  some (.done s4.1)
noncomputable def GK (p_n:Int) (Ua:Ab) (EX:Int):Option Int:=
 Option.bind (
  iter (EH Ua EX) ((0:Int),p_n):Option Int) fun s1=>
 some s1
noncomputable def Nr (y1:Int) (s2:Bool):Option Int:=
 bif s2 then
  some (-1:Int)
 else
  some y1
noncomputable def NP (AQ:Ab) (p_r:Int):Option Int:=
 Option.bind (GK ((AQ.Ad.length:Nat):Int) AQ p_r) fun y1=>
 Option.bind (
  bif (y1==((AQ.Ad.length:Nat):Int))then
   some true
  else
   if 0<=y1/\y1<((AQ.Ad.length:Nat):Int)then
    some ((AQ.Ad.getD (y1.toNat) Ac).Bd != p_r)
   else none:Option Bool) fun s2=>
 Nr y1 s2
noncomputable def DN (s2:(List Int)×Int×Int):Option (Stp ((List Int)×Int×Int) (List Int)):=
 bif (decide (s2.2.1<s2.2.2))then
  if 0<=s2.2.2/\s2.2.2<((s2.1.length:Nat):Int)then
   if 0<=s2.2.1/\s2.2.1<((s2.1.length:Nat):Int)then
    if 0<=s2.2.1/\s2.2.1<((s2.1.length:Nat):Int)then
     if 0<=s2.2.2/\s2.2.2<((s2.1.length:Nat):Int)then
      some (.next (((s2.1.set (s2.2.1.toNat) (s2.1.getD (s2.2.2.toNat) 0)).set (s2.2.2.toNat) (s2.1.getD (s2.2.1.toNat) 0)),(IntKind.wrap .i64 (s2.2.1+(1:Int))),(IntKind.wrap .i64 (s2.2.2-(1:Int)))))
     else none
    else none
   else none
  else none
 else
  some (.done s2.1)
noncomputable def F7 (BA:(List Int)):Option (List Int):=
 Option.bind (iter (DN) (BA,(0:Int),(IntKind.wrap .i64 (((BA.length:Nat):Int)-(1:Int))))) fun s5=>
 some s5
noncomputable def VK (s2:Int×(List Int)):Option (List Int):=
 Option.bind (F7 s2.2) fun y4=>
 if y4.length=s2.2.length then
  if(1+s2.2.length)*4<=140737488355328 then
   some ([s2.1]++y4)
  else none
 else none
noncomputable def Nq (AQ:Ab) (s6:Int×(List Int)×Int) (y9:Int) (s10:Bool):Option (Stp (Int×(List Int)×Int) (Int×(List Int))):=
 bif s10 then
  some (.done (s6.1,s6.2.1))
 else
  if 0<=y9/\y9<((AQ.Ad.length:Nat):Int)then
   bif ((((AQ.Ad.getD (y9.toNat) Ac).Bp.length:Nat):Int)==(2:Int))then
    if 0<=(1:Int)/\(1:Int)<(((AQ.Ad.getD (y9.toNat) Ac).Bp.length:Nat):Int)then
     if(s6.2.1.length+1)*4<=140737488355328 then
      if 0<=(0:Int)/\(0:Int)<(((AQ.Ad.getD (y9.toNat) Ac).Bp.length:Nat):Int)then
       some (.next (((AQ.Ad.getD (y9.toNat) Ac).Bp.getD 0 0),(s6.2.1++ [((AQ.Ad.getD (y9.toNat) Ac).Bp.getD 1 0)]),(IntKind.wrap .i64 (s6.2.2+(1:Int)))))
      else none
     else none
    else none
   else
    if 0<=(0:Int)/\(0:Int)<(((AQ.Ad.getD (y9.toNat) Ac).Bp.length:Nat):Int)then
     some (.next (((AQ.Ad.getD (y9.toNat) Ac).Bp.getD 0 0),s6.2.1,(IntKind.wrap .i64 (s6.2.2+(1:Int)))))
    else none
  else none
noncomputable def Hq (AQ:Ab) (s6:Int×(List Int)×Int):Option (Stp (Int×(List Int)×Int) (Int×(List Int))):=
 bif (decide (s6.2.2<=(8:Int)))then
  Option.bind (NP AQ s6.1) fun y9=>
  Option.bind (
   bif (decide (y9<(0:Int)))then
    some true
   else
    if 0<=y9/\y9<((AQ.Ad.length:Nat):Int)then
     some ((((AQ.Ad.getD (y9.toNat) Ac).Bp.length:Nat):Int)==(0:Int))
    else none:Option Bool) fun s10=>
  Nq AQ s6 y9 s10
 else
  some (.done (s6.1,s6.2.1))
noncomputable def Lx (AQ:Ab) (p_r:Int):Option (List Int):=
 Option.bind (J5 p_r) fun y1=>
 bif (y1==(4:Int))then
  bif (decide ((Int.tmod (IntKind.wrap .i64 ((IntKind.wrap .i64 p_r)-(44032:Int))) (28:Int))>(0:Int)))then
   some ([(IntKind.wrap .i32 (IntKind.wrap .i64 ((4352:Int)+(IntKind.wrap .i64 (Int.tdiv (IntKind.wrap .i64 ((IntKind.wrap .i64 p_r)-(44032:Int))) (588:Int)))))),(IntKind.wrap .i32 (IntKind.wrap .i64 ((4449:Int)+(Int.tmod (IntKind.wrap .i64 (Int.tdiv (IntKind.wrap .i64 ((IntKind.wrap .i64 p_r)-(44032:Int))) (28:Int))) (21:Int)))))]++ [(IntKind.wrap .i32 (IntKind.wrap .i64 ((4519:Int)+(Int.tmod (IntKind.wrap .i64 ((IntKind.wrap .i64 p_r)-(44032:Int))) (28:Int)))))])
  else
   some [(IntKind.wrap .i32 (IntKind.wrap .i64 ((4352:Int)+(IntKind.wrap .i64 (Int.tdiv (IntKind.wrap .i64 ((IntKind.wrap .i64 p_r)-(44032:Int))) (588:Int)))))),(IntKind.wrap .i32 (IntKind.wrap .i64 ((4449:Int)+(Int.tmod (IntKind.wrap .i64 (Int.tdiv (IntKind.wrap .i64 ((IntKind.wrap .i64 p_r)-(44032:Int))) (28:Int))) (21:Int)))))]
 else
  Option.bind (
   iter (Hq AQ) (p_r,[],(0:Int)):Option (Int×(List Int))) fun s2=>
  VK s2
noncomputable def FB (BA:(List Int)):Option (List Int):=
 if(0+BA.length)*4<=140737488355328 then
  some BA
 else none
noncomputable def Pw:Option (List Int):=
 some []
noncomputable def Gw (BA:(List Int)):Option (List Int):=FB BA
noncomputable def L8 (YF:Int) (DW:(List Ap)) (EX:Int):Option Bool:=
 if 0<=YF/\YF<((DW.length:Nat):Int)then
  some (decide ((DW.getD (YF.toNat) Ai).GD>=EX))
 else none
noncomputable def EJ (Ua:(List Ap)) (EX:Int) (s4:Int×Int):Option (Stp (Int×Int) Int):=
 bif (decide (s4.1<s4.2))then
  Option.bind (L8 (IntKind.wrap .i64 (Int.fdiv (IntKind.wrap .u64 (IntKind.wrap .i64 (s4.1+s4.2))) 2)) Ua EX) fun y7=>
  bif (!y7)then
   some (.next ((IntKind.wrap .i64 ((IntKind.wrap .i64 (Int.fdiv (IntKind.wrap .u64 (IntKind.wrap .i64 (s4.1+s4.2))) 2))+(1:Int))),s4.2))
  else
   some (.next (s4.1,(IntKind.wrap .i64 (Int.fdiv (IntKind.wrap .u64 (IntKind.wrap .i64 (s4.1+s4.2))) 2))))
 else
  some (.done s4.1)
noncomputable def GN (p_n:Int) (Ua:(List Ap)) (EX:Int):Option Int:=
 Option.bind (
  iter (EJ Ua EX) ((0:Int),p_n):Option Int) fun s1=>
 some s1
noncomputable def Nt (AZ:(List Ap)) (y1:Int) (s2:Bool):Option (Int×Bool):=
 bif s2 then
  some ((0:Int),false)
 else
  if 0<=y1/\y1<((AZ.length:Nat):Int)then
   some ((AZ.getD (y1.toNat) Ai).CP,true)
  else none
noncomputable def Io (AZ:(List Ap)) (p_r:Int):Option (Int×Bool):=
 Option.bind (GN ((AZ.length:Nat):Int) AZ p_r) fun y1=>
 Option.bind (
  bif (y1==((AZ.length:Nat):Int))then
   some true
  else
   if 0<=y1/\y1<((AZ.length:Nat):Int)then
    some (decide ((AZ.getD (y1.toNat) Ai).GQ>p_r))
   else none:Option Bool) fun s2=>
 Nt AZ y1 s2
noncomputable def EF (AQ:Ab) (p_r:Int):Option Int:=
 Option.bind (Io AQ.Au p_r) fun y1=>
 some y1.1
noncomputable def Ig (AL:Int) (Bq:Int) (EX:Ab):Option Int:=
 Option.bind (EF EX AL) fun y1=>
 Option.bind (EF EX Bq) fun y2=>
 some (IntKind.wrap .i64 (y1-y2))
noncomputable def Fb (Ak:Nat) (Aj:Nat) (s8:(List Int)×Int) (s11:Bool):Option (Stp ((List Int)×Int) (List Int)):=
 bif s11 then
  if 0<=(IntKind.wrap .i64 (s8.2-(1:Int)))/\(IntKind.wrap .i64 (s8.2-(1:Int)))<((Aj:Nat):Int)then
   if 0<=s8.2/\s8.2<((Aj:Nat):Int)then
    if 0<=s8.2/\s8.2<((Aj:Nat):Int)then
     if 0<=(IntKind.wrap .i64 (s8.2-(1:Int)))/\(IntKind.wrap .i64 (s8.2-(1:Int)))<((Aj:Nat):Int)then
      some (.next (((s8.1.set (Ak+(s8.2.toNat)) (s8.1.getD (Ak+((IntKind.wrap .i64 (s8.2-(1:Int))).toNat)) 0)).set (Ak+((IntKind.wrap .i64 (s8.2-(1:Int))).toNat)) (s8.1.getD (Ak+(s8.2.toNat)) 0)),(IntKind.wrap .i64 (s8.2-(1:Int)))))
     else none
    else none
   else none
  else none
 else
  some (.done s8.1)
noncomputable def Cz (Ak:Nat) (Aj:Nat) (AL:Int) (Ar:Ab) (s8:(List Int)×Int):Option (Stp ((List Int)×Int) (List Int)):=
 Option.bind (
  bif (decide (s8.2>AL))then
   if 0<=s8.2/\s8.2<((Aj:Nat):Int)then
    if 0<=(IntKind.wrap .i64 (s8.2-(1:Int)))/\(IntKind.wrap .i64 (s8.2-(1:Int)))<((Aj:Nat):Int)then
     Option.bind (Ig (s8.1.getD (Ak+(s8.2.toNat)) 0) (s8.1.getD (Ak+((IntKind.wrap .i64 (s8.2-(1:Int))).toNat)) 0) Ar) fun y13=>
     some (decide (y13<(0:Int)))
    else none
   else none
  else
   some false:Option Bool) fun s11=>
 Fb Ak Aj s8 s11
noncomputable def BO (Ak:Nat) (Aj:Nat) (AL:Int) (Bq:Int) (Ar:Ab) (s2:(List Int)×Int):Option (Stp ((List Int)×Int) (List Int)):=
 bif (decide (s2.2<Bq))then
  Option.bind (
   iter (Cz Ak Aj AL Ar) (s2.1,s2.2):Option (List Int)) fun s5=>
  some (.next (s5,(IntKind.wrap .i64 (s2.2+(1:Int)))))
 else
  some (.done s2.1)
noncomputable def C8 (Ae:(List Int)) (Ak:Nat) (Aj:Nat) (AL:Int) (Bq:Int) (Ar:Ab):Option (List Int):=
 Option.bind (iter (BO Ak Aj AL Bq Ar) (Ae,(IntKind.wrap .i64 (AL+(1:Int))))) fun s15=>
 some s15
noncomputable def Cj (Ak:Nat) (Aj:Nat) (AL:Int) (Bq:Int) (p_n:Int) (s2:(List Int)×Int):Option (Stp ((List Int)×Int) (List Int)):=
 bif (decide (s2.2<p_n))then
  if 0<=(IntKind.wrap .i64 (Bq+s2.2))/\(IntKind.wrap .i64 (Bq+s2.2))<((Aj:Nat):Int)then
   if 0<=(IntKind.wrap .i64 (AL+s2.2))/\(IntKind.wrap .i64 (AL+s2.2))<((Aj:Nat):Int)then
    if 0<=(IntKind.wrap .i64 (AL+s2.2))/\(IntKind.wrap .i64 (AL+s2.2))<((Aj:Nat):Int)then
     if 0<=(IntKind.wrap .i64 (Bq+s2.2))/\(IntKind.wrap .i64 (Bq+s2.2))<((Aj:Nat):Int)then
      some (.next (((s2.1.set (Ak+((IntKind.wrap .i64 (AL+s2.2)).toNat)) (s2.1.getD (Ak+((IntKind.wrap .i64 (Bq+s2.2)).toNat)) 0)).set (Ak+((IntKind.wrap .i64 (Bq+s2.2)).toNat)) (s2.1.getD (Ak+((IntKind.wrap .i64 (AL+s2.2)).toNat)) 0)),(IntKind.wrap .i64 (s2.2+(1:Int)))))
     else none
    else none
   else none
  else none
 else
  some (.done s2.1)
noncomputable def CU (Ae:(List Int)) (Ak:Nat) (Aj:Nat) (AL:Int) (Bq:Int) (p_n:Int) (Ar:Ab):Option (List Int):=
 Option.bind (iter (Cj Ak Aj AL Bq p_n) (Ae,(0:Int))) fun s5=>
 some s5
noncomputable def JF (Ak:Nat) (Aj:Nat) (Jd:Int) (Ar:Ab) (s1:(List Int)×Int):Option (List Int):=
 Option.bind (CU s1.1 Ak Aj (IntKind.wrap .i64 (Jd-s1.2)) Jd s1.2 Ar) fun y3=>
 if y3.length=s1.1.length then
  some y3
 else none
noncomputable def BK (Ak:Nat) (Aj:Nat) (Jd:Int) (Ar:Ab) (s5:(List Int)×Int×Int):Option (Stp ((List Int)×Int×Int) ((List Int)×Int)):=
 bif (s5.2.1 != s5.2.2)then
  bif (decide (s5.2.1>s5.2.2))then
   Option.bind (CU s5.1 Ak Aj (IntKind.wrap .i64 (Jd-s5.2.1)) Jd s5.2.2 Ar) fun y8=>
   if y8.length=s5.1.length then
    some (.next (y8,(IntKind.wrap .i64 (s5.2.1-s5.2.2)),s5.2.2))
   else none
  else
   Option.bind (CU s5.1 Ak Aj (IntKind.wrap .i64 (Jd-s5.2.1)) (IntKind.wrap .i64 ((IntKind.wrap .i64 (Jd+s5.2.2))-s5.2.1)) s5.2.1 Ar) fun y9=>
   if y9.length=s5.1.length then
    some (.next (y9,s5.2.1,(IntKind.wrap .i64 (s5.2.2-s5.2.1))))
   else none
 else
  some (.done (s5.1,s5.2.1))
noncomputable def FJ (Ae:(List Int)) (Ak:Nat) (Aj:Nat) (AL:Int) (Jd:Int) (Bq:Int) (Ar:Ab):Option (List Int):=
 Option.bind (
  iter (BK Ak Aj Jd Ar) (Ae,(IntKind.wrap .i64 (Jd-AL)),(IntKind.wrap .i64 (Bq-Jd))):Option ((List Int)×Int)) fun s1=>
 JF Ak Aj Jd Ar s1
noncomputable def IX (Ak:Nat) (Aj:Nat) (AL:Int) (Jd:Int) (Bq:Int) (Ar:Ab) (IB:(List Int)->Nat->Nat->Int->Int->Int->Ab->Option (List Int)) (s7:Int) (s11:(List Int)) (s13:Bool):Option (List Int):=
 bif s13 then
  Option.bind (IB s11 Ak Aj (IntKind.wrap .i64 (Int.fdiv (IntKind.wrap .u64 (IntKind.wrap .i64 (AL+Bq))) 2)) (IntKind.wrap .i64 ((IntKind.wrap .i64 ((IntKind.wrap .i64 (Int.fdiv (IntKind.wrap .u64 (IntKind.wrap .i64 (AL+Bq))) 2))+Jd))-s7)) Bq Ar) fun rW=>
  if rW.length=s11.length then
   some rW
  else none
 else
  some s11
noncomputable def IW (Ak:Nat) (Aj:Nat) (AL:Int) (Jd:Int) (Bq:Int) (Ar:Ab) (IB:(List Int)->Nat->Nat->Int->Int->Int->Ab->Option (List Int)) (s7:Int) (s11:(List Int)):Option (List Int):=
 Option.bind (
  bif (decide ((IntKind.wrap .i64 (Int.fdiv (IntKind.wrap .u64 (IntKind.wrap .i64 (AL+Bq))) 2))<(IntKind.wrap .i64 ((IntKind.wrap .i64 ((IntKind.wrap .i64 (Int.fdiv (IntKind.wrap .u64 (IntKind.wrap .i64 (AL+Bq))) 2))+Jd))-s7))))then
   some (decide ((IntKind.wrap .i64 ((IntKind.wrap .i64 ((IntKind.wrap .i64 (Int.fdiv (IntKind.wrap .u64 (IntKind.wrap .i64 (AL+Bq))) 2))+Jd))-s7))<Bq))
  else
   some false:Option Bool) fun s13=>
 IX Ak Aj AL Jd Bq Ar IB s7 s11 s13
noncomputable def Gb (Ak:Nat) (Aj:Nat) (AL:Int) (Bq:Int) (Ar:Ab) (IB:(List Int)->Nat->Nat->Int->Int->Int->Ab->Option (List Int)) (s7:Int) (s9:(List Int)) (s16:Bool):Option (List Int):=
 bif s16 then
  Option.bind (IB s9 Ak Aj AL s7 (IntKind.wrap .i64 (Int.fdiv (IntKind.wrap .u64 (IntKind.wrap .i64 (AL+Bq))) 2)) Ar) fun nO=>
  if nO.length=s9.length then
   some nO
  else none
 else
  some s9
noncomputable def IV (Ak:Nat) (Aj:Nat) (AL:Int) (Jd:Int) (Bq:Int) (Ar:Ab) (IB:(List Int)->Nat->Nat->Int->Int->Int->Ab->Option (List Int)) (s7:Int) (s9:(List Int)):Option (List Int):=
 Option.bind (
  Option.bind (
   bif (decide (AL<s7))then
    some (decide (s7<(IntKind.wrap .i64 (Int.fdiv (IntKind.wrap .u64 (IntKind.wrap .i64 (AL+Bq))) 2))))
   else
    some false:Option Bool) fun s16=>
  Gb Ak Aj AL Bq Ar IB s7 s9 s16:Option (List Int)) fun s11=>
 IW Ak Aj AL Jd Bq Ar IB s7 s11
noncomputable def Gc (Ae:(List Int)) (Ak:Nat) (Aj:Nat) (AL:Int) (Jd:Int) (Bq:Int) (Ar:Ab) (s7:Int) (Vv:Bool):Option (List Int):=
 bif Vv then
  Option.bind (FJ Ae Ak Aj s7 Jd (IntKind.wrap .i64 ((IntKind.wrap .i64 ((IntKind.wrap .i64 (Int.fdiv (IntKind.wrap .u64 (IntKind.wrap .i64 (AL+Bq))) 2))+Jd))-s7)) Ar) fun y21=>
  if y21.length=Ae.length then
   some y21
  else none
 else
  some Ae
noncomputable def Gj (Ae:(List Int)) (Ak:Nat) (Aj:Nat) (AL:Int) (Jd:Int) (Bq:Int) (Ar:Ab) (IB:(List Int)->Nat->Nat->Int->Int->Int->Ab->Option (List Int)) (s7:Int):Option (List Int):=
 Option.bind (
  Option.bind (
   bif (decide (s7<Jd))then
    some (decide (Jd<(IntKind.wrap .i64 ((IntKind.wrap .i64 ((IntKind.wrap .i64 (Int.fdiv (IntKind.wrap .u64 (IntKind.wrap .i64 (AL+Bq))) 2))+Jd))-s7))))
   else
    some false:Option Bool) fun Vv=>
  Gc Ae Ak Aj AL Jd Bq Ar s7 Vv:Option (List Int)) fun s9=>
 IV Ak Aj AL Jd Bq Ar IB s7 s9
noncomputable def Dh (Ae:(List Int)) (Ak:Nat) (Aj:Nat) (AL:Int) (Jd:Int) (Bq:Int) (Ar:Ab) (Kr:Int×Int):Option (Stp (Int×Int) Int):=
 bif (decide (Kr.1<Kr.2))then
  if 0<=(IntKind.wrap .i64 ((IntKind.wrap .i64 ((IntKind.wrap .i64 ((IntKind.wrap .i64 (Int.fdiv (IntKind.wrap .u64 (IntKind.wrap .i64 (AL+Bq))) 2))+Jd))-(1:Int)))-(IntKind.wrap .i64 (Int.fdiv (IntKind.wrap .u64 (IntKind.wrap .i64 (Kr.1+Kr.2))) 2))))/\(IntKind.wrap .i64 ((IntKind.wrap .i64 ((IntKind.wrap .i64 ((IntKind.wrap .i64 (Int.fdiv (IntKind.wrap .u64 (IntKind.wrap .i64 (AL+Bq))) 2))+Jd))-(1:Int)))-(IntKind.wrap .i64 (Int.fdiv (IntKind.wrap .u64 (IntKind.wrap .i64 (Kr.1+Kr.2))) 2))))<((Aj:Nat):Int)then
   if 0<=(IntKind.wrap .i64 (Int.fdiv (IntKind.wrap .u64 (IntKind.wrap .i64 (Kr.1+Kr.2))) 2))/\(IntKind.wrap .i64 (Int.fdiv (IntKind.wrap .u64 (IntKind.wrap .i64 (Kr.1+Kr.2))) 2))<((Aj:Nat):Int)then
    Option.bind (Ig (Ae.getD (Ak+((IntKind.wrap .i64 ((IntKind.wrap .i64 ((IntKind.wrap .i64 ((IntKind.wrap .i64 (Int.fdiv (IntKind.wrap .u64 (IntKind.wrap .i64 (AL+Bq))) 2))+Jd))-(1:Int)))-(IntKind.wrap .i64 (Int.fdiv (IntKind.wrap .u64 (IntKind.wrap .i64 (Kr.1+Kr.2))) 2)))).toNat)) 0) (Ae.getD (Ak+((IntKind.wrap .i64 (Int.fdiv (IntKind.wrap .u64 (IntKind.wrap .i64 (Kr.1+Kr.2))) 2)).toNat)) 0) Ar) fun wL=>
    bif (!(decide (wL<(0:Int))))then
     some (.next ((IntKind.wrap .i64 ((IntKind.wrap .i64 (Int.fdiv (IntKind.wrap .u64 (IntKind.wrap .i64 (Kr.1+Kr.2))) 2))+(1:Int))),Kr.2))
    else
     some (.next (Kr.1,(IntKind.wrap .i64 (Int.fdiv (IntKind.wrap .u64 (IntKind.wrap .i64 (Kr.1+Kr.2))) 2))))
   else none
  else none
 else
  some (.done Kr.1)
noncomputable def Gi (Ae:(List Int)) (Ak:Nat) (Aj:Nat) (AL:Int) (Jd:Int) (Bq:Int) (Ar:Ab) (IB:(List Int)->Nat->Nat->Int->Int->Int->Ab->Option (List Int)) (s5:Int×Int):Option (List Int):=
 Option.bind (
  iter (Dh Ae Ak Aj AL Jd Bq Ar) (s5.1,s5.2):Option Int) fun s7=>
 Gj Ae Ak Aj AL Jd Bq Ar IB s7
noncomputable def Gg (Ae:(List Int)) (Ak:Nat) (Aj:Nat) (AL:Int) (Jd:Int) (Bq:Int) (Ar:Ab) (IB:(List Int)->Nat->Nat->Int->Int->Int->Ab->Option (List Int)) (s3:Unit):Option (List Int):=
 Option.bind (
  bif (decide (Jd>(IntKind.wrap .i64 (Int.fdiv (IntKind.wrap .u64 (IntKind.wrap .i64 (AL+Bq))) 2))))then
   some ((IntKind.wrap .i64 ((IntKind.wrap .i64 ((IntKind.wrap .i64 (Int.fdiv (IntKind.wrap .u64 (IntKind.wrap .i64 (AL+Bq))) 2))+Jd))-Bq)),(IntKind.wrap .i64 (Int.fdiv (IntKind.wrap .u64 (IntKind.wrap .i64 (AL+Bq))) 2)))
  else
   some (AL,Jd):Option (Int×Int)) fun s5=>
 Gi Ae Ak Aj AL Jd Bq Ar IB s5
noncomputable def Ck (Ak:Nat) (Aj:Nat) (gJ:Int) (ZH:(List Int)×Int):Option (Stp ((List Int)×Int) (List Int)):=
 bif (decide (ZH.2>gJ))then
  if 0<=(IntKind.wrap .i64 (ZH.2-(1:Int)))/\(IntKind.wrap .i64 (ZH.2-(1:Int)))<((Aj:Nat):Int)then
   if 0<=ZH.2/\ZH.2<((Aj:Nat):Int)then
    if 0<=ZH.2/\ZH.2<((Aj:Nat):Int)then
     if 0<=(IntKind.wrap .i64 (ZH.2-(1:Int)))/\(IntKind.wrap .i64 (ZH.2-(1:Int)))<((Aj:Nat):Int)then
      some (.next (((ZH.1.set (Ak+(ZH.2.toNat)) (ZH.1.getD (Ak+((IntKind.wrap .i64 (ZH.2-(1:Int))).toNat)) 0)).set (Ak+((IntKind.wrap .i64 (ZH.2-(1:Int))).toNat)) (ZH.1.getD (Ak+(ZH.2.toNat)) 0)),(IntKind.wrap .i64 (ZH.2-(1:Int)))))
     else none
    else none
   else none
  else none
 else
  some (.done ZH.1)
noncomputable def IY (Ae:(List Int)) (Ak:Nat) (Aj:Nat) (Jd:Int) (gJ:Int):Option (Sum Unit (List Int)):=
 Option.bind (iter (Ck Ak Aj gJ) (Ae,Jd)) fun s34=>
 some (.inr s34)
noncomputable def Es (Ae:(List Int)) (Ak:Nat) (Aj:Nat) (Jd:Int) (Ar:Ab) (bK:Int×Int):Option (Stp (Int×Int) Int):=
 bif (decide (bK.1<bK.2))then
  if 0<=Jd/\Jd<((Aj:Nat):Int)then
   if 0<=(IntKind.wrap .i64 (Int.fdiv (IntKind.wrap .u64 (IntKind.wrap .i64 (bK.1+bK.2))) 2))/\(IntKind.wrap .i64 (Int.fdiv (IntKind.wrap .u64 (IntKind.wrap .i64 (bK.1+bK.2))) 2))<((Aj:Nat):Int)then
    Option.bind (Ig (Ae.getD (Ak+(Jd.toNat)) 0) (Ae.getD (Ak+((IntKind.wrap .i64 (Int.fdiv (IntKind.wrap .u64 (IntKind.wrap .i64 (bK.1+bK.2))) 2)).toNat)) 0) Ar) fun y39=>
    bif (!(decide (y39<(0:Int))))then
     some (.next ((IntKind.wrap .i64 ((IntKind.wrap .i64 (Int.fdiv (IntKind.wrap .u64 (IntKind.wrap .i64 (bK.1+bK.2))) 2))+(1:Int))),bK.2))
    else
     some (.next (bK.1,(IntKind.wrap .i64 (Int.fdiv (IntKind.wrap .u64 (IntKind.wrap .i64 (bK.1+bK.2))) 2))))
   else none
  else none
 else
  some (.done bK.1)
noncomputable def Ez (Ae:(List Int)) (Ak:Nat) (Aj:Nat) (AL:Int) (Jd:Int) (Bq:Int) (Ar:Ab) (IB:(List Int)->Nat->Nat->Int->Int->Int->Ab->Option (List Int)) (s1:Unit):Option (List Int):=
 Option.bind (
  bif ((IntKind.wrap .i64 (Bq-Jd))==(1:Int))then
   Option.bind (
    iter (Es Ae Ak Aj Jd Ar) (AL,Jd):Option Int) fun gJ=>
   IY Ae Ak Aj Jd gJ
  else
   some (.inl ()):Option (Sum Unit (List Int))) fun z=>
 match z with
 | .inl s3=>
  Gg Ae Ak Aj AL Jd Bq Ar IB s3
 | .inr (v41)=>
  some v41
noncomputable def Cm (Ak:Nat) (Aj:Nat) (s42:Int) (nR:(List Int)×Int):Option (Stp ((List Int)×Int) (List Int)):=
 bif (decide (nR.2<(IntKind.wrap .i64 (s42-(1:Int)))))then
  if 0<=(IntKind.wrap .i64 (nR.2+(1:Int)))/\(IntKind.wrap .i64 (nR.2+(1:Int)))<((Aj:Nat):Int)then
   if 0<=nR.2/\nR.2<((Aj:Nat):Int)then
    if 0<=nR.2/\nR.2<((Aj:Nat):Int)then
     if 0<=(IntKind.wrap .i64 (nR.2+(1:Int)))/\(IntKind.wrap .i64 (nR.2+(1:Int)))<((Aj:Nat):Int)then
      some (.next (((nR.1.set (Ak+(nR.2.toNat)) (nR.1.getD (Ak+((IntKind.wrap .i64 (nR.2+(1:Int))).toNat)) 0)).set (Ak+((IntKind.wrap .i64 (nR.2+(1:Int))).toNat)) (nR.1.getD (Ak+(nR.2.toNat)) 0)),(IntKind.wrap .i64 (nR.2+(1:Int)))))
     else none
    else none
   else none
  else none
 else
  some (.done nR.1)
noncomputable def IZ (Ae:(List Int)) (Ak:Nat) (Aj:Nat) (AL:Int) (s42:Int):Option (Sum Unit (List Int)):=
 Option.bind (iter (Cm Ak Aj s42) (Ae,AL)) fun s48=>
 some (.inr s48)
noncomputable def Et (Ae:(List Int)) (Ak:Nat) (Aj:Nat) (AL:Int) (Ar:Ab) (rO:Int×Int):Option (Stp (Int×Int) Int):=
 bif (decide (rO.1<rO.2))then
  if 0<=(IntKind.wrap .i64 (Int.fdiv (IntKind.wrap .u64 (IntKind.wrap .i64 (rO.1+rO.2))) 2))/\(IntKind.wrap .i64 (Int.fdiv (IntKind.wrap .u64 (IntKind.wrap .i64 (rO.1+rO.2))) 2))<((Aj:Nat):Int)then
   if 0<=AL/\AL<((Aj:Nat):Int)then
    Option.bind (Ig (Ae.getD (Ak+((IntKind.wrap .i64 (Int.fdiv (IntKind.wrap .u64 (IntKind.wrap .i64 (rO.1+rO.2))) 2)).toNat)) 0) (Ae.getD (Ak+(AL.toNat)) 0) Ar) fun y53=>
    bif (decide (y53<(0:Int)))then
     some (.next ((IntKind.wrap .i64 ((IntKind.wrap .i64 (Int.fdiv (IntKind.wrap .u64 (IntKind.wrap .i64 (rO.1+rO.2))) 2))+(1:Int))),rO.2))
    else
     some (.next (rO.1,(IntKind.wrap .i64 (Int.fdiv (IntKind.wrap .u64 (IntKind.wrap .i64 (rO.1+rO.2))) 2))))
   else none
  else none
 else
  some (.done rO.1)
noncomputable def BD (IB:(List Int)->Nat->Nat->Int->Int->Int->Ab->Option (List Int)) (Ae:(List Int)) (Ak:Nat) (Aj:Nat) (AL:Int) (Jd:Int) (Bq:Int) (Ar:Ab):Option (List Int):=
 Option.bind (
  bif ((IntKind.wrap .i64 (Jd-AL))==(1:Int))then
   Option.bind (
    iter (Et Ae Ak Aj AL Ar) (Jd,Bq):Option Int) fun s42=>
   IZ Ae Ak Aj AL s42
  else
   some (.inl ()):Option (Sum Unit (List Int))) fun z=>
 match z with
 | .inl s1=>
  Ez Ae Ak Aj AL Jd Bq Ar IB s1
 | .inr (v55)=>
  some v55
noncomputable def Bu:Nat->(List Int)->Nat->Nat->Int->Int->Int->Ab->Option (List Int)
 |0=>fun _ _ _ _ _ _ _=>none
 |n+1=>BD (Bu n)
noncomputable def CY (Ae:(List Int)) (Ak:Nat) (Aj:Nat) (AL:Int) (Jd:Int) (Bq:Int) (Ar:Ab):Option (List Int):=
 match Bu 3 Ae Ak Aj AL Jd Bq Ar with
 |some r=>some r
 |none=> @dite _ (∃n,(Bu n Ae Ak Aj AL Jd Bq Ar).isSome=true) (Classical.propDecidable _) (fun h=>Bu (Classical.choose h) Ae Ak Aj AL Jd Bq Ar) (fun _=>none)
noncomputable def JH (Ak:Nat) (Aj:Nat) (p_n:Int) (Ar:Ab) (s5:(List Int)×Int) (s8:(List Int)×Int):Option (Stp ((List Int)×Int) (List Int)):=
 bif (decide ((IntKind.wrap .i64 (s8.2+s5.2))<p_n))then
  Option.bind (CY s8.1 Ak Aj s8.2 (IntKind.wrap .i64 (s8.2+s5.2)) p_n Ar) fun Rf=>
  if Rf.length=s8.1.length then
   some (.next (Rf,(IntKind.wrap .i64 (s5.2*(2:Int)))))
  else none
 else
  some (.next (s8.1,(IntKind.wrap .i64 (s5.2*(2:Int)))))
noncomputable def BI (Ak:Nat) (Aj:Nat) (p_n:Int) (Ar:Ab) (s5:(List Int)×Int) (s12:(List Int)×Int×Int):Option (Stp ((List Int)×Int×Int) ((List Int)×Int)):=
 bif (decide (s12.2.2<=p_n))then
  Option.bind (CY s12.1 Ak Aj s12.2.1 (IntKind.wrap .i64 (s12.2.1+s5.2)) s12.2.2 Ar) fun rW=>
  if rW.length=s12.1.length then
   some (.next (rW,s12.2.2,(IntKind.wrap .i64 (s12.2.2+(IntKind.wrap .i64 ((2:Int)*s5.2))))))
  else none
 else
  some (.done (s12.1,s12.2.1))
noncomputable def Cc (Ak:Nat) (Aj:Nat) (p_n:Int) (Ar:Ab) (s5:(List Int)×Int):Option (Stp ((List Int)×Int) (List Int)):=
 bif (decide (s5.2<p_n))then
  Option.bind (
   iter (BI Ak Aj p_n Ar s5) (s5.1,(0:Int),(IntKind.wrap .i64 ((2:Int)*s5.2))):Option ((List Int)×Int)) fun s8=>
  JH Ak Aj p_n Ar s5 s8
 else
  some (.done s5.1)
noncomputable def JG (Ak:Nat) (Aj:Nat) (p_n:Int) (Ar:Ab) (s1:(List Int)×Int):Option (List Int):=
 Option.bind (C8 s1.1 Ak Aj s1.2 p_n Ar) fun y3=>
 if y3.length=s1.1.length then
  Option.bind (iter (Cc Ak Aj p_n Ar) (y3,(20:Int))) fun rM=>
  some rM
 else none
noncomputable def BJ (Ak:Nat) (Aj:Nat) (p_n:Int) (Ar:Ab) (Vv:(List Int)×Int×Int):Option (Stp ((List Int)×Int×Int) ((List Int)×Int)):=
 bif (decide (Vv.2.2<=p_n))then
  Option.bind (C8 Vv.1 Ak Aj Vv.2.1 Vv.2.2 Ar) fun y22=>
  if y22.length=Vv.1.length then
   some (.next (y22,Vv.2.2,(IntKind.wrap .i64 (Vv.2.2+(20:Int)))))
  else none
 else
  some (.done (Vv.1,Vv.2.1))
noncomputable def HY (Ae:(List Int)) (Ak:Nat) (Aj:Nat) (p_n:Int) (Ar:Ab):Option (List Int):=
 Option.bind (
  iter (BJ Ak Aj p_n Ar) (Ae,(0:Int),(20:Int)):Option ((List Int)×Int)) fun s1=>
 JG Ak Aj p_n Ar s1
noncomputable def En (KA:(List Int)) (AcI:Nat) (zJ:Nat) (Ar:Ab):Option (List Int):=
 Option.bind (HY KA AcI zJ ((zJ:Nat):Int) Ar) fun y1=>
 if y1.length=KA.length then
  some y1
 else none
noncomputable def TP (AQ:Ab) (s5:(List Int)×Int) (s8:Int):Option (Stp ((List Int)×Int) (List Int)):=
 if 0<=s5.2/\s5.2<=s8/\s8<=((s5.1.length:Nat):Int)then
  Option.bind (En s5.1 (s5.2.toNat) ((s8.toNat)-(s5.2.toNat)) AQ) fun Rf=>
  if Rf.length=s5.1.length then
   some (.next (Rf,(IntKind.wrap .i64 (s8+(1:Int)))))
  else none
 else none
noncomputable def LA (s12:Int) (s15:Bool):Option (Stp Int Int):=
 bif s15 then
  some (.next (IntKind.wrap .i64 (s12+(1:Int))))
 else
  some (.done s12)
noncomputable def FM (AQ:Ab) (s5:(List Int)×Int) (s12:Int):Option (Stp Int Int):=
 Option.bind (
  bif (decide (s12<((s5.1.length:Nat):Int)))then
   if 0<=s12/\s12<((s5.1.length:Nat):Int)then
    Option.bind (EF AQ (s5.1.getD (s12.toNat) 0)) fun nN=>
    some (decide (nN>(0:Int)))
   else none
  else
   some false:Option Bool) fun s15=>
 LA s12 s15
noncomputable def GY (AQ:Ab) (s5:(List Int)×Int):Option (Stp ((List Int)×Int) (List Int)):=
 bif (decide (s5.2<((s5.1.length:Nat):Int)))then
  Option.bind (
   iter (FM AQ s5) s5.2:Option Int) fun s8=>
  TP AQ s5 s8
 else
  some (.done s5.1)
noncomputable def Pg (AQ:Ab) (AZ:(List Int)):Option (List Int):=
 Option.bind (Gw AZ) fun y1=>
 Option.bind (
  iter (GY AQ) (y1,(0:Int)):Option (List Int)) fun s2=>
 some s2
noncomputable def VJ (AQ:Ab) (s1:(List Int)):Option (List Int):=
 Option.bind (Pg AQ s1) fun y3=>
 some y3
noncomputable def J4 (AQ:Ab) (AZ:(List Int)) (s5:(List Int)×Int):Option (Stp ((List Int)×Int) (List Int)):=
 bif (decide (s5.2<((AZ.length:Nat):Int)))then
  if 0<=s5.2/\s5.2<((AZ.length:Nat):Int)then
   Option.bind (Lx AQ (AZ.getD (s5.2.toNat) 0)) fun y8=>
   if(s5.1.length+y8.length)*4<=140737488355328 then
    some (.next ((s5.1++y8),(IntKind.wrap .i64 (s5.2+(1:Int)))))
   else none
  else none
 else
  some (.done s5.1)
noncomputable def RJ (AQ:Ab) (AZ:(List Int)):Option (List Int):=
 Option.bind (
  iter (J4 AQ AZ) ([],(0:Int)):Option (List Int)) fun s1=>
 VJ AQ s1
noncomputable def Jo (p_r:Int) (lK:Int) (Ky:Int):Option Bool:=
 bif (decide (p_r>=lK))then
  some (decide ((IntKind.wrap .i64 (IntKind.wrap .i32 (p_r-lK)))<Ky))
 else
  some false
noncomputable def WB (p_r:Int):Option Bool:=
 Option.bind (Jo p_r (44032:Int) (11172:Int)) fun y1=>
 bif y1 then
  some ((Int.tmod (IntKind.wrap .i32 (p_r-(44032:Int))) (28:Int))==(0:Int))
 else
  some false
noncomputable def Qh (AL:Int) (Bq:Int) (s3:Bool):Option (Int×Bool):=
 bif s3 then
  some ((IntKind.wrap .i32 ((IntKind.wrap .i32 (AL+Bq))-(4519:Int))),true)
 else
  some ((0:Int),false)
noncomputable def UK (AL:Int) (Bq:Int) (s1:Bool):Option (Int×Bool):=
 bif s1 then
  some ((IntKind.wrap .i32 ((44032:Int)+(IntKind.wrap .i32 ((IntKind.wrap .i32 ((IntKind.wrap .i32 ((IntKind.wrap .i32 ((IntKind.wrap .i32 (AL-(4352:Int)))*(21:Int)))+Bq))-(4449:Int)))*(28:Int))))),true)
 else
  Option.bind (
   Option.bind (WB AL) fun y5=>
   bif y5 then
    Option.bind (Jo Bq (4520:Int) (27:Int)) fun y6=>
    some y6
   else
    some false:Option Bool) fun s3=>
  Qh AL Bq s3
noncomputable def Qx (AL:Int) (Bq:Int):Option (Int×Bool):=
 Option.bind (
  Option.bind (Jo AL (4352:Int) (19:Int)) fun y7=>
  bif y7 then
   Option.bind (Jo Bq (4449:Int) (21:Int)) fun y8=>
   some y8
  else
   some false:Option Bool) fun s1=>
 UK AL Bq s1
noncomputable def Jt (KA:Int):Option Bool:=
 some (KA != KA)
noncomputable def BN (KA:Int) (p_y:Int):Option Bool:=
 Option.bind (Jt KA) fun y1=>
 bif y1 then
  Option.bind (Jt p_y) fun y2=>
  bif (!y2)then
   some true
  else
   some (decide (KA<p_y))
 else
  some (decide (KA<p_y))
noncomputable def Jc (KA:Int):Option Bool:=
 some (KA != KA)
noncomputable def JD (KA:(List Int)) (L9:Int) (s1:Int):Option (Int×Bool):=
 bif (decide (s1<((KA.length:Nat):Int)))then
  if 0<=s1/\s1<((KA.length:Nat):Int)then
   bif ((KA.getD (s1.toNat) 0)==L9)then
    some (s1,true)
   else
    if 0<=s1/\s1<((KA.length:Nat):Int)then
     Option.bind (Jc (KA.getD (s1.toNat) 0)) fun y3=>
     bif y3 then
      Option.bind (Jc L9) fun y4=>
      some (s1,y4)
     else
      some (s1,false)
    else none
  else none
 else
  some (s1,false)
noncomputable def CS (KA:(List Int)) (L9:Int) (s6:Int×Int):Option (Stp (Int×Int) Int):=
 bif (decide (s6.1<s6.2))then
  if 0<=(IntKind.wrap .i64 (Int.fdiv (IntKind.wrap .u64 (IntKind.wrap .i64 (s6.1+s6.2))) 2))/\(IntKind.wrap .i64 (Int.fdiv (IntKind.wrap .u64 (IntKind.wrap .i64 (s6.1+s6.2))) 2))<((KA.length:Nat):Int)then
   Option.bind (BN (KA.getD ((IntKind.wrap .i64 (Int.fdiv (IntKind.wrap .u64 (IntKind.wrap .i64 (s6.1+s6.2))) 2)).toNat) 0) L9) fun y9=>
   bif y9 then
    some (.next ((IntKind.wrap .i64 ((IntKind.wrap .i64 (Int.fdiv (IntKind.wrap .u64 (IntKind.wrap .i64 (s6.1+s6.2))) 2))+(1:Int))),s6.2))
   else
    some (.next (s6.1,(IntKind.wrap .i64 (Int.fdiv (IntKind.wrap .u64 (IntKind.wrap .i64 (s6.1+s6.2))) 2))))
  else none
 else
  some (.done s6.1)
noncomputable def FI (KA:(List Int)) (L9:Int):Option (Int×Bool):=
 Option.bind (
  iter (CS KA L9) ((0:Int),((KA.length:Nat):Int)):Option Int) fun s1=>
 JD KA L9 s1
noncomputable def QG (AQ:Ab) (Nu:Int) (s1:Bool):Option Bool:=
 bif s1 then
  some false
 else
  if 0<=Nu/\Nu<((AQ.Ad.length:Nat):Int)then
   Option.bind (FI AQ.AJ ((AQ.Ad.getD (Nu.toNat) Ac).Bd)) fun y3=>
   bif (!y3.2)then
    Option.bind (EF AQ ((AQ.Ad.getD (Nu.toNat) Ac).Bd)) fun y4=>
    bif (y4==(0:Int))then
     if 0<=(0:Int)/\(0:Int)<(((AQ.Ad.getD (Nu.toNat) Ac).Bp.length:Nat):Int)then
      Option.bind (EF AQ ((AQ.Ad.getD (Nu.toNat) Ac).Bp.getD 0 0)) fun y5=>
      some (y5==(0:Int))
     else none
    else
     some false
   else
    some false
  else none
noncomputable def Gl (AQ:Ab) (Nu:Int):Option Bool:=
 Option.bind (
  bif (decide (Nu<(0:Int)))then
   some true
  else
   bif (decide (Nu>=((AQ.Ad.length:Nat):Int)))then
    some true
   else
    if 0<=Nu/\Nu<((AQ.Ad.length:Nat):Int)then
     some ((((AQ.Ad.getD (Nu.toNat) Ac).Bp.length:Nat):Int) != (2:Int))
    else none:Option Bool) fun s1=>
 QG AQ Nu s1
noncomputable def WA (AQ:Ab) (s5:Int) (s8:Bool):Option (Stp Int (Sum Unit (Int×Bool))):=
 bif s8 then
  some (.done (.inr ((AQ.Ad.getD (s5.toNat) Ac).Bd,true)))
 else
  some (.next (IntKind.wrap .i64 (s5+(1:Int))))
noncomputable def Sm (AQ:Ab) (AL:Int) (Bq:Int) (s5:Int):Option (Stp Int (Sum Unit (Int×Bool))):=
 bif (decide (s5<((AQ.Ad.length:Nat):Int)))then
  if 0<=s5/\s5<((AQ.Ad.length:Nat):Int)then
   Option.bind (
    bif ((((AQ.Ad.getD (s5.toNat) Ac).Bp.length:Nat):Int)==(2:Int))then
     if 0<=(0:Int)/\(0:Int)<(((AQ.Ad.getD (s5.toNat) Ac).Bp.length:Nat):Int)then
      bif (((AQ.Ad.getD (s5.toNat) Ac).Bp.getD 0 0)==AL)then
       if 0<=(1:Int)/\(1:Int)<(((AQ.Ad.getD (s5.toNat) Ac).Bp.length:Nat):Int)then
        bif (((AQ.Ad.getD (s5.toNat) Ac).Bp.getD 1 0)==Bq)then
         Option.bind (Gl AQ s5) fun Rf=>
         some Rf
        else
         some false
       else none
      else
       some false
     else none
    else
     some false:Option Bool) fun s8=>
   WA AQ s5 s8
  else none
 else
  some (.done (.inl ()))
noncomputable def TM (AQ:Ab) (AL:Int) (Bq:Int):Option (Int×Bool):=
 Option.bind (Qx AL Bq) fun y1=>
 bif y1.2 then
  some (y1.1,true)
 else
  Option.bind (
   iter (Sm AQ AL Bq) (0:Int):Option (Sum Unit (Int×Bool))) fun z=>
  match z with
  | .inl s2=>
   some ((0:Int),false)
  | .inr (v13)=>
   some (v13.1,v13.2)
noncomputable def JL (Ma:(List EB)) (Mc:(List Ap)) (Md:(List Int)) (Iy:(List Int)) (Jp:Int) (Me:Int) (p_r:Int) (y1:Int) (s2:Unit):Option ((List EB)×(List Ap)×(List Int)×(List Int)×Int×Int):=
 if(Iy.length+1)*4<=140737488355328 then
  bif (y1==(0:Int))then
   some (Ma,Mc,Md,(Iy++ [p_r]),(IntKind.wrap .i64 ((((Iy.length+1):Nat):Int)-(1:Int))),(0:Int))
  else
   some (Ma,Mc,Md,(Iy++ [p_r]),Jp,(max Me y1))
 else none
noncomputable def Ms (Ma:(List EB)) (Mc:(List Ap)) (Md:(List Int)) (Iy:(List Int)) (Jp:Int) (Me:Int) (p_r:Int) (s4:Bool):Option (Sum Unit ((List EB)×(List Ap)×(List Int)×(List Int)×Int×Int)):=
 bif s4 then
  if 0<=Jp/\Jp<((Iy.length:Nat):Int)then
   Option.bind (TM ({ Ad:=Ma,Au:=Mc,AJ:=Md } :Ab) (Iy.getD (Jp.toNat) 0) p_r) fun y6=>
   bif y6.2 then
    if 0<=Jp/\Jp<((Iy.length:Nat):Int)then
     some (.inr (Ma,Mc,Md,(Iy.set (Jp.toNat) y6.1),Jp,Me))
    else none
   else
    some (.inl ())
  else none
 else
  some (.inl ())
noncomputable def Lp (Ma:(List EB)) (Mc:(List Ap)) (Md:(List Int)) (Iy:(List Int)) (Jp:Int) (Me:Int) (p_r:Int):Option ((List EB)×(List Ap)×(List Int)×(List Int)×Int×Int):=
 Option.bind (EF ({ Ad:=Ma,Au:=Mc,AJ:=Md } :Ab) p_r) fun y1=>
 Option.bind (
  Option.bind (
   bif (decide (Jp>=(0:Int)))then
    bif (((Iy.length:Nat):Int)==(IntKind.wrap .i64 (Jp+(1:Int))))then
     some true
    else
     some (decide (Me<y1))
   else
    some false:Option Bool) fun s4=>
  Ms Ma Mc Md Iy Jp Me p_r s4:Option (Sum Unit ((List EB)×(List Ap)×(List Int)×(List Int)×Int×Int))) fun z=>
 match z with
 | .inl s2=>
  JL Ma Mc Md Iy Jp Me p_r y1 s2
 | .inr (v7)=>
  some v7
noncomputable def Mh (AZ:(List Int)) (s4:(List EB)×(List Ap)×(List Int)×(List Int)×Int×Int×Int):Option (Stp ((List EB)×(List Ap)×(List Int)×(List Int)×Int×Int×Int) ((List EB)×(List Ap)×(List Int)×(List Int)×Int×Int)):=
 bif (decide (s4.2.2.2.2.2.2<((AZ.length:Nat):Int)))then
  if 0<=s4.2.2.2.2.2.2/\s4.2.2.2.2.2.2<((AZ.length:Nat):Int)then
   Option.bind (Lp s4.1 s4.2.1 s4.2.2.1 s4.2.2.2.1 s4.2.2.2.2.1 s4.2.2.2.2.2.1 (AZ.getD (s4.2.2.2.2.2.2.toNat) 0)) fun y7=>
   some (.next (y7.1,y7.2.1,y7.2.2.1,y7.2.2.2.1,y7.2.2.2.2.1,y7.2.2.2.2.2,(IntKind.wrap .i64 (s4.2.2.2.2.2.2+(1:Int)))))
  else none
 else
  some (.done (s4.1,s4.2.1,s4.2.2.1,s4.2.2.2.1,s4.2.2.2.2.1,s4.2.2.2.2.2.1))
noncomputable def Vr (AQ:Ab) (AZ:(List Int)):Option (List Int):=
 Option.bind (
  iter (Mh AZ) (AQ.Ad,AQ.Au,AQ.AJ,[],(-1:Int),(0:Int),(0:Int)):Option ((List EB)×(List Ap)×(List Int)×(List Int)×Int×Int)) fun s1=>
 some s1.2.2.2.1
noncomputable def Sl (AQ:Ab) (AZ:(List Int)):Option (List Int):=
 Option.bind (RJ AQ AZ) fun y1=>
 Option.bind (Vr AQ y1) fun y2=>
 some y2
noncomputable def aY (AQ:Ag) (s1:(List Int)):Option (List Int):=
 Option.bind (Sl AQ.Ca s1) fun y3=>
 some y3
noncomputable def aZ (AQ:Ag) (AZ:(List Int)) (s5:(List Int)×Int):Option (Stp ((List Int)×Int) (List Int)):=
 bif (decide (s5.2<((AZ.length:Nat):Int)))then
  if 0<=s5.2/\s5.2<((AZ.length:Nat):Int)then
   Option.bind (J6 (AZ.getD (s5.2.toNat) 0)) fun y8=>
   bif y8 then
    if 0<=s5.2/\s5.2<((s5.1.length:Nat):Int)then
     some (.next ((s5.1.set (s5.2.toNat) (IntKind.wrap .i32 ((IntKind.wrap .i32 ((AZ.getD (s5.2.toNat) 0)+(97:Int)))-(65:Int)))),(IntKind.wrap .i64 (s5.2+(1:Int)))))
    else none
   else
    Option.bind (Mj AQ.EL (AZ.getD (s5.2.toNat) 0)) fun y9=>
    if 0<=s5.2/\s5.2<((s5.1.length:Nat):Int)then
     some (.next ((s5.1.set (s5.2.toNat) y9.1),(IntKind.wrap .i64 (s5.2+(1:Int)))))
    else none
  else none
 else
  some (.done s5.1)
noncomputable def X8 (AQ:Ag) (AZ:(List Int)):Option (List Int):=
 if Aih 4 ((AZ.length:Nat):Int)then
  Option.bind (
   iter (aZ AQ AZ) ((List.replicate AZ.length 0),(0:Int)):Option (List Int)) fun s1=>
  aY AQ s1
 else none
noncomputable def CF (p_r:Int):Option Bool:=
 bif (decide (p_r>=(0:Int)))then
  bif (decide (p_r<=(1114111:Int)))then
   bif (decide (p_r<(55296:Int)))then
    some true
   else
    some (decide (p_r>(57343:Int)))
  else
   some false
 else
  some false
noncomputable def TY (p_r:Int):Option Int:=
 Option.bind (CF p_r) fun y1=>
 bif (!y1)then
  some (0:Int)
 else
  bif (decide (p_r<(128:Int)))then
   some (1:Int)
  else
   bif (decide (p_r<(2048:Int)))then
    some (2:Int)
   else
    bif (decide (p_r<(65536:Int)))then
     some (3:Int)
    else
     some (4:Int)
noncomputable def HZ (CV:Bool) (Ci:(List Int)):Option Bool:=
 bif (!CV)then
  some true
 else
  bif (!CV)then
   none
  else
   some CV
noncomputable def Du (CV:Bool) (Ci:(List Int)) (Zp:Int):Option (Bool×(List Int)×Er):=
 Option.bind (HZ CV Ci) fun y1=>
 if(Ci.length+1)*1<=140737488355328 then
  some (y1,(Ci++ [Zp]),Er.nil)
 else none
noncomputable def Jv (p_r:Int) (s8:Bool×(List Int)×Int):Option (Stp (Bool×(List Int)×Int) (Bool×(List Int))):=
 bif (decide (s8.2.2>=(0:Int)))then
  if 0<=(IntKind.wrap .i64 ((6:Int)*s8.2.2))then
   Option.bind (Du s8.1 s8.2.1 (ior .u8 (128:Int) (XI .u8 (IntKind.wrap .u8 (Int.fdiv p_r (2 ^ (min ((IntKind.wrap .i64 ((6:Int)*s8.2.2))).toNat (IntKind.bits .i32))))) (63:Int)))) fun Vw=>
   some (.next (Vw.1,Vw.2.1,(IntKind.wrap .i64 (s8.2.2-(1:Int)))))
  else none
 else
  some (.done (s8.1,s8.2.1))
noncomputable def Qy (CV:Bool) (Ci:(List Int)) (p_r:Int):Option (Bool×(List Int)):=
 Option.bind (TY p_r) fun y4=>
 bif (y4==(1:Int))then
  Option.bind (Du CV Ci (IntKind.wrap .u8 p_r)) fun y5=>
  some (y5.1,y5.2.1)
 else
  if 0<=(IntKind.wrap .i64 ((4:Int)-y4))then
   if 0<=(IntKind.wrap .i64 ((6:Int)*(IntKind.wrap .i64 (y4-(1:Int)))))then
    Option.bind (Du CV Ci (ior .u8 (IntKind.wrap .u8 ((240:Int)*2 ^ (min ((IntKind.wrap .i64 ((4:Int)-y4))).toNat (IntKind.bits .u8)))) (IntKind.wrap .u8 (Int.fdiv p_r (2 ^ (min ((IntKind.wrap .i64 ((6:Int)*(IntKind.wrap .i64 (y4-(1:Int)))))).toNat (IntKind.bits .i32))))))) fun y6=>
    Option.bind (iter (Jv p_r) (y6.1,y6.2.1,(IntKind.wrap .i64 (y4-(2:Int))))) fun s12=>
    some (s12.1,s12.2)
   else none
  else none
noncomputable def Gx (CV:Bool) (Ci:(List Int)):Option (Bool×(List Int)×ByteArray):=
 if Ci.length<=9223372036854775807 then
  some (CV,Ci,(strOfNums (Ci.take Ci.length)))
 else none
noncomputable def Ob (s1:Bool×(List Int)):Option (ByteArray×Er):=
 Option.bind (Gx s1.1 s1.2) fun y3=>
 if y3.2.1.length=s1.2.length then
  some (y3.2.2,Er.nil)
 else none
noncomputable def Hr (AZ:(List Int)) (s5:Bool×(List Int)×Int):Option (Stp (Bool×(List Int)×Int) (Sum (Bool×(List Int)) (ByteArray×Er))):=
 bif (decide (s5.2.2<((AZ.length:Nat):Int)))then
  if 0<=s5.2.2/\s5.2.2<((AZ.length:Nat):Int)then
   Option.bind (CF (AZ.getD (s5.2.2.toNat) 0)) fun y8=>
   bif (!y8)then
    Option.bind (MZ s5.2.2 (Er.sent 12)) fun y9=>
    some (.done (.inr ((ByteArray.mk #[]),y9)))
   else
    Option.bind (Qy s5.1 s5.2.1 (AZ.getD (s5.2.2.toNat) 0)) fun Rf=>
    some (.next (Rf.1,Rf.2,(IntKind.wrap .i64 (s5.2.2+(1:Int)))))
  else none
 else
  some (.done (.inl (s5.1,s5.2.1)))
noncomputable def LJ (AZ:(List Int)):Option (ByteArray×Er):=
 Option.bind (
  iter (Hr AZ) (false,[],(0:Int)):Option (Sum (Bool×(List Int)) (ByteArray×Er))) fun z=>
 match z with
 | .inl s1=>
  Ob s1
 | .inr (v13)=>
  some (v13.1,v13.2)
noncomputable def DZ (BA:ByteArray) (EZ:ByteArray):Option Bool:=
 bif (decide (((BA.size:Nat):Int)>=((EZ.size:Nat):Int)))then
  if 0<=(0:Int)/\(0:Int)<=((EZ.size:Nat):Int)/\((EZ.size:Nat):Int)<=((BA.size:Nat):Int)then
   some ((BA.extract 0 EZ.size).toList==EZ.toList)
  else none
 else
  some false
noncomputable def Rp (BA:ByteArray) (EZ:ByteArray):Option Bool:=
 Option.bind (DZ BA EZ) fun y1=>
 some y1
noncomputable def Fu (p_r:Int):Option Bool:=
 bif (decide (p_r>=(0:Int)))then
  some (decide (p_r<(128:Int)))
 else
  some false
noncomputable def Dj (FX:Int) (ZV:Er):Option Er:=
 some (Er.box 70 FX ZV)
noncomputable def G6 (BA:ByteArray) (EZ:ByteArray):Option (ByteArray×Bool):=
 Option.bind (DZ BA EZ) fun y1=>
 bif (!y1)then
  some (BA,false)
 else
  if 0<=((EZ.size:Nat):Int)/\((EZ.size:Nat):Int)<=((BA.size:Nat):Int)/\((BA.size:Nat):Int)<=((BA.size:Nat):Int)then
   some ((BA.extract EZ.size BA.size),true)
  else none
noncomputable def KO (BA:ByteArray) (EZ:ByteArray):Option (ByteArray×Bool):=
 Option.bind (G6 BA EZ) fun y1=>
 some (y1.1,y1.2)
noncomputable def G7 (FX:Int) (ZV:Er):Option Er:=
 some (Er.box 70 FX ZV)
noncomputable def Cw (BA:ByteArray) (Zp:Int) (s4:Int):Option (Stp Int (Sum Unit Int)):=
 bif (decide (s4>=(0:Int)))then
  if 0<=s4/\s4<((BA.size:Nat):Int)then
   bif ((bt BA s4)==Zp)then
    some (.done (.inr s4))
   else
    some (.next (IntKind.wrap .i64 (s4-(1:Int))))
  else none
 else
  some (.done (.inl ()))
noncomputable def FN (BA:ByteArray) (Zp:Int):Option Int:=
 Option.bind (
  iter (Cw BA Zp) (IntKind.wrap .i64 (((BA.size:Nat):Int)-(1:Int))):Option (Sum Unit Int)) fun z=>
 match z with
 | .inl s1=>
  some (-1:Int)
 | .inr (v9)=>
  some v9
noncomputable def I4 (BA:ByteArray) (Zp:Int):Option Int:=
 Option.bind (FN BA Zp) fun y1=>
 some y1
noncomputable def Q7 (Bq:Int) (s5:Bool):Option Int:=
 bif s5 then
  some (IntKind.wrap .i64 ((IntKind.wrap .i64 (IntKind.wrap .u8 (Bq-(48:Int))))+(26:Int)))
 else
  some (-1:Int)
noncomputable def VN (Bq:Int) (s3:Bool):Option Int:=
 bif s3 then
  some (IntKind.wrap .i64 (IntKind.wrap .u8 (Bq-(65:Int))))
 else
  Option.bind (
   bif (decide (Bq>=(48:Int)))then
    some (decide (Bq<=(57:Int)))
   else
    some false:Option Bool) fun s5=>
  Q7 Bq s5
noncomputable def VL (Bq:Int) (s1:Bool):Option Int:=
 bif s1 then
  some (IntKind.wrap .i64 (IntKind.wrap .u8 (Bq-(97:Int))))
 else
  Option.bind (
   bif (decide (Bq>=(65:Int)))then
    some (decide (Bq<=(90:Int)))
   else
    some false:Option Bool) fun s3=>
  VN Bq s3
noncomputable def RP (Bq:Int):Option Int:=
 Option.bind (
  bif (decide (Bq>=(97:Int)))then
   some (decide (Bq<=(122:Int)))
  else
   some false:Option Bool) fun s1=>
 VL Bq s1
noncomputable def Kw (p_n:Int) (lM:Int) (Yz:Int):Option Int:=
 some (max lM (min p_n Yz))
noncomputable def LG (CV:Int) (Ci:Bool) (Fp:ByteArray) (CO:Int) (Fv:Int) (Fw:Int) (EP:(List Int)) (YF:Int):Option (Int×Bool×ByteArray×Int×Int×Int×Int):=
 Option.bind (Kw (IntKind.wrap .i64 ((IntKind.wrap .i64 ((36:Int)*(IntKind.wrap .i64 (YF+(1:Int)))))-CV)) (1:Int) (26:Int)) fun y1=>
 some (CV,Ci,Fp,CO,Fv,Fw,y1)
noncomputable def BG (Ht:(List Int)) (s2:Int×Bool×ByteArray×Int×Int×Int×Int×Int×Int):Option (Stp (Int×Bool×ByteArray×Int×Int×Int×Int×Int×Int) (Int×Bool×ByteArray×Int×Int×Int×Int×Er)):=
 bif (s2.2.2.2.1==((s2.2.2.1.size:Nat):Int))then
  Option.bind (G7 s2.2.2.2.1 (Er.sent 11)) fun y5=>
  some (.done (s2.1,s2.2.1,s2.2.2.1,s2.2.2.2.1,s2.2.2.2.2.1,s2.2.2.2.2.2.1,(0:Int),y5))
 else
  if 0<=s2.2.2.2.1/\s2.2.2.2.1<((s2.2.2.1.size:Nat):Int)then
   Option.bind (RP (bt s2.2.2.1 s2.2.2.2.1)) fun y6=>
   bif (decide (y6<(0:Int)))then
    Option.bind (G7 s2.2.2.2.1 (Er.sent 8)) fun y7=>
    some (.done (s2.1,s2.2.1,s2.2.2.1,s2.2.2.2.1,s2.2.2.2.2.1,s2.2.2.2.2.2.1,(0:Int),y7))
   else
    bif (decide ((IntKind.wrap .i64 (s2.2.2.2.2.2.2.1+(IntKind.wrap .i64 (y6*s2.2.2.2.2.2.2.2.1))))>(2147483647:Int)))then
     Option.bind (G7 s2.2.2.2.1 (Er.sent 6)) fun y8=>
     some (.done (s2.1,s2.2.1,s2.2.2.1,s2.2.2.2.1,s2.2.2.2.2.1,s2.2.2.2.2.2.1,(0:Int),y8))
    else
     Option.bind (LG s2.1 s2.2.1 s2.2.2.1 (IntKind.wrap .i64 (s2.2.2.2.1+(1:Int))) s2.2.2.2.2.1 s2.2.2.2.2.2.1 Ht s2.2.2.2.2.2.2.2.2) fun y9=>
     bif (decide (y6<y9.2.2.2.2.2.2))then
      some (.done (y9.1,y9.2.1,y9.2.2.1,y9.2.2.2.1,y9.2.2.2.2.1,y9.2.2.2.2.2.1,(IntKind.wrap .i64 (s2.2.2.2.2.2.2.1+(IntKind.wrap .i64 (y6*s2.2.2.2.2.2.2.2.1)))),Er.nil))
     else
      some (.next (y9.1,y9.2.1,y9.2.2.1,y9.2.2.2.1,y9.2.2.2.2.1,y9.2.2.2.2.2.1,(IntKind.wrap .i64 (s2.2.2.2.2.2.2.1+(IntKind.wrap .i64 (y6*s2.2.2.2.2.2.2.2.1)))),(IntKind.wrap .i64 (s2.2.2.2.2.2.2.2.1*(IntKind.wrap .i64 ((36:Int)-y9.2.2.2.2.2.2)))),(IntKind.wrap .i64 (s2.2.2.2.2.2.2.2.2+(1:Int)))))
  else none
noncomputable def JW (Zq:Int) (Zr:Bool) (Zt:ByteArray) (Zu:Int) (Zv:Int) (Zw:Int) (Ht:(List Int)):Option (Int×Bool×ByteArray×Int×Int×Int×Int×Er):=
 Option.bind (iter (BG Ht) (Zq,Zr,Zt,Zu,Zv,Zw,(0:Int),(1:Int),(0:Int))) fun v10=>
 some v10
noncomputable def SL (s5:Int×Int):Option Int:=
 if(IntKind.wrap .i64 (s5.1+(38:Int)))≠0 then
  some (IntKind.wrap .i64 (s5.2+(IntKind.wrap .i64 (Int.tdiv (IntKind.wrap .i64 ((36:Int)*s5.1)) (IntKind.wrap .i64 (s5.1+(38:Int)))))))
 else none
noncomputable def Pv (s8:Int×Int):Option (Stp (Int×Int) (Int×Int)):=
 bif (decide (s8.1>(455:Int)))then
  some (.next ((IntKind.wrap .i64 (Int.tdiv s8.1 (35:Int))),(IntKind.wrap .i64 (s8.2+(36:Int)))))
 else
  some (.done (s8.1,s8.2))
noncomputable def SK (y2:Int) (s3:Int):Option Int:=
 if y2≠0 then
  Option.bind (
   iter (Pv) ((IntKind.wrap .i64 (s3+(IntKind.wrap .i64 (Int.tdiv s3 y2)))),(0:Int)):Option (Int×Int)) fun s5=>
  SL s5
 else none
noncomputable def MX (bE:Int) (Ky:Int) (Di:Bool):Option Int:=
 Option.bind (Kw bE (0:Int) (2147483647:Int)) fun y1=>
 Option.bind (Kw Ky (1:Int) (2147483647:Int)) fun y2=>
 Option.bind (
  bif Di then
   some (IntKind.wrap .i64 (Int.tdiv y1 (700:Int)))
  else
   some (IntKind.wrap .i64 (Int.tdiv y1 (2:Int))):Option Int) fun s3=>
 SK y2 s3
noncomputable def Jj (CV:Int) (Ci:Bool) (Fp:ByteArray) (CO:Int) (Fv:Int) (Fw:Int) (EP:(List Int)) (bE:Int) (Ky:Int):Option (Int×Bool×ByteArray×Int×Int×Int):=
 Option.bind (MX bE Ky (!Ci)) fun y1=>
 some (y1,true,Fp,CO,Fv,Fw)
def Oa (BA:List Int) (p_i:Int) (p_v:List Int):Option (List Int):=
 match p_v with
 | [x]=>if 0<=p_i/\p_i<=((BA.length:Nat):Int)/\(BA.length+1)*4<=140737488355328 then some (BA.take p_i.toNat++x::BA.drop p_i.toNat)else none
 |_=>none
noncomputable def JC (Ht:(List Int)) (y1:Int×Bool×ByteArray×Int×Int×Int×Int×Er) (y2:Int×Bool×ByteArray×Int×Int×Int) (s3:Bool):Option (Int×Bool×ByteArray×Int×Int×Int×(List Int)×Er):=
 bif s3 then
  Option.bind (G7 (IntKind.wrap .i64 (y2.2.2.2.1-(1:Int))) (Er.sent 12)) fun y5=>
  some (y2.1,y2.2.1,y2.2.2.1,y2.2.2.2.1,(IntKind.wrap .i64 (y2.2.2.2.2.1+(IntKind.wrap .i64 (Int.tdiv (IntKind.wrap .i64 (y2.2.2.2.2.2+y1.2.2.2.2.2.2.1)) (IntKind.wrap .i64 (((Ht.length:Nat):Int)+(1:Int))))))),(Int.tmod (IntKind.wrap .i64 (y2.2.2.2.2.2+y1.2.2.2.2.2.2.1)) (IntKind.wrap .i64 (((Ht.length:Nat):Int)+(1:Int)))),Ht,y5)
 else
  Option.bind (Oa Ht (Int.tmod (IntKind.wrap .i64 (y2.2.2.2.2.2+y1.2.2.2.2.2.2.1)) (IntKind.wrap .i64 (((Ht.length:Nat):Int)+(1:Int)))) [(IntKind.wrap .i32 (IntKind.wrap .i64 (y2.2.2.2.2.1+(IntKind.wrap .i64 (Int.tdiv (IntKind.wrap .i64 (y2.2.2.2.2.2+y1.2.2.2.2.2.2.1)) (IntKind.wrap .i64 (((Ht.length:Nat):Int)+(1:Int))))))))]) fun y6=>
  some (y2.1,y2.2.1,y2.2.2.1,y2.2.2.2.1,(IntKind.wrap .i64 (y2.2.2.2.2.1+(IntKind.wrap .i64 (Int.tdiv (IntKind.wrap .i64 (y2.2.2.2.2.2+y1.2.2.2.2.2.2.1)) (IntKind.wrap .i64 (((Ht.length:Nat):Int)+(1:Int))))))),(IntKind.wrap .i64 ((Int.tmod (IntKind.wrap .i64 (y2.2.2.2.2.2+y1.2.2.2.2.2.2.1)) (IntKind.wrap .i64 (((Ht.length:Nat):Int)+(1:Int))))+(1:Int))),y6,Er.nil)
noncomputable def IL (Zq:Int) (Zr:Bool) (Zt:ByteArray) (Zu:Int) (Zv:Int) (Zw:Int) (Ht:(List Int)):Option (Int×Bool×ByteArray×Int×Int×Int×(List Int)×Er):=
 Option.bind (JW Zq Zr Zt Zu Zv Zw Ht) fun y1=>
 bif (!y1.2.2.2.2.2.2.2.isNil)then
  some (y1.1,y1.2.1,y1.2.2.1,y1.2.2.2.1,y1.2.2.2.2.1,y1.2.2.2.2.2.1,Ht,y1.2.2.2.2.2.2.2)
 else
  Option.bind (Jj y1.1 y1.2.1 y1.2.2.1 y1.2.2.2.1 y1.2.2.2.2.1 y1.2.2.2.2.2.1 Ht y1.2.2.2.2.2.2.1 (IntKind.wrap .i64 (((Ht.length:Nat):Int)+(1:Int)))) fun y2=>
  if(IntKind.wrap .i64 (((Ht.length:Nat):Int)+(1:Int)))≠0 then
   if(IntKind.wrap .i64 (((Ht.length:Nat):Int)+(1:Int)))≠0 then
    Option.bind (
     bif (decide ((IntKind.wrap .i64 (y2.2.2.2.2.1+(IntKind.wrap .i64 (Int.tdiv (IntKind.wrap .i64 (y2.2.2.2.2.2+y1.2.2.2.2.2.2.1)) (IntKind.wrap .i64 (((Ht.length:Nat):Int)+(1:Int)))))))>(1114111:Int)))then
      some true
     else
      Option.bind (CF (IntKind.wrap .i32 (IntKind.wrap .i64 (y2.2.2.2.2.1+(IntKind.wrap .i64 (Int.tdiv (IntKind.wrap .i64 (y2.2.2.2.2.2+y1.2.2.2.2.2.2.1)) (IntKind.wrap .i64 (((Ht.length:Nat):Int)+(1:Int))))))))) fun y7=>
      some (!y7):Option Bool) fun s3=>
    JC Ht y1 y2 s3
   else none
  else none
noncomputable def EN (BA:ByteArray) (s9:Int×Bool×ByteArray×Int×Int×Int×(List Int)):Option (Stp (Int×Bool×ByteArray×Int×Int×Int×(List Int)) (Sum (Int×Bool×ByteArray×Int×Int×Int×(List Int)) ((List Int)×Er))):=
 bif (decide (s9.2.2.2.1<((BA.size:Nat):Int)))then
  Option.bind (IL s9.1 s9.2.1 s9.2.2.1 s9.2.2.2.1 s9.2.2.2.2.1 s9.2.2.2.2.2.1 s9.2.2.2.2.2.2) fun P5=>
  bif (!P5.2.2.2.2.2.2.2.isNil)then
   some (.done (.inr ([],P5.2.2.2.2.2.2.2)))
  else
   some (.next (P5.1,P5.2.1,P5.2.2.1,P5.2.2.2.1,P5.2.2.2.2.1,P5.2.2.2.2.2.1,P5.2.2.2.2.2.2.1))
 else
  some (.done (.inl (s9.1,s9.2.1,s9.2.2.1,s9.2.2.2.1,s9.2.2.2.2.1,s9.2.2.2.2.2.1,s9.2.2.2.2.2.2)))
noncomputable def Ih (BA:ByteArray) (s4:Int×(List Int)):Option ((List Int)×Er):=
 Option.bind (
  iter (EN BA) ((72:Int),false,BA,s4.1,(128:Int),(0:Int),s4.2):Option (Sum (Int×Bool×ByteArray×Int×Int×Int×(List Int)) ((List Int)×Er))) fun z=>
 match z with
 | .inl s6=>
  some (s6.2.2.2.2.2.2,Er.nil)
 | .inr (v15)=>
  some (v15.1,v15.2)
noncomputable def Ns (BA:ByteArray) (s2:Unit):Option ((List Int)×Er):=
 Option.bind (
  Option.bind (I4 BA (45:Int)) fun y16=>
  bif (decide (y16>(0:Int)))then
   if 0<=(0:Int)/\(0:Int)<=y16/\y16<=((BA.size:Nat):Int)then
    if(BA.extract 0 (y16.toNat)).size<=70368744177664 then
     some ((IntKind.wrap .i64 (y16+(1:Int))),(runesL (BA.extract 0 (y16.toNat))))
    else none
   else none
  else
   some ((0:Int),[]):Option (Int×(List Int))) fun s4=>
 Ih BA s4
noncomputable def Fz (BA:ByteArray) (s18:Int):Option (Stp Int (Sum Unit ((List Int)×Er))):=
 bif (decide (s18<((BA.size:Nat):Int)))then
  if 0<=s18/\s18<((BA.size:Nat):Int)then
   bif (decide ((bt BA s18)>=(128:Int)))then
    Option.bind (G7 s18 (Er.sent 7)) fun y21=>
    some (.done (.inr ([],y21)))
   else
    some (.next (IntKind.wrap .i64 (s18+(1:Int))))
  else none
 else
  some (.done (.inl ()))
noncomputable def Im (BA:ByteArray):Option ((List Int)×Er):=
 bif (decide (((BA.size:Nat):Int)>(120:Int)))then
  Option.bind (G7 (0:Int) (Er.sent 6)) fun y1=>
  some ([],y1)
 else
  Option.bind (
   iter (Fz BA) (0:Int):Option (Sum Unit ((List Int)×Er))) fun z=>
  match z with
  | .inl s2=>
   Ns BA s2
  | .inr (v24)=>
   some (v24.1,v24.2)
noncomputable def SG (p_r:Int):Option Bool:=
 Option.bind (Fu p_r) fun y1=>
 some (!y1)
noncomputable def EG (BA:(List Int)) (s4:Int):Option (Stp Int (Sum Unit Int)):=
 bif (decide (s4<((BA.length:Nat):Int)))then
  if 0<=s4/\s4<((BA.length:Nat):Int)then
   Option.bind (SG (BA.getD (s4.toNat) 0)) fun y7=>
   bif y7 then
    some (.done (.inr s4))
   else
    some (.next (IntKind.wrap .i64 (s4+(1:Int))))
  else none
 else
  some (.done (.inl ()))
noncomputable def Fj (BA:(List Int)):Option Int:=
 Option.bind (
  iter (EG BA) (0:Int):Option (Sum Unit Int)) fun z=>
 match z with
 | .inl s1=>
  some (-1:Int)
 | .inr (v10)=>
  some v10
noncomputable def Df (BA:(List Int)):Option Bool:=
 Option.bind (Fj BA) fun y1=>
 some (decide (y1>=(0:Int)))
noncomputable def Ej (CV:Int) (Ci:Bool) (Fp:Bool) (CO:(List Int)) (Fv:Int) (Fw:Int) (EP:Int):Option (Int×Bool×Bool×Int×Int×Int):=
 bif (!Fp)then
  some (CV,Ci,true,Fv,Fw,EP)
 else
  bif (!Fp)then
   none
  else
   some (CV,Ci,Fp,Fv,Fw,EP)
noncomputable def Ei (CV:Int) (Ci:Bool) (Fp:Bool) (CO:(List Int)) (Fv:Int) (Fw:Int) (EP:Int) (Zp:Int):Option (Int×Bool×Bool×(List Int)×Int×Int×Int×Er):=
 Option.bind (Ej CV Ci Fp CO Fv Fw EP) fun y1=>
 if(CO.length+1)*1<=140737488355328 then
  some (y1.1,y1.2.1,y1.2.2.1,(CO++ [Zp]),y1.2.2.2.1,y1.2.2.2.2.1,y1.2.2.2.2.2,Er.nil)
 else none
noncomputable def MW (s3:Int×Int):Option Int:=
 bif (decide (s3.1>=(256:Int)))then
  if 0<=(IntKind.wrap .u8 (Int.fdiv s3.1 256))/\(IntKind.wrap .u8 (Int.fdiv s3.1 256))<(((ByteArray.mk #[0,1,2,2,3,3,3,3,4,4,4,4,4,4,4,4,5,5,5,5,5,5,5,5,5,5,5,5,5,5,5,5,6,6,6,6,6,6,6,6,6,6,6,6,6,6,6,6,6,6,6,6,6,6,6,6,6,6,6,6,6,6,6,6,7,7,7,7,7,7,7,7,7,7,7,7,7,7,7,7,7,7,7,7,7,7,7,7,7,7,7,7,7,7,7,7,7,7,7,7,7,7,7,7,7,7,7,7,7,7,7,7,7,7,7,7,7,7,7,7,7,7,7,7,7,7,7,7,8,8,8,8,8,8,8,8,8,8,8,8,8,8,8,8,8,8,8,8,8,8,8,8,8,8,8,8,8,8,8,8,8,8,8,8,8,8,8,8,8,8,8,8,8,8,8,8,8,8,8,8,8,8,8,8,8,8,8,8,8,8,8,8,8,8,8,8,8,8,8,8,8,8,8,8,8,8,8,8,8,8,8,8,8,8,8,8,8,8,8,8,8,8,8,8,8,8,8,8,8,8,8,8,8,8,8,8,8,8,8,8,8,8,8,8,8,8,8,8,8,8,8,8,8,8,8,8]).size:Nat):Int)then
   some (IntKind.wrap .i64 ((IntKind.wrap .i64 (s3.2+(8:Int)))+(IntKind.wrap .i64 (bt (ByteArray.mk #[0,1,2,2,3,3,3,3,4,4,4,4,4,4,4,4,5,5,5,5,5,5,5,5,5,5,5,5,5,5,5,5,6,6,6,6,6,6,6,6,6,6,6,6,6,6,6,6,6,6,6,6,6,6,6,6,6,6,6,6,6,6,6,6,7,7,7,7,7,7,7,7,7,7,7,7,7,7,7,7,7,7,7,7,7,7,7,7,7,7,7,7,7,7,7,7,7,7,7,7,7,7,7,7,7,7,7,7,7,7,7,7,7,7,7,7,7,7,7,7,7,7,7,7,7,7,7,7,8,8,8,8,8,8,8,8,8,8,8,8,8,8,8,8,8,8,8,8,8,8,8,8,8,8,8,8,8,8,8,8,8,8,8,8,8,8,8,8,8,8,8,8,8,8,8,8,8,8,8,8,8,8,8,8,8,8,8,8,8,8,8,8,8,8,8,8,8,8,8,8,8,8,8,8,8,8,8,8,8,8,8,8,8,8,8,8,8,8,8,8,8,8,8,8,8,8,8,8,8,8,8,8,8,8,8,8,8,8,8,8,8,8,8,8,8,8,8,8,8,8,8,8,8,8,8,8]) (IntKind.wrap .u8 (Int.fdiv s3.1 256))))))
  else none
 else
  if 0<=(IntKind.wrap .u8 s3.1)/\(IntKind.wrap .u8 s3.1)<(((ByteArray.mk #[0,1,2,2,3,3,3,3,4,4,4,4,4,4,4,4,5,5,5,5,5,5,5,5,5,5,5,5,5,5,5,5,6,6,6,6,6,6,6,6,6,6,6,6,6,6,6,6,6,6,6,6,6,6,6,6,6,6,6,6,6,6,6,6,7,7,7,7,7,7,7,7,7,7,7,7,7,7,7,7,7,7,7,7,7,7,7,7,7,7,7,7,7,7,7,7,7,7,7,7,7,7,7,7,7,7,7,7,7,7,7,7,7,7,7,7,7,7,7,7,7,7,7,7,7,7,7,7,8,8,8,8,8,8,8,8,8,8,8,8,8,8,8,8,8,8,8,8,8,8,8,8,8,8,8,8,8,8,8,8,8,8,8,8,8,8,8,8,8,8,8,8,8,8,8,8,8,8,8,8,8,8,8,8,8,8,8,8,8,8,8,8,8,8,8,8,8,8,8,8,8,8,8,8,8,8,8,8,8,8,8,8,8,8,8,8,8,8,8,8,8,8,8,8,8,8,8,8,8,8,8,8,8,8,8,8,8,8,8,8,8,8,8,8,8,8,8,8,8,8,8,8,8,8,8,8]).size:Nat):Int)then
   some (IntKind.wrap .i64 (s3.2+(IntKind.wrap .i64 (bt (ByteArray.mk #[0,1,2,2,3,3,3,3,4,4,4,4,4,4,4,4,5,5,5,5,5,5,5,5,5,5,5,5,5,5,5,5,6,6,6,6,6,6,6,6,6,6,6,6,6,6,6,6,6,6,6,6,6,6,6,6,6,6,6,6,6,6,6,6,7,7,7,7,7,7,7,7,7,7,7,7,7,7,7,7,7,7,7,7,7,7,7,7,7,7,7,7,7,7,7,7,7,7,7,7,7,7,7,7,7,7,7,7,7,7,7,7,7,7,7,7,7,7,7,7,7,7,7,7,7,7,7,7,8,8,8,8,8,8,8,8,8,8,8,8,8,8,8,8,8,8,8,8,8,8,8,8,8,8,8,8,8,8,8,8,8,8,8,8,8,8,8,8,8,8,8,8,8,8,8,8,8,8,8,8,8,8,8,8,8,8,8,8,8,8,8,8,8,8,8,8,8,8,8,8,8,8,8,8,8,8,8,8,8,8,8,8,8,8,8,8,8,8,8,8,8,8,8,8,8,8,8,8,8,8,8,8,8,8,8,8,8,8,8,8,8,8,8,8,8,8,8,8,8,8,8,8,8,8,8,8]) (IntKind.wrap .u8 s3.1)))))
  else none
noncomputable def QO (s1:Int×Int):Option Int:=
 Option.bind (
  bif (decide (s1.1>=(65536:Int)))then
   some ((Int.fdiv s1.1 65536),(IntKind.wrap .i64 (s1.2+(16:Int))))
  else
   some (s1.1,s1.2):Option (Int×Int)) fun s3=>
 MW s3
noncomputable def Pt (KA:Int):Option Int:=
 Option.bind (
  bif (decide (KA>=(4294967296:Int)))then
   some ((Int.fdiv KA 4294967296),(32:Int))
  else
   some (KA,(0:Int)):Option (Int×Int)) fun s1=>
 QO s1
noncomputable def L6 (KA:Int):Option Int:=
 Option.bind (Pt KA) fun y1=>
 some y1
noncomputable def Cn (s8:(List Int)×Int) (s11:Bool):Option (Stp ((List Int)×Int) (List Int)):=
 bif s11 then
  if 0<=(IntKind.wrap .i64 (s8.2-(1:Int)))/\(IntKind.wrap .i64 (s8.2-(1:Int)))<((s8.1.length:Nat):Int)then
   if 0<=s8.2/\s8.2<((s8.1.length:Nat):Int)then
    if 0<=s8.2/\s8.2<((s8.1.length:Nat):Int)then
     if 0<=(IntKind.wrap .i64 (s8.2-(1:Int)))/\(IntKind.wrap .i64 (s8.2-(1:Int)))<((s8.1.length:Nat):Int)then
      some (.next (((s8.1.set (s8.2.toNat) (s8.1.getD ((IntKind.wrap .i64 (s8.2-(1:Int))).toNat) 0)).set ((IntKind.wrap .i64 (s8.2-(1:Int))).toNat) (s8.1.getD (s8.2.toNat) 0)),(IntKind.wrap .i64 (s8.2-(1:Int)))))
     else none
    else none
   else none
  else none
 else
  some (.done s8.1)
noncomputable def Bg (AL:Int) (s8:(List Int)×Int):Option (Stp ((List Int)×Int) (List Int)):=
 Option.bind (
  bif (decide (s8.2>AL))then
   if 0<=s8.2/\s8.2<((s8.1.length:Nat):Int)then
    if 0<=(IntKind.wrap .i64 (s8.2-(1:Int)))/\(IntKind.wrap .i64 (s8.2-(1:Int)))<((s8.1.length:Nat):Int)then
     Option.bind (BN (s8.1.getD (s8.2.toNat) 0) (s8.1.getD ((IntKind.wrap .i64 (s8.2-(1:Int))).toNat) 0)) fun y13=>
     some y13
    else none
   else none
  else
   some false:Option Bool) fun s11=>
 Cn s8 s11
noncomputable def CB (AL:Int) (Bq:Int) (s2:(List Int)×Int):Option (Stp ((List Int)×Int) (List Int)):=
 bif (decide (s2.2<Bq))then
  Option.bind (
   iter (Bg AL) (s2.1,s2.2):Option (List Int)) fun s5=>
  some (.next (s5,(IntKind.wrap .i64 (s2.2+(1:Int)))))
 else
  some (.done s2.1)
noncomputable def D7 (Ae:(List Int)) (AL:Int) (Bq:Int):Option (List Int):=
 Option.bind (iter (CB AL Bq) (Ae,(IntKind.wrap .i64 (AL+(1:Int))))) fun s15=>
 some s15
noncomputable def Dq (Di:Int) (s2:(List Int)×Int) (s5:Int):Option (Stp ((List Int)×Int) (Sum (List Int) (List Int))):=
 if 0<=(IntKind.wrap .i64 (Di+s2.2))/\(IntKind.wrap .i64 (Di+s2.2))<((s2.1.length:Nat):Int)then
  if 0<=(IntKind.wrap .i64 (Di+s5))/\(IntKind.wrap .i64 (Di+s5))<((s2.1.length:Nat):Int)then
   Option.bind (BN (s2.1.getD ((IntKind.wrap .i64 (Di+s2.2)).toNat) 0) (s2.1.getD ((IntKind.wrap .i64 (Di+s5)).toNat) 0)) fun y7=>
   bif (!y7)then
    some (.done (.inr s2.1))
   else
    if 0<=(IntKind.wrap .i64 (Di+s5))/\(IntKind.wrap .i64 (Di+s5))<((s2.1.length:Nat):Int)then
     if 0<=(IntKind.wrap .i64 (Di+s2.2))/\(IntKind.wrap .i64 (Di+s2.2))<((s2.1.length:Nat):Int)then
      if 0<=(IntKind.wrap .i64 (Di+s2.2))/\(IntKind.wrap .i64 (Di+s2.2))<((s2.1.length:Nat):Int)then
       if 0<=(IntKind.wrap .i64 (Di+s5))/\(IntKind.wrap .i64 (Di+s5))<((s2.1.length:Nat):Int)then
        some (.next (((s2.1.set ((IntKind.wrap .i64 (Di+s2.2)).toNat) (s2.1.getD ((IntKind.wrap .i64 (Di+s5)).toNat) 0)).set ((IntKind.wrap .i64 (Di+s5)).toNat) (s2.1.getD ((IntKind.wrap .i64 (Di+s2.2)).toNat) 0)),s5))
       else none
      else none
     else none
    else none
  else none
 else none
noncomputable def Dr (s2:(List Int)×Int) (s8:Bool):Option Int:=
 bif s8 then
  some (IntKind.wrap .i64 ((IntKind.wrap .i64 ((IntKind.wrap .i64 ((2:Int)*s2.2))+(1:Int)))+(1:Int)))
 else
  some (IntKind.wrap .i64 ((IntKind.wrap .i64 ((2:Int)*s2.2))+(1:Int)))
noncomputable def Bt (oZ:Int) (Di:Int) (s2:(List Int)×Int):Option (Stp ((List Int)×Int) (Sum (List Int) (List Int))):=
 bif (decide ((IntKind.wrap .i64 ((IntKind.wrap .i64 ((2:Int)*s2.2))+(1:Int)))>=oZ))then
  some (.done (.inl s2.1))
 else
  Option.bind (
   Option.bind (
    bif (decide ((IntKind.wrap .i64 ((IntKind.wrap .i64 ((IntKind.wrap .i64 ((2:Int)*s2.2))+(1:Int)))+(1:Int)))<oZ))then
     if 0<=(IntKind.wrap .i64 (Di+(IntKind.wrap .i64 ((IntKind.wrap .i64 ((2:Int)*s2.2))+(1:Int)))))/\(IntKind.wrap .i64 (Di+(IntKind.wrap .i64 ((IntKind.wrap .i64 ((2:Int)*s2.2))+(1:Int)))))<((s2.1.length:Nat):Int)then
      if 0<=(IntKind.wrap .i64 ((IntKind.wrap .i64 (Di+(IntKind.wrap .i64 ((IntKind.wrap .i64 ((2:Int)*s2.2))+(1:Int)))))+(1:Int)))/\(IntKind.wrap .i64 ((IntKind.wrap .i64 (Di+(IntKind.wrap .i64 ((IntKind.wrap .i64 ((2:Int)*s2.2))+(1:Int)))))+(1:Int)))<((s2.1.length:Nat):Int)then
       Option.bind (BN (s2.1.getD ((IntKind.wrap .i64 (Di+(IntKind.wrap .i64 ((IntKind.wrap .i64 ((2:Int)*s2.2))+(1:Int))))).toNat) 0) (s2.1.getD ((IntKind.wrap .i64 ((IntKind.wrap .i64 (Di+(IntKind.wrap .i64 ((IntKind.wrap .i64 ((2:Int)*s2.2))+(1:Int)))))+(1:Int))).toNat) 0)) fun Rf=>
       some Rf
      else none
     else none
    else
     some false:Option Bool) fun s8=>
   Dr s2 s8:Option Int) fun s5=>
  Dq Di s2 s5
noncomputable def CX (Ae:(List Int)) (Aio:Int) (oZ:Int) (Di:Int):Option (List Int):=
 Option.bind (iter (Bt oZ Di) (Ae,Aio)) fun z=>
 match z with
 | .inl s11=>
  some s11
 | .inr (v12)=>
  some v12
noncomputable def Ew (AL:Int) (s4:(List Int)×Int):Option (Stp ((List Int)×Int) (List Int)):=
 bif (decide (s4.2>=(0:Int)))then
  if 0<=(IntKind.wrap .i64 (AL+s4.2))/\(IntKind.wrap .i64 (AL+s4.2))<((s4.1.length:Nat):Int)then
   if 0<=AL/\AL<((s4.1.length:Nat):Int)then
    if 0<=AL/\AL<((s4.1.length:Nat):Int)then
     if 0<=(IntKind.wrap .i64 (AL+s4.2))/\(IntKind.wrap .i64 (AL+s4.2))<((s4.1.length:Nat):Int)then
      Option.bind (CX ((s4.1.set (AL.toNat) (s4.1.getD ((IntKind.wrap .i64 (AL+s4.2)).toNat) 0)).set ((IntKind.wrap .i64 (AL+s4.2)).toNat) (s4.1.getD (AL.toNat) 0)) (0:Int) s4.2 AL) fun y7=>
      if y7.length=((s4.1.set (AL.toNat) (s4.1.getD ((IntKind.wrap .i64 (AL+s4.2)).toNat) 0)).set ((IntKind.wrap .i64 (AL+s4.2)).toNat) (s4.1.getD (AL.toNat) 0)).length then
       some (.next (y7,(IntKind.wrap .i64 (s4.2-(1:Int)))))
      else none
     else none
    else none
   else none
  else none
 else
  some (.done s4.1)
noncomputable def Jb (AL:Int) (Bq:Int) (s1:(List Int)):Option (List Int):=
 Option.bind (iter (Ew AL) (s1,(IntKind.wrap .i64 ((IntKind.wrap .i64 (Bq-AL))-(1:Int))))) fun s8=>
 some s8
noncomputable def Eo (AL:Int) (Bq:Int) (s10:(List Int)×Int):Option (Stp ((List Int)×Int) (List Int)):=
 bif (decide (s10.2>=(0:Int)))then
  Option.bind (CX s10.1 s10.2 (IntKind.wrap .i64 (Bq-AL)) AL) fun y13=>
  if y13.length=s10.1.length then
   some (.next (y13,(IntKind.wrap .i64 (s10.2-(1:Int)))))
  else none
 else
  some (.done s10.1)
noncomputable def Fq (Ae:(List Int)) (AL:Int) (Bq:Int):Option (List Int):=
 Option.bind (
  iter (Eo AL Bq) (Ae,(IntKind.wrap .i64 (Int.tdiv (IntKind.wrap .i64 ((IntKind.wrap .i64 (Bq-AL))-(1:Int))) (2:Int)))):Option (List Int)) fun s1=>
 Jb AL Bq s1
noncomputable def CG (Ae:(List Int)) (AL:Int) (Bq:Int) (LK:Int):Option (Int×Int×Int):=
 if 0<=Bq/\Bq<((Ae.length:Nat):Int)then
  if 0<=AL/\AL<((Ae.length:Nat):Int)then
   Option.bind (BN (Ae.getD (Bq.toNat) 0) (Ae.getD (AL.toNat) 0)) fun y1=>
   bif y1 then
    some ((IntKind.wrap .i64 (LK+(1:Int))),Bq,AL)
   else
    some (LK,AL,Bq)
  else none
 else none
noncomputable def Dt (Ae:(List Int)) (AL:Int) (Bq:Int) (Zp:Int) (LK:Int):Option (Int×Int):=
 Option.bind (CG Ae AL Bq LK) fun y1=>
 Option.bind (CG Ae y1.2.2 Zp y1.1) fun y2=>
 Option.bind (CG Ae y1.2.1 y2.2.1 y2.1) fun y3=>
 some (y3.1,y3.2.2)
noncomputable def BZ (Ae:(List Int)) (AL:Int) (LK:Int):Option (Int×Int):=
 Option.bind (Dt Ae (IntKind.wrap .i64 (AL-(1:Int))) AL (IntKind.wrap .i64 (AL+(1:Int))) LK) fun y1=>
 some (y1.1,y1.2)
noncomputable def EO (s1:Int×Int):Option (Int×Int):=
 bif (s1.1==(0:Int))then
  some (s1.2,(1:Int))
 else
  bif (s1.1==(12:Int))then
   some (s1.2,(2:Int))
  else
   some (s1.2,(0:Int))
noncomputable def FC (Ae:(List Int)) (AL:Int) (Bq:Int):Option (Int×Int):=
 Option.bind (
  bif (decide ((IntKind.wrap .i64 (Bq-AL))>=(8:Int)))then
   bif (decide ((IntKind.wrap .i64 (Bq-AL))>=(50:Int)))then
    Option.bind (BZ Ae (IntKind.wrap .i64 (AL+(IntKind.wrap .i64 ((IntKind.wrap .i64 (Int.tdiv (IntKind.wrap .i64 (Bq-AL)) (4:Int)))*(1:Int))))) (0:Int)) fun y3=>
    Option.bind (BZ Ae (IntKind.wrap .i64 (AL+(IntKind.wrap .i64 ((IntKind.wrap .i64 (Int.tdiv (IntKind.wrap .i64 (Bq-AL)) (4:Int)))*(2:Int))))) y3.1) fun y4=>
    Option.bind (BZ Ae (IntKind.wrap .i64 (AL+(IntKind.wrap .i64 ((IntKind.wrap .i64 (Int.tdiv (IntKind.wrap .i64 (Bq-AL)) (4:Int)))*(3:Int))))) y4.1) fun y5=>
    Option.bind (Dt Ae y3.2 y4.2 y5.2 y5.1) fun y6=>
    some (y6.1,y6.2)
   else
    Option.bind (Dt Ae (IntKind.wrap .i64 (AL+(IntKind.wrap .i64 ((IntKind.wrap .i64 (Int.tdiv (IntKind.wrap .i64 (Bq-AL)) (4:Int)))*(1:Int))))) (IntKind.wrap .i64 (AL+(IntKind.wrap .i64 ((IntKind.wrap .i64 (Int.tdiv (IntKind.wrap .i64 (Bq-AL)) (4:Int)))*(2:Int))))) (IntKind.wrap .i64 (AL+(IntKind.wrap .i64 ((IntKind.wrap .i64 (Int.tdiv (IntKind.wrap .i64 (Bq-AL)) (4:Int)))*(3:Int))))) (0:Int)) fun y7=>
    some (y7.1,y7.2)
  else
   some ((0:Int),(IntKind.wrap .i64 (AL+(IntKind.wrap .i64 ((IntKind.wrap .i64 (Int.tdiv (IntKind.wrap .i64 (Bq-AL)) (4:Int)))*(2:Int)))))):Option (Int×Int)) fun s1=>
 EO s1
noncomputable def CK (s2:(List Int)×Int×Int):Option (Stp ((List Int)×Int×Int) (List Int)):=
 bif (decide (s2.2.1<s2.2.2))then
  if 0<=s2.2.2/\s2.2.2<((s2.1.length:Nat):Int)then
   if 0<=s2.2.1/\s2.2.1<((s2.1.length:Nat):Int)then
    if 0<=s2.2.1/\s2.2.1<((s2.1.length:Nat):Int)then
     if 0<=s2.2.2/\s2.2.2<((s2.1.length:Nat):Int)then
      some (.next (((s2.1.set (s2.2.1.toNat) (s2.1.getD (s2.2.2.toNat) 0)).set (s2.2.2.toNat) (s2.1.getD (s2.2.1.toNat) 0)),(IntKind.wrap .i64 (s2.2.1+(1:Int))),(IntKind.wrap .i64 (s2.2.2-(1:Int)))))
     else none
    else none
   else none
  else none
 else
  some (.done s2.1)
noncomputable def Ep (Ae:(List Int)) (AL:Int) (Bq:Int):Option (List Int):=
 Option.bind (iter (CK) (Ae,AL,(IntKind.wrap .i64 (Bq-(1:Int))))) fun s5=>
 some s5
noncomputable def Bv (Bq:Int) (VQ:(List Int)×Int):Option (Stp ((List Int)×Int) (List Int)):=
 bif (decide (VQ.2<Bq))then
  if 0<=VQ.2/\VQ.2<((VQ.1.length:Nat):Int)then
   if 0<=(IntKind.wrap .i64 (VQ.2-(1:Int)))/\(IntKind.wrap .i64 (VQ.2-(1:Int)))<((VQ.1.length:Nat):Int)then
    Option.bind (BN (VQ.1.getD (VQ.2.toNat) 0) (VQ.1.getD ((IntKind.wrap .i64 (VQ.2-(1:Int))).toNat) 0)) fun nN=>
    bif (!nN)then
     some (.done VQ.1)
    else
     if 0<=(IntKind.wrap .i64 (VQ.2-(1:Int)))/\(IntKind.wrap .i64 (VQ.2-(1:Int)))<((VQ.1.length:Nat):Int)then
      if 0<=VQ.2/\VQ.2<((VQ.1.length:Nat):Int)then
       if 0<=VQ.2/\VQ.2<((VQ.1.length:Nat):Int)then
        if 0<=(IntKind.wrap .i64 (VQ.2-(1:Int)))/\(IntKind.wrap .i64 (VQ.2-(1:Int)))<((VQ.1.length:Nat):Int)then
         some (.next (((VQ.1.set (VQ.2.toNat) (VQ.1.getD ((IntKind.wrap .i64 (VQ.2-(1:Int))).toNat) 0)).set ((IntKind.wrap .i64 (VQ.2-(1:Int))).toNat) (VQ.1.getD (VQ.2.toNat) 0)),(IntKind.wrap .i64 (VQ.2+(1:Int)))))
        else none
       else none
      else none
     else none
   else none
  else none
 else
  some (.done VQ.1)
noncomputable def Cv (Bq:Int) (s9:Int) (s11:(List Int)):Option (Sum ((List Int)×Int) ((List Int)×Bool)):=
 bif (decide ((IntKind.wrap .i64 (Bq-s9))>=(2:Int)))then
  Option.bind (iter (Bv Bq) (s11,(IntKind.wrap .i64 (s9+(1:Int))))) fun s18=>
  some (.inl (s18,s9))
 else
  some (.inl (s11,s9))
noncomputable def Bw (s20:(List Int)×Int):Option (Stp ((List Int)×Int) (List Int)):=
 bif (decide (s20.2>=(1:Int)))then
  if 0<=s20.2/\s20.2<((s20.1.length:Nat):Int)then
   if 0<=(IntKind.wrap .i64 (s20.2-(1:Int)))/\(IntKind.wrap .i64 (s20.2-(1:Int)))<((s20.1.length:Nat):Int)then
    Option.bind (BN (s20.1.getD (s20.2.toNat) 0) (s20.1.getD ((IntKind.wrap .i64 (s20.2-(1:Int))).toNat) 0)) fun y23=>
    bif (!y23)then
     some (.done s20.1)
    else
     if 0<=(IntKind.wrap .i64 (s20.2-(1:Int)))/\(IntKind.wrap .i64 (s20.2-(1:Int)))<((s20.1.length:Nat):Int)then
      if 0<=s20.2/\s20.2<((s20.1.length:Nat):Int)then
       if 0<=s20.2/\s20.2<((s20.1.length:Nat):Int)then
        if 0<=(IntKind.wrap .i64 (s20.2-(1:Int)))/\(IntKind.wrap .i64 (s20.2-(1:Int)))<((s20.1.length:Nat):Int)then
         some (.next (((s20.1.set (s20.2.toNat) (s20.1.getD ((IntKind.wrap .i64 (s20.2-(1:Int))).toNat) 0)).set ((IntKind.wrap .i64 (s20.2-(1:Int))).toNat) (s20.1.getD (s20.2.toNat) 0)),(IntKind.wrap .i64 (s20.2-(1:Int)))))
        else none
       else none
      else none
     else none
   else none
  else none
 else
  some (.done s20.1)
noncomputable def Cu (AL:Int) (Bq:Int) (s4:(List Int)×Int×Int) (s9:Int):Option (Sum ((List Int)×Int) ((List Int)×Bool)):=
 bif (s9==Bq)then
  some (.inr (s4.1,true))
 else
  bif (decide ((IntKind.wrap .i64 (Bq-AL))<(50:Int)))then
   some (.inr (s4.1,false))
  else
   if 0<=(IntKind.wrap .i64 (s9-(1:Int)))/\(IntKind.wrap .i64 (s9-(1:Int)))<((s4.1.length:Nat):Int)then
    if 0<=s9/\s9<((s4.1.length:Nat):Int)then
     if 0<=s9/\s9<((s4.1.length:Nat):Int)then
      if 0<=(IntKind.wrap .i64 (s9-(1:Int)))/\(IntKind.wrap .i64 (s9-(1:Int)))<((s4.1.length:Nat):Int)then
       Option.bind (
        bif (decide ((IntKind.wrap .i64 (s9-AL))>=(2:Int)))then
         Option.bind (iter (Bw) (((s4.1.set (s9.toNat) (s4.1.getD ((IntKind.wrap .i64 (s9-(1:Int))).toNat) 0)).set ((IntKind.wrap .i64 (s9-(1:Int))).toNat) (s4.1.getD (s9.toNat) 0)),(IntKind.wrap .i64 (s9-(1:Int))))) fun s24=>
         some s24
        else
         some ((s4.1.set (s9.toNat) (s4.1.getD ((IntKind.wrap .i64 (s9-(1:Int))).toNat) 0)).set ((IntKind.wrap .i64 (s9-(1:Int))).toNat) (s4.1.getD (s9.toNat) 0)):Option (List Int)) fun s11=>
       Cv Bq s9 s11
      else none
     else none
    else none
   else none
noncomputable def BM (s26:Int) (s29:Bool):Option (Stp Int Int):=
 bif s29 then
  some (.next (IntKind.wrap .i64 (s26+(1:Int))))
 else
  some (.done s26)
noncomputable def Bz (Bq:Int) (s4:(List Int)×Int×Int) (s26:Int):Option (Stp Int Int):=
 Option.bind (
  bif (decide (s26<Bq))then
   if 0<=s26/\s26<((s4.1.length:Nat):Int)then
    if 0<=(IntKind.wrap .i64 (s26-(1:Int)))/\(IntKind.wrap .i64 (s26-(1:Int)))<((s4.1.length:Nat):Int)then
     Option.bind (BN (s4.1.getD (s26.toNat) 0) (s4.1.getD ((IntKind.wrap .i64 (s26-(1:Int))).toNat) 0)) fun y31=>
     some (!y31)
    else none
   else none
  else
   some false:Option Bool) fun s29=>
 BM s26 s29
noncomputable def BF (AL:Int) (Bq:Int) (s4:(List Int)×Int×Int):Option (Stp ((List Int)×Int×Int) (Sum (List Int) ((List Int)×Bool))):=
 bif (decide (s4.2.2<(5:Int)))then
  Option.bind (
   Option.bind (
    iter (Bz Bq s4) s4.2.1:Option Int) fun s9=>
   Cu AL Bq s4 s9:Option (Sum ((List Int)×Int) ((List Int)×Bool))) fun z=>
  match z with
  | .inl s7=>
   some (.next (s7.1,s7.2,(IntKind.wrap .i64 (s4.2.2+(1:Int)))))
  | .inr (v33)=>
   some (.done (.inr (v33.1,v33.2)))
 else
  some (.done (.inl s4.1))
noncomputable def Da (Ae:(List Int)) (AL:Int) (Bq:Int):Option ((List Int)×Bool):=
 Option.bind (
  iter (BF AL Bq) (Ae,(IntKind.wrap .i64 (AL+(1:Int))),(0:Int)):Option (Sum (List Int) ((List Int)×Bool))) fun z=>
 match z with
 | .inl s1=>
  some (s1,false)
 | .inr (v36)=>
  some v36
noncomputable def Dl (s4:(List Int)×Int×Int) (s7:Int) (s9:Int):Option (Stp ((List Int)×Int×Int) ((List Int)×Int)):=
 bif (decide (s7>s9))then
  some (.done (s4.1,s7))
 else
  if 0<=s9/\s9<((s4.1.length:Nat):Int)then
   if 0<=s7/\s7<((s4.1.length:Nat):Int)then
    if 0<=s7/\s7<((s4.1.length:Nat):Int)then
     if 0<=s9/\s9<((s4.1.length:Nat):Int)then
      some (.next (((s4.1.set (s7.toNat) (s4.1.getD (s9.toNat) 0)).set (s9.toNat) (s4.1.getD (s7.toNat) 0)),(IntKind.wrap .i64 (s7+(1:Int))),(IntKind.wrap .i64 (s9-(1:Int)))))
     else none
    else none
   else none
  else none
noncomputable def ES (s12:Int) (s15:Bool):Option (Stp Int Int):=
 bif s15 then
  some (.next (IntKind.wrap .i64 (s12-(1:Int))))
 else
  some (.done s12)
noncomputable def Dm (AL:Int) (s4:(List Int)×Int×Int) (s7:Int) (s12:Int):Option (Stp Int Int):=
 Option.bind (
  bif (decide (s7<=s12))then
   if 0<=AL/\AL<((s4.1.length:Nat):Int)then
    if 0<=s12/\s12<((s4.1.length:Nat):Int)then
     Option.bind (BN (s4.1.getD (AL.toNat) 0) (s4.1.getD (s12.toNat) 0)) fun nN=>
     some nN
    else none
   else none
  else
   some false:Option Bool) fun s15=>
 ES s12 s15
noncomputable def Dv (AL:Int) (s4:(List Int)×Int×Int) (s7:Int):Option (Stp ((List Int)×Int×Int) ((List Int)×Int)):=
 Option.bind (
  iter (Dm AL s4 s7) s4.2.2:Option Int) fun s9=>
 Dl s4 s7 s9
noncomputable def ET (s20:Int) (Kr:Bool):Option (Stp Int Int):=
 bif Kr then
  some (.next (IntKind.wrap .i64 (s20+(1:Int))))
 else
  some (.done s20)
noncomputable def Dn (AL:Int) (s4:(List Int)×Int×Int) (s20:Int):Option (Stp Int Int):=
 Option.bind (
  bif (decide (s20<=s4.2.2))then
   if 0<=AL/\AL<((s4.1.length:Nat):Int)then
    if 0<=s20/\s20<((s4.1.length:Nat):Int)then
     Option.bind (BN (s4.1.getD (AL.toNat) 0) (s4.1.getD (s20.toNat) 0)) fun y25=>
     some (!y25)
    else none
   else none
  else
   some false:Option Bool) fun Kr=>
 ET s20 Kr
noncomputable def Co (AL:Int) (s4:(List Int)×Int×Int):Option (Stp ((List Int)×Int×Int) ((List Int)×Int)):=
 Option.bind (
  iter (Dn AL s4) s4.2.1:Option Int) fun s7=>
 Dv AL s4 s7
noncomputable def DR (Ae:(List Int)) (AL:Int) (Bq:Int) (AU:Int):Option ((List Int)×Int):=
 if 0<=AU/\AU<((Ae.length:Nat):Int)then
  if 0<=AL/\AL<((Ae.length:Nat):Int)then
   if 0<=AL/\AL<((Ae.length:Nat):Int)then
    if 0<=AU/\AU<((Ae.length:Nat):Int)then
     Option.bind (
      iter (Co AL) (((Ae.set (AL.toNat) (Ae.getD (AU.toNat) 0)).set (AU.toNat) (Ae.getD (AL.toNat) 0)),(IntKind.wrap .i64 (AL+(1:Int))),(IntKind.wrap .i64 (Bq-(1:Int)))):Option ((List Int)×Int)) fun s1=>
     some (s1.1,s1.2)
    else none
   else none
  else none
 else none
noncomputable def Ga (AL:Int) (s5:(List Int)×Int):Option ((List Int)×Int×Bool):=
 if 0<=AL/\AL<((s5.1.length:Nat):Int)then
  if 0<=s5.2/\s5.2<((s5.1.length:Nat):Int)then
   if 0<=s5.2/\s5.2<((s5.1.length:Nat):Int)then
    if 0<=AL/\AL<((s5.1.length:Nat):Int)then
     some (((s5.1.set (s5.2.toNat) (s5.1.getD (AL.toNat) 0)).set (AL.toNat) (s5.1.getD (s5.2.toNat) 0)),s5.2,false)
    else none
   else none
  else none
 else none
noncomputable def D9 (s8:(List Int)×Int×Int) (s11:Int) (s13:Int):Option (Stp ((List Int)×Int×Int) ((List Int)×Int)):=
 bif (decide (s11>s13))then
  some (.done (s8.1,s13))
 else
  if 0<=s13/\s13<((s8.1.length:Nat):Int)then
   if 0<=s11/\s11<((s8.1.length:Nat):Int)then
    if 0<=s11/\s11<((s8.1.length:Nat):Int)then
     if 0<=s13/\s13<((s8.1.length:Nat):Int)then
      some (.next (((s8.1.set (s11.toNat) (s8.1.getD (s13.toNat) 0)).set (s13.toNat) (s8.1.getD (s11.toNat) 0)),(IntKind.wrap .i64 (s11+(1:Int))),(IntKind.wrap .i64 (s13-(1:Int)))))
     else none
    else none
   else none
  else none
noncomputable def FP (s16:Int) (Vv:Bool):Option (Stp Int Int):=
 bif Vv then
  some (.next (IntKind.wrap .i64 (s16-(1:Int))))
 else
  some (.done s16)
noncomputable def Ed (AL:Int) (s8:(List Int)×Int×Int) (s11:Int) (s16:Int):Option (Stp Int Int):=
 Option.bind (
  bif (decide (s11<=s16))then
   if 0<=s16/\s16<((s8.1.length:Nat):Int)then
    if 0<=AL/\AL<((s8.1.length:Nat):Int)then
     Option.bind (BN (s8.1.getD (s16.toNat) 0) (s8.1.getD (AL.toNat) 0)) fun y21=>
     some (!y21)
    else none
   else none
  else
   some false:Option Bool) fun Vv=>
 FP s16 Vv
noncomputable def D8 (AL:Int) (s8:(List Int)×Int×Int) (s11:Int):Option (Stp ((List Int)×Int×Int) ((List Int)×Int)):=
 Option.bind (
  iter (Ed AL s8 s11) s8.2.2:Option Int) fun s13=>
 D9 s8 s11 s13
noncomputable def FQ (s24:Int) (s27:Bool):Option (Stp Int Int):=
 bif s27 then
  some (.next (IntKind.wrap .i64 (s24+(1:Int))))
 else
  some (.done s24)
noncomputable def Ee (AL:Int) (s8:(List Int)×Int×Int) (s24:Int):Option (Stp Int Int):=
 Option.bind (
  bif (decide (s24<=s8.2.2))then
   if 0<=s24/\s24<((s8.1.length:Nat):Int)then
    if 0<=AL/\AL<((s8.1.length:Nat):Int)then
     Option.bind (BN (s8.1.getD (s24.toNat) 0) (s8.1.getD (AL.toNat) 0)) fun y29=>
     some y29
    else none
   else none
  else
   some false:Option Bool) fun s27=>
 FQ s24 s27
noncomputable def Dg (AL:Int) (s8:(List Int)×Int×Int):Option (Stp ((List Int)×Int×Int) ((List Int)×Int)):=
 Option.bind (
  iter (Ee AL s8) s8.2.1:Option Int) fun s11=>
 D8 AL s8 s11
noncomputable def F9 (Ae:(List Int)) (AL:Int) (AU:Int) (s1:Int) (s3:Int):Option ((List Int)×Int×Bool):=
 bif (decide (s1>s3))then
  if 0<=AL/\AL<((((Ae.set (AL.toNat) (Ae.getD (AU.toNat) 0)).set (AU.toNat) (Ae.getD (AL.toNat) 0)).length:Nat):Int)then
   if 0<=s3/\s3<((((Ae.set (AL.toNat) (Ae.getD (AU.toNat) 0)).set (AU.toNat) (Ae.getD (AL.toNat) 0)).length:Nat):Int)then
    if 0<=s3/\s3<((((Ae.set (AL.toNat) (Ae.getD (AU.toNat) 0)).set (AU.toNat) (Ae.getD (AL.toNat) 0)).length:Nat):Int)then
     if 0<=AL/\AL<((((Ae.set (AL.toNat) (Ae.getD (AU.toNat) 0)).set (AU.toNat) (Ae.getD (AL.toNat) 0)).length:Nat):Int)then
      some (((((Ae.set (AL.toNat) (Ae.getD (AU.toNat) 0)).set (AU.toNat) (Ae.getD (AL.toNat) 0)).set (s3.toNat) (((Ae.set (AL.toNat) (Ae.getD (AU.toNat) 0)).set (AU.toNat) (Ae.getD (AL.toNat) 0)).getD (AL.toNat) 0)).set (AL.toNat) (((Ae.set (AL.toNat) (Ae.getD (AU.toNat) 0)).set (AU.toNat) (Ae.getD (AL.toNat) 0)).getD (s3.toNat) 0)),s3,true)
     else none
    else none
   else none
  else none
 else
  if 0<=s3/\s3<((((Ae.set (AL.toNat) (Ae.getD (AU.toNat) 0)).set (AU.toNat) (Ae.getD (AL.toNat) 0)).length:Nat):Int)then
   if 0<=s1/\s1<((((Ae.set (AL.toNat) (Ae.getD (AU.toNat) 0)).set (AU.toNat) (Ae.getD (AL.toNat) 0)).length:Nat):Int)then
    if 0<=s1/\s1<((((Ae.set (AL.toNat) (Ae.getD (AU.toNat) 0)).set (AU.toNat) (Ae.getD (AL.toNat) 0)).length:Nat):Int)then
     if 0<=s3/\s3<((((Ae.set (AL.toNat) (Ae.getD (AU.toNat) 0)).set (AU.toNat) (Ae.getD (AL.toNat) 0)).length:Nat):Int)then
      Option.bind (
       iter (Dg AL) (((((Ae.set (AL.toNat) (Ae.getD (AU.toNat) 0)).set (AU.toNat) (Ae.getD (AL.toNat) 0)).set (s1.toNat) (((Ae.set (AL.toNat) (Ae.getD (AU.toNat) 0)).set (AU.toNat) (Ae.getD (AL.toNat) 0)).getD (s3.toNat) 0)).set (s3.toNat) (((Ae.set (AL.toNat) (Ae.getD (AU.toNat) 0)).set (AU.toNat) (Ae.getD (AL.toNat) 0)).getD (s1.toNat) 0)),(IntKind.wrap .i64 (s1+(1:Int))),(IntKind.wrap .i64 (s3-(1:Int)))):Option ((List Int)×Int)) fun s5=>
      Ga AL s5
     else none
    else none
   else none
  else none
noncomputable def FR (s33:Int) (bK:Bool):Option (Stp Int Int):=
 bif bK then
  some (.next (IntKind.wrap .i64 (s33-(1:Int))))
 else
  some (.done s33)
noncomputable def Ef (Ae:(List Int)) (AL:Int) (AU:Int) (s1:Int) (s33:Int):Option (Stp Int Int):=
 Option.bind (
  bif (decide (s1<=s33))then
   if 0<=s33/\s33<((((Ae.set (AL.toNat) (Ae.getD (AU.toNat) 0)).set (AU.toNat) (Ae.getD (AL.toNat) 0)).length:Nat):Int)then
    if 0<=AL/\AL<((((Ae.set (AL.toNat) (Ae.getD (AU.toNat) 0)).set (AU.toNat) (Ae.getD (AL.toNat) 0)).length:Nat):Int)then
     Option.bind (BN (((Ae.set (AL.toNat) (Ae.getD (AU.toNat) 0)).set (AU.toNat) (Ae.getD (AL.toNat) 0)).getD (s33.toNat) 0) (((Ae.set (AL.toNat) (Ae.getD (AU.toNat) 0)).set (AU.toNat) (Ae.getD (AL.toNat) 0)).getD (AL.toNat) 0)) fun y38=>
     some (!y38)
    else none
   else none
  else
   some false:Option Bool) fun bK=>
 FR s33 bK
noncomputable def F8 (Ae:(List Int)) (AL:Int) (Bq:Int) (AU:Int) (s1:Int):Option ((List Int)×Int×Bool):=
 Option.bind (
  iter (Ef Ae AL AU s1) (IntKind.wrap .i64 (Bq-(1:Int))):Option Int) fun s3=>
 F9 Ae AL AU s1 s3
noncomputable def FT (s41:Int) (s44:Bool):Option (Stp Int Int):=
 bif s44 then
  some (.next (IntKind.wrap .i64 (s41+(1:Int))))
 else
  some (.done s41)
noncomputable def C9 (Ae:(List Int)) (AL:Int) (Bq:Int) (AU:Int) (s41:Int):Option (Stp Int Int):=
 Option.bind (
  bif (decide (s41<=(IntKind.wrap .i64 (Bq-(1:Int)))))then
   if 0<=s41/\s41<((((Ae.set (AL.toNat) (Ae.getD (AU.toNat) 0)).set (AU.toNat) (Ae.getD (AL.toNat) 0)).length:Nat):Int)then
    if 0<=AL/\AL<((((Ae.set (AL.toNat) (Ae.getD (AU.toNat) 0)).set (AU.toNat) (Ae.getD (AL.toNat) 0)).length:Nat):Int)then
     Option.bind (BN (((Ae.set (AL.toNat) (Ae.getD (AU.toNat) 0)).set (AU.toNat) (Ae.getD (AL.toNat) 0)).getD (s41.toNat) 0) (((Ae.set (AL.toNat) (Ae.getD (AU.toNat) 0)).set (AU.toNat) (Ae.getD (AL.toNat) 0)).getD (AL.toNat) 0)) fun y46=>
     some y46
    else none
   else none
  else
   some false:Option Bool) fun s44=>
 FT s41 s44
noncomputable def DI (Ae:(List Int)) (AL:Int) (Bq:Int) (AU:Int):Option ((List Int)×Int×Bool):=
 if 0<=AU/\AU<((Ae.length:Nat):Int)then
  if 0<=AL/\AL<((Ae.length:Nat):Int)then
   if 0<=AL/\AL<((Ae.length:Nat):Int)then
    if 0<=AU/\AU<((Ae.length:Nat):Int)then
     Option.bind (
      iter (C9 Ae AL Bq AU) (IntKind.wrap .i64 (AL+(1:Int))):Option Int) fun s1=>
     F8 Ae AL Bq AU s1
    else none
   else none
  else none
 else none
noncomputable def IQ (Zx:Int):Option Int:=
 Option.bind (L6 (IntKind.wrap .u64 Zx)) fun y1=>
 if 0<=y1 then
  some (IntKind.wrap .u64 ((1:Int)*2 ^ (min (y1).toNat (IntKind.bits .u64))))
 else none
noncomputable def FU (p_r:Int):Option (Int×Int):=
 some ((Wv .u64 (Wv .u64 (Wv .u64 p_r (IntKind.wrap .u64 (p_r*8192))) (Int.fdiv (Wv .u64 p_r (IntKind.wrap .u64 (p_r*8192))) 128)) (IntKind.wrap .u64 ((Wv .u64 (Wv .u64 p_r (IntKind.wrap .u64 (p_r*8192))) (Int.fdiv (Wv .u64 p_r (IntKind.wrap .u64 (p_r*8192))) 128))*131072))),(Wv .u64 (Wv .u64 (Wv .u64 p_r (IntKind.wrap .u64 (p_r*8192))) (Int.fdiv (Wv .u64 p_r (IntKind.wrap .u64 (p_r*8192))) 128)) (IntKind.wrap .u64 ((Wv .u64 (Wv .u64 p_r (IntKind.wrap .u64 (p_r*8192))) (Int.fdiv (Wv .u64 p_r (IntKind.wrap .u64 (p_r*8192))) 128))*131072))))
noncomputable def Dy (AL:Int) (s3:(List Int)×Int×Int) (y6:Int×Int) (s7:Int):Option (Stp ((List Int)×Int×Int) (List Int)):=
 if 0<=(IntKind.wrap .i64 (AL+s7))/\(IntKind.wrap .i64 (AL+s7))<((s3.1.length:Nat):Int)then
  if 0<=s3.2.2/\s3.2.2<((s3.1.length:Nat):Int)then
   if 0<=s3.2.2/\s3.2.2<((s3.1.length:Nat):Int)then
    if 0<=(IntKind.wrap .i64 (AL+s7))/\(IntKind.wrap .i64 (AL+s7))<((s3.1.length:Nat):Int)then
     some (.next (((s3.1.set (s3.2.2.toNat) (s3.1.getD ((IntKind.wrap .i64 (AL+s7)).toNat) 0)).set ((IntKind.wrap .i64 (AL+s7)).toNat) (s3.1.getD (s3.2.2.toNat) 0)),y6.1,(IntKind.wrap .i64 (s3.2.2+(1:Int)))))
    else none
   else none
  else none
 else none
noncomputable def Cy (AL:Int) (Bq:Int) (y1:Int) (s3:(List Int)×Int×Int):Option (Stp ((List Int)×Int×Int) (List Int)):=
 bif (decide (s3.2.2<=(IntKind.wrap .i64 ((IntKind.wrap .i64 (AL+(IntKind.wrap .i64 ((IntKind.wrap .i64 (Int.tdiv (IntKind.wrap .i64 (Bq-AL)) (4:Int)))*(2:Int)))))+(1:Int)))))then
  Option.bind (FU s3.2.1) fun y6=>
  Option.bind (
   bif (decide ((IntKind.wrap .i64 (XI .u64 y6.2 (IntKind.wrap .u64 (y1-(1:Int)))))>=(IntKind.wrap .i64 (Bq-AL))))then
    some (IntKind.wrap .i64 ((IntKind.wrap .i64 (XI .u64 y6.2 (IntKind.wrap .u64 (y1-(1:Int)))))-(IntKind.wrap .i64 (Bq-AL))))
   else
    some (IntKind.wrap .i64 (XI .u64 y6.2 (IntKind.wrap .u64 (y1-(1:Int))))):Option Int) fun s7=>
  Dy AL s3 y6 s7
 else
  some (.done s3.1)
noncomputable def D6 (Ae:(List Int)) (AL:Int) (Bq:Int):Option (List Int):=
 bif (decide ((IntKind.wrap .i64 (Bq-AL))>=(8:Int)))then
  Option.bind (IQ (IntKind.wrap .i64 (Bq-AL))) fun y1=>
  Option.bind (iter (Cy AL Bq y1) (Ae,(IntKind.wrap .u64 (IntKind.wrap .i64 (Bq-AL))),(IntKind.wrap .i64 ((IntKind.wrap .i64 (AL+(IntKind.wrap .i64 ((IntKind.wrap .i64 (Int.tdiv (IntKind.wrap .i64 (Bq-AL)) (4:Int)))*(2:Int)))))-(1:Int))))) fun s9=>
  some s9
 else
  some Ae
noncomputable def Ba (IB:(List Int)->Int->Int->Int->Option (List Int)) (s3:(List Int)×Int×Int×Int×Bool×Bool) (s8:(List Int)×Int) (s11:(List Int)×Int×Int) (s13:(List Int)) (s15:Bool):Option (Stp ((List Int)×Int×Int×Int×Bool×Bool) (List Int)):=
 bif s15 then
  Option.bind (DR s13 s3.2.1 s3.2.2.1 s11.2.1) fun nN=>
  if nN.1.length=s13.length then
   some (.next (nN.1,nN.2,s3.2.2.1,s8.2,s3.2.2.2.2.1,s3.2.2.2.2.2))
  else none
 else
  Option.bind (DI s13 s3.2.1 s3.2.2.1 s11.2.1) fun nO=>
  if nO.1.length=s13.length then
   bif (decide ((IntKind.wrap .i64 (nO.2.1-s3.2.1))<(IntKind.wrap .i64 (s3.2.2.1-nO.2.1))))then
    Option.bind (IB nO.1 s3.2.1 nO.2.1 s8.2) fun wO=>
    if wO.length=nO.1.length then
     some (.next (wO,(IntKind.wrap .i64 (nO.2.1+(1:Int))),s3.2.2.1,s8.2,(decide ((IntKind.wrap .i64 (nO.2.1-s3.2.1))>=(IntKind.wrap .i64 (Int.tdiv (IntKind.wrap .i64 (s3.2.2.1-s3.2.1)) (8:Int))))),nO.2.2))
    else none
   else
    Option.bind (IB nO.1 (IntKind.wrap .i64 (nO.2.1+(1:Int))) s3.2.2.1 s8.2) fun y20=>
    if y20.length=nO.1.length then
     some (.next (y20,s3.2.1,nO.2.1,s8.2,(decide ((IntKind.wrap .i64 (s3.2.2.1-nO.2.1))>=(IntKind.wrap .i64 (Int.tdiv (IntKind.wrap .i64 (s3.2.2.1-s3.2.1)) (8:Int))))),nO.2.2))
    else none
  else none
noncomputable def BQ (IB:(List Int)->Int->Int->Int->Option (List Int)) (s3:(List Int)×Int×Int×Int×Bool×Bool) (s8:(List Int)×Int) (s11:(List Int)×Int×Int) (s13:(List Int)):Option (Stp ((List Int)×Int×Int×Int×Bool×Bool) (List Int)):=
 Option.bind (
  bif (decide (s3.2.1>(0:Int)))then
   if 0<=(IntKind.wrap .i64 (s3.2.1-(1:Int)))/\(IntKind.wrap .i64 (s3.2.1-(1:Int)))<((s13.length:Nat):Int)then
    if 0<=s11.2.1/\s11.2.1<((s13.length:Nat):Int)then
     Option.bind (BN (s13.getD ((IntKind.wrap .i64 (s3.2.1-(1:Int))).toNat) 0) (s13.getD (s11.2.1.toNat) 0)) fun y21=>
     some (!y21)
    else none
   else none
  else
   some false:Option Bool) fun s15=>
 Ba IB s3 s8 s11 s13 s15
noncomputable def BH (s3:(List Int)×Int×Int×Int×Bool×Bool) (s11:(List Int)×Int×Int) (s22:Bool):Option (Sum (List Int) (List Int)):=
 bif s22 then
  Option.bind (Da s11.1 s3.2.1 s3.2.2.1) fun y24=>
  if y24.1.length=s11.1.length then
   bif y24.2 then
    some (.inr y24.1)
   else
    some (.inl y24.1)
  else none
 else
  some (.inl s11.1)
noncomputable def Ey (IB:(List Int)->Int->Int->Int->Option (List Int)) (s3:(List Int)×Int×Int×Int×Bool×Bool) (s8:(List Int)×Int) (s11:(List Int)×Int×Int):Option (Stp ((List Int)×Int×Int×Int×Bool×Bool) (List Int)):=
 Option.bind (
  Option.bind (
   bif s3.2.2.2.2.1 then
    bif s3.2.2.2.2.2 then
     some (s11.2.2==(1:Int))
    else
     some false
   else
    some false:Option Bool) fun s22=>
  BH s3 s11 s22:Option (Sum (List Int) (List Int))) fun z=>
 match z with
 | .inl s13=>
  BQ IB s3 s8 s11 s13
 | .inr (v25)=>
  some (.done v25)
noncomputable def Dw (IB:(List Int)->Int->Int->Int->Option (List Int)) (s3:(List Int)×Int×Int×Int×Bool×Bool) (s8:(List Int)×Int):Option (Stp ((List Int)×Int×Int×Int×Bool×Bool) (List Int)):=
 Option.bind (FC s8.1 s3.2.1 s3.2.2.1) fun Rf=>
 Option.bind (
  bif (Rf.2==(2:Int))then
   Option.bind (Ep s8.1 s3.2.1 s3.2.2.1) fun wL=>
   if wL.length=s8.1.length then
    some (wL,(IntKind.wrap .i64 ((IntKind.wrap .i64 (s3.2.2.1-(1:Int)))-(IntKind.wrap .i64 (Rf.1-s3.2.1)))),(1:Int))
   else none
  else
   some (s8.1,Rf.1,Rf.2):Option ((List Int)×Int×Int)) fun s11=>
 Ey IB s3 s8 s11
noncomputable def AY (IB:(List Int)->Int->Int->Int->Option (List Int)) (s3:(List Int)×Int×Int×Int×Bool×Bool):Option (Stp ((List Int)×Int×Int×Int×Bool×Bool) (List Int)):=
 bif (decide ((IntKind.wrap .i64 (s3.2.2.1-s3.2.1))<=(12:Int)))then
  Option.bind (D7 s3.1 s3.2.1 s3.2.2.1) fun y6=>
  if y6.length=s3.1.length then
   some (.done y6)
  else none
 else
  bif (s3.2.2.2.1==(0:Int))then
   Option.bind (Fq s3.1 s3.2.1 s3.2.2.1) fun y7=>
   if y7.length=s3.1.length then
    some (.done y7)
   else none
  else
   Option.bind (
    bif (!s3.2.2.2.2.1)then
     Option.bind (D6 s3.1 s3.2.1 s3.2.2.1) fun y27=>
     if y27.length=s3.1.length then
      some (y27,(IntKind.wrap .i64 (s3.2.2.2.1-(1:Int))))
     else none
    else
     some (s3.1,s3.2.2.2.1):Option ((List Int)×Int)) fun s8=>
   Dw IB s3 s8
noncomputable def IU (IB:(List Int)->Int->Int->Int->Option (List Int)) (Ae:(List Int)) (AL:Int) (Bq:Int) (Ip:Int):Option (List Int):=
 Option.bind (iter (AY IB) (Ae,AL,Bq,Ip,true,true)) fun v28=>
 some v28
noncomputable def Ah:Nat->(List Int)->Int->Int->Int->Option (List Int)
 |0=>fun _ _ _ _=>none
 |n+1=>IU (Ah n)
noncomputable def Eh (Ae:(List Int)) (AL:Int) (Bq:Int) (Ip:Int):Option (List Int):=
 match Ah 3 Ae AL Bq Ip with
 |some r=>some r
 |none=> @dite _ (∃n,(Ah n Ae AL Bq Ip).isSome=true) (Classical.propDecidable _) (fun h=>Ah (Classical.choose h) Ae AL Bq Ip) (fun _=>none)
noncomputable def GJ (KA:(List Int)):Option (List Int):=
 Option.bind (L6 (IntKind.wrap .u64 ((KA.length:Nat):Int))) fun y1=>
 Option.bind (Eh KA (0:Int) ((KA.length:Nat):Int) y1) fun y2=>
 if y2.length=KA.length then
  some y2
 else none
noncomputable def JE (s9:(List Int)×Int):Option (Sum Unit ((List Int)×Nat)):=
 if 0<=s9.2/\s9.2<=((s9.1.length:Nat):Int)/\((s9.1.length:Nat):Int)<=((s9.1.length:Nat):Int)then
  if(s9.2.toNat)+(s9.1.length-(s9.2.toNat))<=s9.1.length then
   if 0<=s9.2/\s9.2<=((s9.1.length:Nat):Int)then
    some (.inr ((s9.1.take (s9.2.toNat)++(List.replicate (s9.1.length-(s9.2.toNat)) 0++s9.1.drop ((s9.2.toNat)+(s9.1.length-(s9.2.toNat))))),(s9.2.toNat)))
   else none
  else none
 else none
noncomputable def Cb (BA:(List Int)) (s4:Int) (s12:(List Int)×Int×Int):Option (Stp ((List Int)×Int×Int) ((List Int)×Int)):=
 bif (decide (s12.2.2<(((BA.length-(s4.toNat)):Nat):Int)))then
  if 0<=s12.2.2/\s12.2.2<(((BA.length-(s4.toNat)):Nat):Int)then
   if 0<=(IntKind.wrap .i64 (s12.2.2-(1:Int)))/\(IntKind.wrap .i64 (s12.2.2-(1:Int)))<(((BA.length-(s4.toNat)):Nat):Int)then
    bif ((s12.1.getD ((s4.toNat)+(s12.2.2.toNat)) 0) != (s12.1.getD ((s4.toNat)+((IntKind.wrap .i64 (s12.2.2-(1:Int))).toNat)) 0))then
     if 0<=s12.2.2/\s12.2.2<(((BA.length-(s4.toNat)):Nat):Int)then
      if 0<=s12.2.1/\s12.2.1<((s12.1.length:Nat):Int)then
       some (.next ((s12.1.set (s12.2.1.toNat) (s12.1.getD ((s4.toNat)+(s12.2.2.toNat)) 0)),(IntKind.wrap .i64 (s12.2.1+(1:Int))),(IntKind.wrap .i64 (s12.2.2+(1:Int)))))
      else none
     else none
    else
     some (.next (s12.1,s12.2.1,(IntKind.wrap .i64 (s12.2.2+(1:Int)))))
   else none
  else none
 else
  some (.done (s12.1,s12.2.1))
noncomputable def CW (BA:(List Int)) (s4:Int):Option (Stp Int (Sum Unit ((List Int)×Nat))):=
 bif (decide (s4<((BA.length:Nat):Int)))then
  Option.bind (
   if 0<=s4/\s4<((BA.length:Nat):Int)then
    if 0<=(IntKind.wrap .i64 (s4-(1:Int)))/\(IntKind.wrap .i64 (s4-(1:Int)))<((BA.length:Nat):Int)then
     bif ((BA.getD (s4.toNat) 0)==(BA.getD ((IntKind.wrap .i64 (s4-(1:Int))).toNat) 0))then
      if 0<=s4/\s4<=((BA.length:Nat):Int)/\((BA.length:Nat):Int)<=((BA.length:Nat):Int)then
       Option.bind (
        iter (Cb BA s4) (BA,s4,(1:Int)):Option ((List Int)×Int)) fun s9=>
       JE s9
      else none
     else
      some (.inl ())
    else none
   else none:Option (Sum Unit ((List Int)×Nat))) fun z=>
  match z with
  | .inl s7=>
   some (.next (IntKind.wrap .i64 (s4+(1:Int))))
  | .inr (v16)=>
   some (.done (.inr (v16.1,v16.2)))
 else
  some (.done (.inl ()))
noncomputable def F6 (BA:(List Int)):Option ((List Int)×Nat):=
 bif (decide (((BA.length:Nat):Int)<(2:Int)))then
  some (BA,BA.length)
 else
  Option.bind (
   iter (CW BA) (1:Int):Option (Sum Unit ((List Int)×Nat))) fun z=>
  match z with
  | .inl s1=>
   some (BA,BA.length)
  | .inr (v19)=>
   some v19
noncomputable def JO (CV:Int) (Ci:Bool) (Fp:Bool) (CO:(List Int)) (Fv:Int) (Fw:Int) (EP:Int) (YF:Int):Option (Int×Bool×Bool×Int×Int×Int×Int):=
 Option.bind (Kw (IntKind.wrap .i64 ((IntKind.wrap .i64 ((36:Int)*(IntKind.wrap .i64 (YF+(1:Int)))))-CV)) (1:Int) (26:Int)) fun y1=>
 some (CV,Ci,Fp,Fv,Fw,EP,y1)
noncomputable def OB (p_n:Int):Option Int:=
 bif (decide (p_n<(26:Int)))then
  some (IntKind.wrap .u8 (IntKind.wrap .i64 ((97:Int)+p_n)))
 else
  some (IntKind.wrap .u8 (IntKind.wrap .i64 ((IntKind.wrap .i64 ((48:Int)+p_n))-(26:Int))))
noncomputable def Gd (CO:(List Int)) (s2:Int×Bool×Bool×Int×Int×Int×Int×(List Int)×Int):Option (Stp (Int×Bool×Bool×Int×Int×Int×Int×(List Int)×Int) (Int×Bool×Bool×Int×Int×Int×ByteArray)):=
 Option.bind (JO s2.1 s2.2.1 s2.2.2.1 CO s2.2.2.2.1 s2.2.2.2.2.1 s2.2.2.2.2.2.1 s2.2.2.2.2.2.2.2.2) fun y5=>
 bif (decide (s2.2.2.2.2.2.2.1<y5.2.2.2.2.2.2))then
  Option.bind (OB s2.2.2.2.2.2.2.1) fun y6=>
  if(s2.2.2.2.2.2.2.2.1.length+1)*1<=140737488355328 then
   some (.done (y5.1,y5.2.1,y5.2.2.1,y5.2.2.2.1,y5.2.2.2.2.1,y5.2.2.2.2.2.1,(strOfNums (s2.2.2.2.2.2.2.2.1++ [y6]))))
  else none
 else
  if(IntKind.wrap .i64 ((36:Int)-y5.2.2.2.2.2.2))≠0 then
   Option.bind (OB (IntKind.wrap .i64 (y5.2.2.2.2.2.2+(Int.tmod (IntKind.wrap .i64 (s2.2.2.2.2.2.2.1-y5.2.2.2.2.2.2)) (IntKind.wrap .i64 ((36:Int)-y5.2.2.2.2.2.2)))))) fun y7=>
   if(s2.2.2.2.2.2.2.2.1.length+1)*1<=140737488355328 then
    if(IntKind.wrap .i64 ((36:Int)-y5.2.2.2.2.2.2))≠0 then
     some (.next (y5.1,y5.2.1,y5.2.2.1,y5.2.2.2.1,y5.2.2.2.2.1,y5.2.2.2.2.2.1,(IntKind.wrap .i64 (Int.tdiv (IntKind.wrap .i64 (s2.2.2.2.2.2.2.1-y5.2.2.2.2.2.2)) (IntKind.wrap .i64 ((36:Int)-y5.2.2.2.2.2.2)))),(s2.2.2.2.2.2.2.2.1++ [y7]),(IntKind.wrap .i64 (s2.2.2.2.2.2.2.2.2+(1:Int)))))
    else none
   else none
  else none
noncomputable def LH (CV:Int) (Ci:Bool) (Fp:Bool) (CO:(List Int)) (Fv:Int) (Fw:Int) (EP:Int) (bE:Int):Option (Int×Bool×Bool×Int×Int×Int×ByteArray):=
 Option.bind (iter (Gd CO) (CV,Ci,Fp,Fv,Fw,EP,bE,[],(0:Int))) fun v8=>
 some v8
noncomputable def GR (CV:Int) (Ci:Bool) (Fp:Bool) (CO:(List Int)) (Fv:Int) (Fw:Int) (EP:Int) (BA:ByteArray):Option (Int×Bool×Bool×(List Int)×Int×Int×Int×Int):=
 Option.bind (Ej CV Ci Fp CO Fv Fw EP) fun y1=>
 if(CO.length+BA.size)<=140737488355328 then
  some (y1.1,y1.2.1,y1.2.2.1,(CO++(numsOf BA)),y1.2.2.2.1,y1.2.2.2.2.1,y1.2.2.2.2.2,((BA.size:Nat):Int))
 else none
noncomputable def Mw (CV:Int) (Ci:Bool) (Fp:Bool) (CO:(List Int)) (Fv:Int) (Fw:Int) (EP:Int) (bE:Int) (Ky:Int):Option (Int×Bool×Bool×Int×Int×Int):=
 Option.bind (MX bE Ky (!Ci)) fun y1=>
 some (y1,true,Fp,Fv,Fw,EP)
noncomputable def Jl (Ma:Int) (Mc:Bool) (Md:Bool) (Iy:(List Int)) (Jp:Int) (Me:Int) (WI:Int) (p_r:Int) (p_i:Int):Option (Int×Bool×Bool×(List Int)×Int×Int×Int):=
 Option.bind (LH Ma Mc Md Iy Jp Me WI (IntKind.wrap .i64 ((IntKind.wrap .i64 ((IntKind.wrap .i64 ((IntKind.wrap .i64 ((IntKind.wrap .i64 p_r)-(IntKind.wrap .i64 Jp)))*(IntKind.wrap .i64 (WI+(1:Int)))))+p_i))-Me))) fun y1=>
 Option.bind (GR y1.1 y1.2.1 y1.2.2.1 Iy y1.2.2.2.1 y1.2.2.2.2.1 y1.2.2.2.2.2.1 y1.2.2.2.2.2.2) fun y2=>
 Option.bind (Mw y2.1 y2.2.1 y2.2.2.1 y2.2.2.2.1 y2.2.2.2.2.1 y2.2.2.2.2.2.1 (IntKind.wrap .i64 (y2.2.2.2.2.2.2.1+(1:Int))) (IntKind.wrap .i64 ((IntKind.wrap .i64 ((IntKind.wrap .i64 ((IntKind.wrap .i64 ((IntKind.wrap .i64 p_r)-(IntKind.wrap .i64 Jp)))*(IntKind.wrap .i64 (WI+(1:Int)))))+p_i))-Me)) (IntKind.wrap .i64 (y2.2.2.2.2.2.2.1+(1:Int)))) fun y3=>
 some (y3.1,y3.2.1,y3.2.2.1,y2.2.2.2.1,p_r,(IntKind.wrap .i64 (p_i+(1:Int))),y3.2.2.2.2.2)
noncomputable def Gf (AZ:(List Int)) (p_r:Int) (s3:Int×Bool×Bool×(List Int)×Int×Int×Int×Int×Int) (s6:Int×Bool×Bool×(List Int)×Int×Int×Int):Option (Stp (Int×Bool×Bool×(List Int)×Int×Int×Int×Int×Int) (Int×Bool×Bool×(List Int)×Int×Int×Int)):=
 bif (decide ((AZ.getD (s3.2.2.2.2.2.2.2.2.toNat) 0)<=p_r))then
  some (.next (s6.1,s6.2.1,s6.2.2.1,s6.2.2.2.1,s6.2.2.2.2.1,s6.2.2.2.2.2.1,s6.2.2.2.2.2.2,(IntKind.wrap .i64 (s3.2.2.2.2.2.2.2.1+(1:Int))),(IntKind.wrap .i64 (s3.2.2.2.2.2.2.2.2+(1:Int)))))
 else
  some (.next (s6.1,s6.2.1,s6.2.2.1,s6.2.2.2.1,s6.2.2.2.2.1,s6.2.2.2.2.2.1,s6.2.2.2.2.2.2,s3.2.2.2.2.2.2.2.1,(IntKind.wrap .i64 (s3.2.2.2.2.2.2.2.2+(1:Int)))))
noncomputable def DU (AZ:(List Int)) (p_r:Int) (s3:Int×Bool×Bool×(List Int)×Int×Int×Int×Int×Int):Option (Stp (Int×Bool×Bool×(List Int)×Int×Int×Int×Int×Int) (Int×Bool×Bool×(List Int)×Int×Int×Int)):=
 bif (decide (s3.2.2.2.2.2.2.2.2<((AZ.length:Nat):Int)))then
  if 0<=s3.2.2.2.2.2.2.2.2/\s3.2.2.2.2.2.2.2.2<((AZ.length:Nat):Int)then
   Option.bind (
    bif ((AZ.getD (s3.2.2.2.2.2.2.2.2.toNat) 0)==p_r)then
     Option.bind (Jl s3.1 s3.2.1 s3.2.2.1 s3.2.2.2.1 s3.2.2.2.2.1 s3.2.2.2.2.2.1 s3.2.2.2.2.2.2.1 p_r s3.2.2.2.2.2.2.2.1) fun y8=>
     some (y8.1,y8.2.1,y8.2.2.1,y8.2.2.2.1,y8.2.2.2.2.1,y8.2.2.2.2.2.1,y8.2.2.2.2.2.2)
    else
     some (s3.1,s3.2.1,s3.2.2.1,s3.2.2.2.1,s3.2.2.2.2.1,s3.2.2.2.2.2.1,s3.2.2.2.2.2.2.1):Option (Int×Bool×Bool×(List Int)×Int×Int×Int)) fun s6=>
   Gf AZ p_r s3 s6
  else none
 else
  some (.done (s3.1,s3.2.1,s3.2.2.1,s3.2.2.2.1,s3.2.2.2.2.1,s3.2.2.2.2.2.1,s3.2.2.2.2.2.2.1))
noncomputable def Jk (Ma:Int) (Mc:Bool) (Md:Bool) (Iy:(List Int)) (Jp:Int) (Me:Int) (WI:Int) (AZ:(List Int)) (p_r:Int):Option (Int×Bool×Bool×(List Int)×Int×Int×Int):=
 Option.bind (iter (DU AZ p_r) (Ma,Mc,Md,Iy,Jp,Me,WI,(0:Int),(0:Int))) fun s9=>
 some (s9.1,s9.2.1,s9.2.2.1,s9.2.2.2.1,s9.2.2.2.2.1,s9.2.2.2.2.2.1,s9.2.2.2.2.2.2)
noncomputable def H6 (CV:Int) (Ci:Bool) (Fp:Bool) (CO:(List Int)) (Fv:Int) (Fw:Int) (EP:Int):Option (Int×Bool×Bool×Int×Int×Int×Int):=
 some (CV,Ci,Fp,Fv,Fw,EP,((CO.length:Nat):Int))
noncomputable def Iw (CV:Int) (Ci:Bool) (Fp:Bool) (CO:(List Int)) (Fv:Int) (Fw:Int) (EP:Int):Option (Int×Bool×Bool×(List Int)×Int×Int×Int×ByteArray):=
 if CO.length<=9223372036854775807 then
  some (CV,Ci,Fp,CO,Fv,Fw,EP,(strOfNums (CO.take CO.length)))
 else none
noncomputable def TW (s9:Int×Bool×Bool×(List Int)×Int×Int×Int):Option (ByteArray×Er):=
 Option.bind (H6 s9.1 s9.2.1 s9.2.2.1 s9.2.2.2.1 s9.2.2.2.2.1 s9.2.2.2.2.2.1 s9.2.2.2.2.2.2) fun Vw=>
 bif (decide (Vw.2.2.2.2.2.2>(120:Int)))then
  Option.bind (G7 (0:Int) (Er.sent 6)) fun P5=>
  some ((ByteArray.mk #[]),P5)
 else
  Option.bind (Iw Vw.1 Vw.2.1 Vw.2.2.1 s9.2.2.2.1 Vw.2.2.2.1 Vw.2.2.2.2.1 Vw.2.2.2.2.2.1) fun y13=>
  if y13.2.2.2.1.length=s9.2.2.2.1.length then
   some (y13.2.2.2.2.2.2.2,Er.nil)
  else none
noncomputable def Kq (AZ:(List Int)) (gN:(List Int)×Nat) (s16:Int×Bool×Bool×(List Int)×Int×Int×Int×Int):Option (Stp (Int×Bool×Bool×(List Int)×Int×Int×Int×Int) (Int×Bool×Bool×(List Int)×Int×Int×Int)):=
 bif (decide (s16.2.2.2.2.2.2.2<((gN.2:Nat):Int)))then
  if 0<=s16.2.2.2.2.2.2.2/\s16.2.2.2.2.2.2.2<((gN.2:Nat):Int)then
   Option.bind (Jk s16.1 s16.2.1 s16.2.2.1 s16.2.2.2.1 s16.2.2.2.2.1 s16.2.2.2.2.2.1 s16.2.2.2.2.2.2.1 AZ (gN.1.getD (s16.2.2.2.2.2.2.2.toNat) 0)) fun wO=>
   some (.next (wO.1,wO.2.1,wO.2.2.1,wO.2.2.2.1,wO.2.2.2.2.1,wO.2.2.2.2.2.1,wO.2.2.2.2.2.2,(IntKind.wrap .i64 (s16.2.2.2.2.2.2.2+(1:Int)))))
  else none
 else
  some (.done (s16.1,s16.2.1,s16.2.2.1,s16.2.2.2.1,s16.2.2.2.2.1,s16.2.2.2.2.2.1,s16.2.2.2.2.2.2.1))
noncomputable def Qn (AZ:(List Int)) (s4:Int×Bool×Bool×(List Int)×Int×Int×Int×(List Int)) (s6:Int×Bool×Bool×(List Int)×Int×Int×Int):Option (ByteArray×Er):=
 Option.bind (GJ s4.2.2.2.2.2.2.2) fun y8=>
 if y8.length=s4.2.2.2.2.2.2.2.length then
  Option.bind (
   Option.bind (F6 y8) fun gN=>
   if gN.1.length=y8.length then
    iter (Kq AZ gN) (s6.1,s6.2.1,s6.2.2.1,s6.2.2.2.1,s6.2.2.2.2.1,s6.2.2.2.2.2.1,s6.2.2.2.2.2.2,(0:Int))
   else none:Option (Int×Bool×Bool×(List Int)×Int×Int×Int)) fun s9=>
  TW s9
 else none
noncomputable def Qm (AZ:(List Int)) (s4:Int×Bool×Bool×(List Int)×Int×Int×Int×(List Int)):Option (ByteArray×Er):=
 Option.bind (
  bif (decide (s4.2.2.2.2.2.2.1>(0:Int)))then
   Option.bind (Ei s4.1 s4.2.1 s4.2.2.1 s4.2.2.2.1 s4.2.2.2.2.1 s4.2.2.2.2.2.1 s4.2.2.2.2.2.2.1 (45:Int)) fun y21=>
   some (y21.1,y21.2.1,y21.2.2.1,y21.2.2.2.1,y21.2.2.2.2.1,y21.2.2.2.2.2.1,y21.2.2.2.2.2.2.1)
  else
   some (s4.1,s4.2.1,s4.2.2.1,s4.2.2.2.1,s4.2.2.2.2.1,s4.2.2.2.2.2.1,s4.2.2.2.2.2.2.1):Option (Int×Bool×Bool×(List Int)×Int×Int×Int)) fun s6=>
 Qn AZ s4 s6
noncomputable def IJ (AZ:(List Int)) (Kr:Int×Bool×Bool×(List Int)×Int×Int×Int×(List Int)×Int):Option (Stp (Int×Bool×Bool×(List Int)×Int×Int×Int×(List Int)×Int) (Int×Bool×Bool×(List Int)×Int×Int×Int×(List Int))):=
 bif (decide (Kr.2.2.2.2.2.2.2.2<((AZ.length:Nat):Int)))then
  if 0<=Kr.2.2.2.2.2.2.2.2/\Kr.2.2.2.2.2.2.2.2<((AZ.length:Nat):Int)then
   bif (decide ((AZ.getD (Kr.2.2.2.2.2.2.2.2.toNat) 0)<(128:Int)))then
    Option.bind (Ei Kr.1 Kr.2.1 Kr.2.2.1 Kr.2.2.2.1 Kr.2.2.2.2.1 Kr.2.2.2.2.2.1 Kr.2.2.2.2.2.2.1 (IntKind.wrap .u8 (AZ.getD (Kr.2.2.2.2.2.2.2.2.toNat) 0))) fun wL=>
    some (.next (wL.1,wL.2.1,wL.2.2.1,wL.2.2.2.1,wL.2.2.2.2.1,wL.2.2.2.2.2.1,(IntKind.wrap .i64 (wL.2.2.2.2.2.2.1+(1:Int))),Kr.2.2.2.2.2.2.2.1,(IntKind.wrap .i64 (Kr.2.2.2.2.2.2.2.2+(1:Int)))))
   else
    if(Kr.2.2.2.2.2.2.2.1.length+1)*4<=140737488355328 then
     some (.next (Kr.1,Kr.2.1,Kr.2.2.1,Kr.2.2.2.1,Kr.2.2.2.2.1,Kr.2.2.2.2.2.1,Kr.2.2.2.2.2.2.1,(Kr.2.2.2.2.2.2.2.1++ [(AZ.getD (Kr.2.2.2.2.2.2.2.2.toNat) 0)]),(IntKind.wrap .i64 (Kr.2.2.2.2.2.2.2.2+(1:Int)))))
    else none
  else none
 else
  some (.done (Kr.1,Kr.2.1,Kr.2.2.1,Kr.2.2.2.1,Kr.2.2.2.2.1,Kr.2.2.2.2.2.1,Kr.2.2.2.2.2.2.1,Kr.2.2.2.2.2.2.2.1))
noncomputable def K9 (AZ:(List Int)) (s1:Unit):Option (ByteArray×Er):=
 bif (decide (((AZ.length:Nat):Int)>(120:Int)))then
  Option.bind (G7 (0:Int) (Er.sent 6)) fun y3=>
  some ((ByteArray.mk #[]),y3)
 else
  Option.bind (
   iter (IJ AZ) ((72:Int),false,false,[],(128:Int),(0:Int),(0:Int),[],(0:Int)):Option (Int×Bool×Bool×(List Int)×Int×Int×Int×(List Int))) fun s4=>
  Qm AZ s4
noncomputable def IK (AZ:(List Int)) (s29:Int):Option (Stp Int (Sum Unit (ByteArray×Er))):=
 bif (decide (s29<((AZ.length:Nat):Int)))then
  if 0<=s29/\s29<((AZ.length:Nat):Int)then
   Option.bind (CF (AZ.getD (s29.toNat) 0)) fun y32=>
   bif (!y32)then
    Option.bind (G7 s29 (Er.sent 12)) fun y33=>
    some (.done (.inr ((ByteArray.mk #[]),y33)))
   else
    some (.next (IntKind.wrap .i64 (s29+(1:Int))))
  else none
 else
  some (.done (.inl ()))
noncomputable def NR (AZ:(List Int)):Option (ByteArray×Er):=
 Option.bind (
  iter (IK AZ) (0:Int):Option (Sum Unit (ByteArray×Er))) fun z=>
 match z with
 | .inl s1=>
  K9 AZ s1
 | .inr (v36)=>
  some (v36.1,v36.2)
noncomputable def Gv (AZ:(List Int)):Option (ByteArray×Er):=
 Option.bind (LJ AZ) fun y1=>
 Option.bind (Df AZ) fun y2=>
 bif (!y2)then
  some (y1.1,y1.2)
 else
  Option.bind (NR AZ) fun y3=>
  bif (!y3.2.isNil)then
   some ((ByteArray.mk #[]),y3.2)
  else
   if(ByteArray.mk #[120,110,45,45]).size+y3.1.size<=9223372036854775807 then
    some (((ByteArray.mk #[120,110,45,45])++y3.1),Er.nil)
   else none
noncomputable def Pq (s1:Int) (s3:Bool):Option Int:=
 bif s3 then
  some (-1:Int)
 else
  some s1
noncomputable def TV (AL:(List Int)) (Bq:(List Int)) (s1:Int):Option Int:=
 Option.bind (
  bif (s1==((AL.length:Nat):Int))then
   some (s1==((Bq.length:Nat):Int))
  else
   some false:Option Bool) fun s3=>
 Pq s1 s3
noncomputable def SI (s6:Int) (s9:Bool):Option (Stp Int Int):=
 bif s9 then
  some (.next (IntKind.wrap .i64 (s6+(1:Int))))
 else
  some (.done s6)
noncomputable def II (AL:(List Int)) (Bq:(List Int)) (s6:Int):Option (Stp Int Int):=
 Option.bind (
  bif (decide (s6<((AL.length:Nat):Int)))then
   bif (decide (s6<((Bq.length:Nat):Int)))then
    if 0<=s6/\s6<((AL.length:Nat):Int)then
     if 0<=s6/\s6<((Bq.length:Nat):Int)then
      some ((AL.getD (s6.toNat) 0)==(Bq.getD (s6.toNat) 0))
     else none
    else none
   else
    some false
  else
   some false:Option Bool) fun s9=>
 SI s6 s9
noncomputable def Pp (AL:(List Int)) (Bq:(List Int)):Option Int:=
 Option.bind (
  iter (II AL Bq) (0:Int):Option Int) fun s1=>
 TV AL Bq s1
noncomputable def NY (QS:(List Int)) (DW:Ag):Option Int:=
 Option.bind (Sl DW.Ca QS) fun y1=>
 Option.bind (Pp QS y1) fun y2=>
 some y2
noncomputable def SH (s1:Bool):Option Int:=
 bif s1 then
  some (2:Int)
 else
  some (-1:Int)
noncomputable def Q6 (AZ:(List Int)):Option Int:=
 if 0<=(0:Int)/\(0:Int)<((AZ.length:Nat):Int)then
  bif ((AZ.getD 0 0)==(45:Int))then
   some (0:Int)
  else
   if 0<=(IntKind.wrap .i64 (((AZ.length:Nat):Int)-(1:Int)))/\(IntKind.wrap .i64 (((AZ.length:Nat):Int)-(1:Int)))<((AZ.length:Nat):Int)then
    bif ((AZ.getD ((IntKind.wrap .i64 (((AZ.length:Nat):Int)-(1:Int))).toNat) 0)==(45:Int))then
     some (IntKind.wrap .i64 (((AZ.length:Nat):Int)-(1:Int)))
    else
     Option.bind (
      bif (decide (((AZ.length:Nat):Int)>(3:Int)))then
       if 0<=(2:Int)/\(2:Int)<((AZ.length:Nat):Int)then
        bif ((AZ.getD 2 0)==(45:Int))then
         if 0<=(3:Int)/\(3:Int)<((AZ.length:Nat):Int)then
          some ((AZ.getD 3 0)==(45:Int))
         else none
        else
         some false
       else none
      else
       some false:Option Bool) fun s1=>
     SH s1
   else none
 else none
noncomputable def NZ (QS:(List Int)):Option Int:=
 Option.bind (Q6 QS) fun y1=>
 some y1
noncomputable def O8 (AZ:(List Ap)) (p_r:Int):Option Bool:=
 Option.bind (Io AZ p_r) fun y1=>
 some y1.2
noncomputable def Sk (JQ:Bb) (p_r:Int):Option Bool:=
 Option.bind (O8 JQ.NT p_r) fun y1=>
 some y1
noncomputable def FV (AZ:(List Ap)) (DW:Int):Option Bool:=
 Option.bind (O8 AZ DW) fun y1=>
 some y1
noncomputable def NM (p_r:Int):Option Bool:=
 bif (decide (p_r>=(97:Int)))then
  bif (decide (p_r<=(122:Int)))then
   some true
  else
   bif (decide (p_r>=(48:Int)))then
    bif (decide (p_r<=(57:Int)))then
     some true
    else
     some (p_r==(45:Int))
   else
    some (p_r==(45:Int))
 else
  bif (decide (p_r>=(48:Int)))then
   bif (decide (p_r<=(57:Int)))then
    some true
   else
    some (p_r==(45:Int))
  else
   some (p_r==(45:Int))
noncomputable def Qw (JQ:Bb) (p_r:Int):Option Int:=
 Option.bind (CF p_r) fun y1=>
 bif (!y1)then
  some (1:Int)
 else
  Option.bind (FV JQ.Ev p_r) fun y2=>
  bif y2 then
   some (2:Int)
  else
   Option.bind (FV JQ.Gt p_r) fun y3=>
   bif y3 then
    some (3:Int)
   else
    Option.bind (NM p_r) fun y4=>
    bif y4 then
     some (4:Int)
    else
     Option.bind (FV JQ.JX p_r) fun y5=>
     bif y5 then
      some (5:Int)
     else
      Option.bind (FV JQ.Hl p_r) fun y6=>
      bif y6 then
       some (6:Int)
      else
       Option.bind (FV JQ.I7 p_r) fun y7=>
       bif y7 then
        some (7:Int)
       else
        Option.bind (FV JQ.Hg p_r) fun y8=>
        bif y8 then
         some (8:Int)
        else
         Option.bind (FV JQ.JZ p_r) fun y9=>
         bif y9 then
          some (9:Int)
         else
          some (10:Int)
noncomputable def O6 (JQ:Bb) (p_r:Int):Option Int:=
 Option.bind (Qw JQ p_r) fun y1=>
 bif (y1==(2:Int))then
  Option.bind (Io JQ.Ev p_r) fun y2=>
  some y2.1
 else
  bif (y1==(3:Int))then
   some (5:Int)
  else
   bif (y1==(4:Int))then
    some (1:Int)
   else
    bif (y1==(9:Int))then
     some (1:Int)
    else
     bif (y1==(5:Int))then
      some (2:Int)
     else
      some (4:Int)
noncomputable def TU (p_r:Int):Option Bool:=
 Option.bind (Fu p_r) fun y1=>
 bif y1 then
  bif (decide (p_r<(97:Int)))then
   bif (decide (p_r<(48:Int)))then
    some (p_r != (45:Int))
   else
    bif (decide (p_r>(57:Int)))then
     some (p_r != (45:Int))
    else
     some false
  else
   bif (decide (p_r>(122:Int)))then
    bif (decide (p_r<(48:Int)))then
     some (p_r != (45:Int))
    else
     bif (decide (p_r>(57:Int)))then
      some (p_r != (45:Int))
     else
      some false
   else
    some false
 else
  bif (p_r==(12290:Int))then
   some true
  else
   bif (p_r==(65294:Int))then
    some true
   else
    some (p_r==(65377:Int))
noncomputable def Mi (p_r:Int) (DW:Ag):Option Bool:=
 Option.bind (Mj DW.EL p_r) fun y1=>
 Option.bind (O6 DW.Ct p_r) fun y2=>
 Option.bind (TU p_r) fun y3=>
 bif y3 then
  some true
 else
  bif y1.2 then
   some true
  else
   bif (y2==(4:Int))then
    some true
   else
    some (y2==(5:Int))
noncomputable def ER (BA:(List Int)) (Ua:Ag) (s4:Int):Option (Stp Int (Sum Unit Int)):=
 bif (decide (s4<((BA.length:Nat):Int)))then
  if 0<=s4/\s4<((BA.length:Nat):Int)then
   Option.bind (Mi (BA.getD (s4.toNat) 0) Ua) fun y7=>
   bif y7 then
    some (.done (.inr s4))
   else
    some (.next (IntKind.wrap .i64 (s4+(1:Int))))
  else none
 else
  some (.done (.inl ()))
noncomputable def Fx (BA:(List Int)) (Ua:Ag):Option Int:=
 Option.bind (
  iter (ER BA Ua) (0:Int):Option (Sum Unit Int)) fun z=>
 match z with
 | .inl s1=>
  some (-1:Int)
 | .inr (v10)=>
  some v10
noncomputable def WC (AQ:Ag) (AZ:(List Int)):Option Int:=
 if 0<=(0:Int)/\(0:Int)<((AZ.length:Nat):Int)then
  Option.bind (Sk AQ.Ct (AZ.getD 0 0)) fun y1=>
  bif y1 then
   some (0:Int)
  else
   Option.bind (Fx AZ AQ) fun y2=>
   some y2
 else none
noncomputable def N7 (QS:Ag) (DW:(List Int)):Option Int:=
 Option.bind (WC QS DW) fun y1=>
 some y1
noncomputable def Om (s5:Bool):Option Int:=
 bif s5 then
  some (8:Int)
 else
  some (0:Int)
noncomputable def Sq (p_r:Int) (s3:Bool):Option Int:=
 bif s3 then
  some (7:Int)
 else
  Option.bind (
   bif (decide (p_r>=(1776:Int)))then
    some (decide (p_r<=(1785:Int)))
   else
    some false:Option Bool) fun s5=>
  Om s5
noncomputable def Sn (p_r:Int) (s1:Bool):Option Int:=
 bif s1 then
  some (5:Int)
 else
  bif (p_r==(12539:Int))then
   some (6:Int)
  else
   Option.bind (
    bif (decide (p_r>=(1632:Int)))then
     some (decide (p_r<=(1641:Int)))
    else
     some false:Option Bool) fun s3=>
   Sq p_r s3
noncomputable def LX (p_r:Int):Option Int:=
 bif (p_r==(8204:Int))then
  some (1:Int)
 else
  bif (p_r==(8205:Int))then
   some (2:Int)
  else
   bif (p_r==(183:Int))then
    some (3:Int)
   else
    bif (p_r==(885:Int))then
     some (4:Int)
    else
     Option.bind (
      bif (p_r==(1523:Int))then
       some (p_r==(1523:Int))
      else
       some (p_r==(1524:Int)):Option Bool) fun s1=>
     Sn p_r s1
noncomputable def NV (JQ:Bb) (p_r:Int):Option Int:=
 Option.bind (Io JQ.JY p_r) fun y1=>
 some y1.1
noncomputable def O9 (FX:Int) (DW:(List Int)) (EX:Ag) (s1:Bool):Option Int:=
 bif s1 then
  some (0:Int)
 else
  if 0<=FX/\FX<((DW.length:Nat):Int)then
   Option.bind (NV EX.Ct (DW.getD (FX.toNat) 0)) fun y3=>
   some y3
  else none
noncomputable def Ja (FX:Int) (DW:(List Int)) (EX:Ag):Option Int:=
 Option.bind (
  bif (decide (FX<(0:Int)))then
   some true
  else
   some (decide (FX>=((DW.length:Nat):Int))):Option Bool) fun s1=>
 O9 FX DW EX s1
noncomputable def H9 (EX:(List Int)) (XM:Ag) (s1:Int):Option Int:=
 Option.bind (Ja s1 EX XM) fun y3=>
 some y3
noncomputable def Bo (Aby:Int) (EX:(List Int)) (XM:Ag) (s5:Int):Option (Stp Int Int):=
 Option.bind (Ja s5 EX XM) fun y8=>
 bif (y8==(4:Int))then
  some (.next (IntKind.wrap .i64 (s5+Aby)))
 else
  some (.done s5)
noncomputable def Em (FX:Int) (Aby:Int) (EX:(List Int)) (XM:Ag):Option Int:=
 Option.bind (
  iter (Bo Aby EX XM) FX:Option Int) fun s1=>
 H9 EX XM s1
noncomputable def Mx (AQ:Ag) (AZ:(List Int)) (p_i:Int):Option Bool:=
 Option.bind (Em (IntKind.wrap .i64 (p_i-(1:Int))) (-1:Int) AZ AQ) fun y1=>
 Option.bind (Em (IntKind.wrap .i64 (p_i+(1:Int))) (1:Int) AZ AQ) fun y2=>
 bif (y1==(1:Int))then
  bif (y2==(2:Int))then
   some true
  else
   some (y2==(3:Int))
 else
  bif (y1==(3:Int))then
   bif (y2==(2:Int))then
    some true
   else
    some (y2==(3:Int))
  else
   some false
noncomputable def Oj (p_r:Int) (DW:Ag):Option Bool:=
 Option.bind (EF DW.Ca p_r) fun y1=>
 some (y1==(9:Int))
noncomputable def EC (AZ:(List Int)) (p_i:Int) (OI:Ag):Option Bool:=
 bif (decide (p_i>=(0:Int)))then
  bif (decide (p_i<((AZ.length:Nat):Int)))then
   if 0<=p_i/\p_i<((AZ.length:Nat):Int)then
    Option.bind (Oj (AZ.getD (p_i.toNat) 0) OI) fun y1=>
    some y1
   else none
  else
   some false
 else
  some false
noncomputable def Lr (p_r:Int):Option Bool:=
 some (p_r==(108:Int))
noncomputable def ED (AZ:(List Int)) (p_i:Int):Option Bool:=
 bif (decide (p_i>=(0:Int)))then
  bif (decide (p_i<((AZ.length:Nat):Int)))then
   if 0<=p_i/\p_i<((AZ.length:Nat):Int)then
    Option.bind (Lr (AZ.getD (p_i.toNat) 0)) fun y1=>
    some y1
   else none
  else
   some false
 else
  some false
noncomputable def Ie (vG:(List Int)) (DW:Ag):Option ((List Int)×Ag):=
 some (vG,DW)
noncomputable def Nl (JQ:Bb) (p_r:Int):Option Int:=
 Option.bind (Io JQ.J2 p_r) fun y1=>
 some y1.1
noncomputable def K4 (p_r:Int) (DW:(List Int)) (EX:Ag) (s4:Int):Option (Stp Int (Sum Unit Bool)):=
 bif (decide (s4<((DW.length:Nat):Int)))then
  if 0<=s4/\s4<((DW.length:Nat):Int)then
   Option.bind (Nl EX.Ct p_r) fun y7=>
   bif (y7==(DW.getD (s4.toNat) 0))then
    some (.done (.inr true))
   else
    some (.next (IntKind.wrap .i64 (s4+(1:Int))))
  else none
 else
  some (.done (.inl ()))
noncomputable def Ki (p_r:Int) (DW:(List Int)) (EX:Ag):Option Bool:=
 Option.bind (
  iter (K4 p_r DW EX) (0:Int):Option (Sum Unit Bool)) fun z=>
 match z with
 | .inl s1=>
  some false
 | .inr (v10)=>
  some v10
noncomputable def Dc (AZ:(List Int)) (p_i:Int) (OI:(List Int)) (XM:Ag):Option Bool:=
 bif (decide (p_i>=(0:Int)))then
  bif (decide (p_i<((AZ.length:Nat):Int)))then
   if 0<=p_i/\p_i<((AZ.length:Nat):Int)then
    Option.bind (Ki (AZ.getD (p_i.toNat) 0) OI XM) fun y1=>
    some y1
   else none
  else
   some false
 else
  some false
noncomputable def F4 (AZ:(List Int)) (OI:(List Int)) (EX:Ag) (s4:Int):Option (Stp Int (Sum Unit Bool)):=
 bif (decide (s4<((AZ.length:Nat):Int)))then
  Option.bind (Dc AZ s4 OI EX) fun y7=>
  bif y7 then
   some (.done (.inr true))
  else
   some (.next (IntKind.wrap .i64 (s4+(1:Int))))
 else
  some (.done (.inl ()))
noncomputable def Fa (AZ:(List Int)) (OI:(List Int)) (EX:Ag):Option Bool:=
 Option.bind (
  iter (F4 AZ OI EX) (0:Int):Option (Sum Unit Bool)) fun z=>
 match z with
 | .inl s1=>
  some false
 | .inr (v10)=>
  some v10
noncomputable def Ol (p_r:Int) (DW:Int):Option Bool:=
 Option.bind (LX p_r) fun y1=>
 some (y1==DW)
noncomputable def F3 (AZ:(List Int)) (p_i:Int) (OI:Int):Option Bool:=
 bif (decide (p_i>=(0:Int)))then
  bif (decide (p_i<((AZ.length:Nat):Int)))then
   if 0<=p_i/\p_i<((AZ.length:Nat):Int)then
    Option.bind (Ol (AZ.getD (p_i.toNat) 0) OI) fun y1=>
    some y1
   else none
  else
   some false
 else
  some false
noncomputable def Gs (AZ:(List Int)) (OI:Int) (s4:Int):Option (Stp Int (Sum Unit Bool)):=
 bif (decide (s4<((AZ.length:Nat):Int)))then
  Option.bind (F3 AZ s4 OI) fun y7=>
  bif y7 then
   some (.done (.inr true))
  else
   some (.next (IntKind.wrap .i64 (s4+(1:Int))))
 else
  some (.done (.inl ()))
noncomputable def Fy (AZ:(List Int)) (OI:Int):Option Bool:=
 Option.bind (
  iter (Gs AZ OI) (0:Int):Option (Sum Unit Bool)) fun z=>
 match z with
 | .inl s1=>
  some false
 | .inr (v10)=>
  some v10
noncomputable def QF (AZ:(List Int)) (y3:Int) (s15:Bool):Option Bool:=
 bif s15 then
  Option.bind (Fy AZ (IntKind.wrap .i64 ((15:Int)-y3))) fun nN=>
  some (!nN)
 else
  some false
noncomputable def Ro (AQ:Ag) (AZ:(List Int)) (p_i:Int) (s1:Bool):Option Bool:=
 bif s1 then
  some false
 else
  if 0<=p_i/\p_i<((AZ.length:Nat):Int)then
   Option.bind (LX (AZ.getD (p_i.toNat) 0)) fun y3=>
   bif (y3==(1:Int))then
    Option.bind (Mx AQ AZ p_i) fun y4=>
    bif y4 then
     some true
    else
     Option.bind (EC AZ (IntKind.wrap .i64 (p_i-(1:Int))) AQ) fun y5=>
     some y5
   else
    bif (y3==(2:Int))then
     Option.bind (EC AZ (IntKind.wrap .i64 (p_i-(1:Int))) AQ) fun y6=>
     some y6
    else
     bif (y3==(3:Int))then
      Option.bind (ED AZ (IntKind.wrap .i64 (p_i-(1:Int)))) fun y7=>
      bif y7 then
       Option.bind (ED AZ (IntKind.wrap .i64 (p_i+(1:Int)))) fun y8=>
       some y8
      else
       some false
     else
      bif (y3==(4:Int))then
       Option.bind (Ie [(1:Int)] AQ) fun y9=>
       Option.bind (Dc AZ (IntKind.wrap .i64 (p_i+(1:Int))) y9.1 y9.2) fun Rf=>
       some Rf
      else
       bif (y3==(5:Int))then
        Option.bind (Ie [(2:Int)] AQ) fun Vw=>
        Option.bind (Dc AZ (IntKind.wrap .i64 (p_i-(1:Int))) Vw.1 Vw.2) fun P5=>
        some P5
       else
        bif (y3==(6:Int))then
         Option.bind (Ie [(3:Int),(4:Int),(5:Int)] AQ) fun y13=>
         Option.bind (Fa AZ y13.1 y13.2) fun gN=>
         some gN
        else
         Option.bind (
          bif (y3==(7:Int))then
           some (y3==(7:Int))
          else
           some (y3==(8:Int)):Option Bool) fun s15=>
         QF AZ y3 s15
  else none
noncomputable def Np (AQ:Ag) (AZ:(List Int)) (p_i:Int):Option Bool:=
 Option.bind (
  bif (decide (p_i<(0:Int)))then
   some true
  else
   some (decide (p_i>=((AZ.length:Nat):Int))):Option Bool) fun s1=>
 Ro AQ AZ p_i s1
noncomputable def Rn (AQ:Ag) (AZ:(List Int)) (s4:Int) (s8:Bool):Option (Stp Int (Sum Unit Int)):=
 bif s8 then
  Option.bind (Np AQ AZ s4) fun Rf=>
  bif (!Rf)then
   some (.done (.inr s4))
  else
   some (.next (IntKind.wrap .i64 (s4+(1:Int))))
 else
  some (.next (IntKind.wrap .i64 (s4+(1:Int))))
noncomputable def Nz (AQ:Ag) (AZ:(List Int)) (s4:Int):Option (Stp Int (Sum Unit Int)):=
 bif (decide (s4<((AZ.length:Nat):Int)))then
  if 0<=s4/\s4<((AZ.length:Nat):Int)then
   Option.bind (O6 AQ.Ct (AZ.getD (s4.toNat) 0)) fun y7=>
   Option.bind (
    bif (y7==(2:Int))then
     some (y7==(2:Int))
    else
     some (y7==(3:Int)):Option Bool) fun s8=>
   Rn AQ AZ s4 s8
  else none
 else
  some (.done (.inl ()))
noncomputable def Qi (AQ:Ag) (AZ:(List Int)):Option Int:=
 Option.bind (
  iter (Nz AQ AZ) (0:Int):Option (Sum Unit Int)) fun z=>
 match z with
 | .inl s1=>
  some (-1:Int)
 | .inr (v13)=>
  some v13
noncomputable def N8 (QS:Ag) (DW:(List Int)):Option Int:=
 Option.bind (Qi QS DW) fun y1=>
 some y1
noncomputable def KH (JQ:Bb) (p_r:Int):Option Int:=
 Option.bind (Io JQ.DJ p_r) fun y1=>
 bif (!y1.2)then
  some (1:Int)
 else
  some y1.1
noncomputable def NK (JQ:Bb) (AZ:(List Int)) (s4:(List Int)×Int):Option (Stp ((List Int)×Int) (List Int)):=
 bif (decide (s4.2<((AZ.length:Nat):Int)))then
  if 0<=s4.2/\s4.2<((AZ.length:Nat):Int)then
   Option.bind (KH JQ (AZ.getD (s4.2.toNat) 0)) fun y7=>
   if 0<=s4.2/\s4.2<((s4.1.length:Nat):Int)then
    some (.next ((s4.1.set (s4.2.toNat) (max (0:Int) (min y7 (31:Int)))),(IntKind.wrap .i64 (s4.2+(1:Int)))))
   else none
  else none
 else
  some (.done s4.1)
noncomputable def Sj (JQ:Bb) (AZ:(List Int)):Option (List Int):=
 if Aih 8 ((AZ.length:Nat):Int)then
  Option.bind (
   iter (NK JQ AZ) ((List.replicate AZ.length 0),(0:Int)):Option (List Int)) fun s1=>
  some s1
 else none
noncomputable def Wz (s4:Int) (s7:Bool):Option (Stp Int Int):=
 bif s7 then
  some (.next (IntKind.wrap .i64 (s4-(1:Int))))
 else
  some (.done s4)
noncomputable def O4 (AZ:(List Int)) (s4:Int):Option (Stp Int Int):=
 Option.bind (
  bif (decide (s4>=(0:Int)))then
   if 0<=s4/\s4<((AZ.length:Nat):Int)then
    some ((AZ.getD (s4.toNat) 0)==(10:Int))
   else none
  else
   some false:Option Bool) fun s7=>
 Wz s4 s7
noncomputable def TL (AZ:(List Int)):Option Int:=
 Option.bind (
  iter (O4 AZ) (IntKind.wrap .i64 (((AZ.length:Nat):Int)-(1:Int))):Option Int) fun s1=>
 some s1
noncomputable def O5 (AZ:(List Int)) (s4:Int×Int):Option (Stp (Int×Int) Int):=
 bif (decide (s4.2<((AZ.length:Nat):Int)))then
  if 0<=s4.2/\s4.2<((AZ.length:Nat):Int)then
   if 0<=(AZ.getD (s4.2.toNat) 0)then
    some (.next ((ior .u64 s4.1 (IntKind.wrap .u64 ((1:Int)*2 ^ (min ((AZ.getD (s4.2.toNat) 0)).toNat (IntKind.bits .u64))))),(IntKind.wrap .i64 (s4.2+(1:Int)))))
   else none
  else none
 else
  some (.done s4.1)
noncomputable def Ic (AZ:(List Int)):Option Int:=
 Option.bind (
  iter (O5 AZ) ((0:Int),(0:Int)):Option Int) fun s1=>
 some s1
noncomputable def MQ:Option Int:=
 Option.bind (Ic [(6:Int),(8:Int),(7:Int),(9:Int),(11:Int),(10:Int)]) fun y1=>
 some y1
noncomputable def GX (BA:Int) (bE:Int):Option Bool:=
 if 0<=bE then
  some ((XI .u64 (Int.fdiv BA (2 ^ (min (bE).toNat (IntKind.bits .u64)))) (1:Int))==(1:Int))
 else none
noncomputable def QZ (AZ:(List Int)) (BA:Int) (Abz:Bool) (s4:Int):Option (Stp Int (Sum Unit Int)):=
 bif (decide (s4<((AZ.length:Nat):Int)))then
  if 0<=s4/\s4<((AZ.length:Nat):Int)then
   Option.bind (GX BA (AZ.getD (s4.toNat) 0)) fun y7=>
   bif (y7==Abz)then
    some (.done (.inr s4))
   else
    some (.next (IntKind.wrap .i64 (s4+(1:Int))))
  else none
 else
  some (.done (.inl ()))
noncomputable def Nk (AZ:(List Int)) (BA:Int) (Abz:Bool):Option Int:=
 Option.bind (
  iter (QZ AZ BA Abz) (0:Int):Option (Sum Unit Int)) fun z=>
 match z with
 | .inl s1=>
  some (-1:Int)
 | .inr (v10)=>
  some v10
noncomputable def Wy (s4:Int×Int) (y7:Int) (s8:Bool):Option (Stp (Int×Int) (Sum Unit Int)):=
 bif s8 then
  some (.done (.inr s4.2))
 else
  some (.next ((ior .u64 s4.1 y7),(IntKind.wrap .i64 (s4.2+(1:Int)))))
noncomputable def K3 (AZ:(List Int)) (s4:Int×Int):Option (Stp (Int×Int) (Sum Unit Int)):=
 bif (decide (s4.2<((AZ.length:Nat):Int)))then
  if 0<=s4.2/\s4.2<((AZ.length:Nat):Int)then
   Option.bind (Ic [(AZ.getD (s4.2.toNat) 0)]) fun y7=>
   Option.bind (
    Option.bind (GX (ior .u64 s4.1 y7) (4:Int)) fun Rf=>
    bif Rf then
     Option.bind (GX (ior .u64 s4.1 y7) (5:Int)) fun Vw=>
     some Vw
    else
     some false:Option Bool) fun s8=>
   Wy s4 y7 s8
  else none
 else
  some (.done (.inl ()))
noncomputable def TK (AZ:(List Int)):Option Int:=
 Option.bind (
  iter (K3 AZ) ((0:Int),(0:Int)):Option (Sum Unit Int)) fun z=>
 match z with
 | .inl s1=>
  some (-1:Int)
 | .inr (v14)=>
  some v14
noncomputable def Nj (y1:(List Int)) (y2:Int) (s3:Unit):Option (Int×Int):=
 Option.bind (MQ) fun y5=>
 Option.bind (Ic [(2:Int),(3:Int),(5:Int),(4:Int)]) fun y6=>
 Option.bind (Nk y1 (ior .u64 y5 y6) false) fun y7=>
 bif (decide (y7>=(0:Int)))then
  some ((2:Int),y7)
 else
  Option.bind (Ic [(2:Int),(3:Int),(4:Int),(5:Int)]) fun y8=>
  if 0<=y2/\y2<((y1.length:Nat):Int)then
   Option.bind (GX y8 (y1.getD (y2.toNat) 0)) fun y9=>
   bif (!y9)then
    some ((3:Int),y2)
   else
    Option.bind (TK y1) fun Rf=>
    bif (decide (Rf>=(0:Int)))then
     some ((4:Int),Rf)
    else
     some ((0:Int),(0:Int))
  else none
noncomputable def Qv (JQ:Bb) (AZ:(List Int)):Option (Int×Int):=
 Option.bind (Sj JQ AZ) fun y1=>
 bif (((y1.length:Nat):Int)==(0:Int))then
  some ((1:Int),(0:Int))
 else
  Option.bind (TL y1) fun y2=>
  if 0<=(0:Int)/\(0:Int)<((y1.length:Nat):Int)then
   Option.bind (
    bif ((y1.getD 0 0)==(1:Int))then
     Option.bind (MQ) fun Vw=>
     Option.bind (Ic [(1:Int),(4:Int)]) fun P5=>
     Option.bind (Nk y1 (ior .u64 Vw P5) false) fun y13=>
     bif (decide (y13>=(0:Int)))then
      some (.inr (.inr (.inr ((5:Int),y13))))
     else
      Option.bind (Ic [(1:Int),(4:Int)]) fun gN=>
      if 0<=y2/\y2<((y1.length:Nat):Int)then
       Option.bind (GX gN (y1.getD (y2.toNat) 0)) fun rW=>
       bif (!rW)then
        some (.inr (.inr (.inr ((6:Int),y2))))
       else
        some (.inr (.inl ()))
      else none
    else
     bif ((y1.getD 0 0)==(2:Int))then
      some (.inl ())
     else
      bif ((y1.getD 0 0)==(3:Int))then
       some (.inl ())
      else
       some (.inr (.inr (.inl ()))):Option (Sum Unit (Sum Unit (Sum Unit (Int×Int))))) fun z=>
   match z with
   | .inl s3=>
    Nj y1 y2 s3
   | .inr (.inl s16)=>
    some ((0:Int),(0:Int))
   | .inr (.inr (.inl rM))=>
    some ((1:Int),(0:Int))
   | .inr (.inr (.inr (v18)))=>
    some (v18.1,v18.2)
  else none
noncomputable def RI (JQ:Bb) (AZ:(List Int)):Option Bool:=
 Option.bind (Sj JQ AZ) fun y1=>
 Option.bind (Ic [(2:Int),(3:Int),(5:Int)]) fun y2=>
 Option.bind (Nk y1 y2 true) fun y3=>
 some (decide (y3>=(0:Int)))
noncomputable def Ow (y1:Int×Int) (s2:Bool):Option Int:=
 bif s2 then
  some (-1:Int)
 else
  some y1.2
noncomputable def NW (QS:Ag) (DW:(List Int)):Option Int:=
 Option.bind (Qv QS.Ct DW) fun y1=>
 Option.bind (
  bif (y1.1==(0:Int))then
   some true
  else
   Option.bind (RI QS.Ct DW) fun y4=>
   some (!y4):Option Bool) fun s2=>
 Ow y1 s2
noncomputable def aX (s5:Bool):Option Er:=
 bif s5 then
  Option.bind (Dj (0:Int) (Er.sent 6)) fun y7=>
  some y7
 else
  some Er.nil
noncomputable def Qj (AZ:(List Int)) (s2:Unit):Option Er:=
 Option.bind (Gv AZ) fun y4=>
 Option.bind (
  bif (decide (((y4.1.size:Nat):Int)>(63:Int)))then
   some true
  else
   Option.bind (QL y4.2 (Er.sent 6)) fun y8=>
   some y8:Option Bool) fun s5=>
 aX s5
noncomputable def NQ (AQ:Ag) (AZ:(List Int)):Option Er:=
 bif (((AZ.length:Nat):Int)==(0:Int))then
  Option.bind (Dj (0:Int) (Er.sent 0)) fun y1=>
  some y1
 else
  Option.bind (
   Option.bind (NY AZ AQ) fun y9=>
   bif (decide (y9>=(0:Int)))then
    Option.bind (Dj y9 (Er.sent 1)) fun Rf=>
    some (.inr Rf)
   else
    Option.bind (NZ AZ) fun Vw=>
    bif (decide (Vw>=(0:Int)))then
     Option.bind (Dj Vw (Er.sent 2)) fun P5=>
     some (.inr P5)
    else
     Option.bind (N7 AQ AZ) fun y13=>
     bif (decide (y13>=(0:Int)))then
      Option.bind (Dj y13 (Er.sent 3)) fun gN=>
      some (.inr gN)
     else
      Option.bind (N8 AQ AZ) fun rW=>
      bif (decide (rW>=(0:Int)))then
       Option.bind (Dj rW (Er.sent 4)) fun y16=>
       some (.inr y16)
      else
       Option.bind (NW AQ AZ) fun nN=>
       bif (decide (nN>=(0:Int)))then
        Option.bind (Dj nN (Er.sent 5)) fun nO=>
        some (.inr nO)
       else
        some (.inl ()):Option (Sum Unit Er)) fun z=>
  match z with
  | .inl s2=>
   Qj AZ s2
  | .inr (v19)=>
   some v19
noncomputable def Ju (AQ:Ag) (s3:(List Int)):Option ((List Int)×Er):=
 Option.bind (NQ AQ s3) fun y5=>
 bif (!y5.isNil)then
  some ([],y5)
 else
  some (s3,Er.nil)
noncomputable def Po (y7:(List Int)×Er) (s9:Bool):Option (Sum (List Int) ((List Int)×Er)):=
 bif s9 then
  Option.bind (Dj (0:Int) (Er.sent 8)) fun Vw=>
  some (.inr ([],Vw))
 else
  some (.inl y7.1)
noncomputable def K8 (AQ:Ag) (BA:ByteArray) (s1:Unit):Option ((List Int)×Er):=
 if BA.size<=70368744177664 then
  Option.bind (
   Option.bind (KO BA (ByteArray.mk #[120,110,45,45])) fun y6=>
   bif y6.2 then
    Option.bind (Im y6.1) fun y7=>
    bif y7.2.isNil then
     Option.bind (Gv y7.1) fun y8=>
     Option.bind (
      bif (!y8.2.isNil)then
       some true
      else
       some (!(y8.1.toList==BA.toList)):Option Bool) fun s9=>
     Po y7 s9
    else
     Option.bind (TR y7.2) fun P5=>
     Option.bind (Dj (IntKind.wrap .i64 (P5.1+(4:Int))) P5.2) fun y13=>
     some (.inr ([],y13))
   else
    some (.inl (runesL BA)):Option (Sum (List Int) ((List Int)×Er))) fun z=>
  match z with
  | .inl s3=>
   Ju AQ s3
  | .inr (v14)=>
   some (v14.1,v14.2)
 else none
noncomputable def Gm (BA:ByteArray) (s16:Int):Option (Stp Int (Sum Unit ((List Int)×Er))):=
 bif (decide (s16<((BA.size:Nat):Int)))then
  if 0<=s16/\s16<((BA.size:Nat):Int)then
   Option.bind (Fu (IntKind.wrap .i32 (bt BA s16))) fun wO=>
   bif (!wO)then
    Option.bind (Dj s16 (Er.sent 7)) fun y20=>
    some (.done (.inr ([],y20)))
   else
    some (.next (IntKind.wrap .i64 (s16+(1:Int))))
  else none
 else
  some (.done (.inl ()))
noncomputable def Il (AQ:Ag) (BA:ByteArray):Option ((List Int)×Er):=
 Option.bind (
  iter (Gm BA) (0:Int):Option (Sum Unit ((List Int)×Er))) fun z=>
 match z with
 | .inl s1=>
  K8 AQ BA s1
 | .inr (v23)=>
  some (v23.1,v23.2)
noncomputable def Ik (AQ:Ag) (AZ:(List Int)):Option (ByteArray×Er):=
 Option.bind (NQ AQ AZ) fun y1=>
 bif (!y1.isNil)then
  some ((ByteArray.mk #[]),y1)
 else
  Option.bind (Gv AZ) fun y2=>
  some (y2.1,y2.2)
noncomputable def aW (AQ:Ag) (y2:(List Int)) (y3:ByteArray×Er) (s4:Bool):Option (ByteArray×Er):=
 bif s4 then
  Option.bind (Il AQ y3.1) fun y6=>
  bif (!y6.2.isNil)then
   some ((ByteArray.mk #[]),y6.2)
  else
   some (y3.1,Er.nil)
 else
  Option.bind (Ik AQ y2) fun y7=>
  some (y7.1,y7.2)
noncomputable def Ur (AQ:Ag) (BA:ByteArray):Option (ByteArray×Er):=
 Option.bind (Zg BA) fun y1=>
 bif (!y1.2.isNil)then
  some ((ByteArray.mk #[]),y1.2)
 else
  Option.bind (X8 AQ y1.1) fun y2=>
  Option.bind (LJ y2) fun y3=>
  Option.bind (
   bif y3.2.isNil then
    Option.bind (Rp y3.1 (ByteArray.mk #[120,110,45,45])) fun y8=>
    bif y8 then
     some (((y3.1.size:Nat):Int)==((y2.length:Nat):Int))
    else
     some false
   else
    some false:Option Bool) fun s4=>
  aW AQ y2 y3 s4
noncomputable def NA (Ii:Int):Option Er:=
 bif (Ii==(1:Int))then
  some (Er.sent 7)
 else
  bif (Ii==(2:Int))then
   some (Er.sent 11)
  else
   bif (Ii==(3:Int))then
    some (Er.sent 6)
   else
    bif (Ii==(4:Int))then
     some (Er.sent 12)
    else
     bif (Ii==(5:Int))then
      some (Er.sent 13)
     else
      bif (Ii==(6:Int))then
       some (Er.sent 14)
      else
       bif (Ii==(7:Int))then
        some (Er.sent 15)
       else
        bif (Ii==(8:Int))then
         some (Er.sent 16)
        else
         bif (Ii==(9:Int))then
          some (Er.sent 17)
         else
          bif (Ii==(10:Int))then
           some (Er.sent 3)
          else
           bif (Ii==(11:Int))then
            some (Er.sent 4)
           else
            bif (Ii==(12:Int))then
             some (Er.sent 5)
            else
             bif (Ii==(13:Int))then
              some (Er.sent 2)
             else
              bif (Ii==(14:Int))then
               some (Er.sent 1)
              else
               bif (Ii==(15:Int))then
                some (Er.sent 8)
               else
                bif (Ii==(16:Int))then
                 some (Er.sent 0)
                else
                 bif (Ii==(17:Int))then
                  some (Er.sent 9)
                 else
                  bif (Ii==(18:Int))then
                   some (Er.sent 18)
                  else
                   some Er.nil
noncomputable def UL (ZV:Er) (FX:Int) (Ii:Int):Option Bool:=
 bif (Ii==(0:Int))then
  some ZV.isNil
 else
  bif (!ZV.isNil)then
   bif ZV.isNil then
    some false
   else
    Option.bind (TR ZV) fun y1=>
    bif (y1.1==FX)then
     Option.bind (NA Ii) fun y2=>
     Option.bind (QL ZV y2) fun y3=>
     some y3
    else
     some false
  else
   some false
noncomputable def NC:Option Bool:=
 Option.bind (ND) fun y1=>
 Option.bind (Ur y1 (ByteArray.mk #[66,195,156,67,72,69,82])) fun y2=>
 Option.bind (ND) fun y3=>
 Option.bind (Ur y3 (ByteArray.mk #[97,98,45,45,99])) fun y4=>
 bif y2.2.isNil then
  bif (y2.1.toList==(ByteArray.mk #[120,110,45,45,98,99,104,101,114,45,107,118,97]).toList)then
   Option.bind (UL y4.2 (2:Int) (13:Int)) fun y5=>
   some y5
  else
   some false
 else
  some false
noncomputable def LC (AQ:Ab) (s6:Int):Option (Stp Int (Sum Unit Bool)):=
 bif (decide (s6<((AQ.Ad.length:Nat):Int)))then
  if 0<=s6/\s6<((AQ.Ad.length:Nat):Int)then
   bif (decide ((((AQ.Ad.getD (s6.toNat) Ac).Bp.length:Nat):Int)>(4:Int)))then
    some (.done (.inr true))
   else
    some (.next (IntKind.wrap .i64 (s6+(1:Int))))
  else none
 else
  some (.done (.inl ()))
noncomputable def Pk (AQ:Ab) (s1:Bool):Option Bool:=
 bif s1 then
  some true
 else
  Option.bind (
   iter (LC AQ) (0:Int):Option (Sum Unit Bool)) fun z=>
  match z with
  | .inl s3=>
   some false
  | .inr (v11)=>
   some v11
noncomputable def KI (AQ:Ab):Option Bool:=
 Option.bind (
  bif (decide (((AQ.Ad.length:Nat):Int)>(40:Int)))then
   some true
  else
   bif (decide (((AQ.Au.length:Nat):Int)>(40:Int)))then
    some true
   else
    some (decide (((AQ.AJ.length:Nat):Int)>(40:Int))):Option Bool) fun s1=>
 Pk AQ s1
noncomputable def MV (JQ:Bb):Option (List (List Ap)):=
 some [JQ.Ev,JQ.Gt,JQ.JX,JQ.Hl,JQ.I7,JQ.Hg,JQ.JZ,JQ.JY,JQ.J2,JQ.DJ,JQ.NT]
noncomputable def LD (y1:(List (List Ap))) (s5:Int):Option (Stp Int (Sum Unit Bool)):=
 bif (decide (s5<(11:Int)))then
  if 0<=s5/\s5<(11:Int)then
   bif (decide (((([(y1.getD 0 []),(y1.getD 1 []),(y1.getD 2 []),(y1.getD 3 []),(y1.getD 4 []),(y1.getD 5 []),(y1.getD 6 []),(y1.getD 7 []),(y1.getD 8 []),(y1.getD 9 []),(y1.getD 10 [])].getD (s5.toNat) []).length:Nat):Int)>(40:Int)))then
    some (.done (.inr true))
   else
    some (.next (IntKind.wrap .i64 (s5+(1:Int))))
  else none
 else
  some (.done (.inl ()))
noncomputable def KJ (JQ:Bb):Option Bool:=
 Option.bind (MV JQ) fun y1=>
 Option.bind (
  iter (LD y1) (0:Int):Option (Sum Unit Bool)) fun z=>
 match z with
 | .inl s2=>
  some false
 | .inr (v10)=>
  some v10
noncomputable def KL (AQ:Ag):Option Bool:=
 Option.bind (KI AQ.Ca) fun y1=>
 bif y1 then
  some true
 else
  Option.bind (KJ AQ.Ct) fun y2=>
  some y2
noncomputable def KM (AQ:Ag):Option Bool:=
 Option.bind (KL AQ) fun y1=>
 bif y1 then
  some true
 else
  some (decide (((AQ.EL.length:Nat):Int)>(40:Int)))
noncomputable def Fh (FX:Int) (ZV:Er):Option Er:=
 some (Er.box 70 FX ZV)
noncomputable def PW (s10:Int) (s13:Bool):Option (Stp Int (Sum Unit Er)):=
 bif s13 then
  some (.done (.inr (Er.sent 13)))
 else
  some (.next (IntKind.wrap .i64 (s10+(1:Int))))
noncomputable def JM (AQ:Ab) (p_i:Int) (s10:Int):Option (Stp Int (Sum Unit Er)):=
 bif (decide (s10<(((AQ.Ad.getD (p_i.toNat) Ac).Bp.length:Nat):Int)))then
  if 0<=s10/\s10<(((AQ.Ad.getD (p_i.toNat) Ac).Bp.length:Nat):Int)then
   Option.bind (
    Option.bind (CF ((AQ.Ad.getD (p_i.toNat) Ac).Bp.getD (s10.toNat) 0)) fun rW=>
    bif (!rW)then
     some true
    else
     Option.bind (J5 ((AQ.Ad.getD (p_i.toNat) Ac).Bp.getD (s10.toNat) 0)) fun y16=>
     some (y16 != (0:Int)):Option Bool) fun s13=>
   PW s10 s13
  else none
 else
  some (.done (.inl ()))
noncomputable def QJ (AQ:Ab) (p_i:Int) (s5:Bool):Option Er:=
 bif s5 then
  some (Er.sent 13)
 else
  Option.bind (
   iter (JM AQ p_i) (0:Int):Option (Sum Unit Er)) fun z=>
  match z with
  | .inl s7=>
   some Er.nil
  | .inr (v19)=>
   some v19
noncomputable def QI (AQ:Ab) (p_i:Int) (s3:Bool):Option Er:=
 bif s3 then
  some (Er.sent 14)
 else
  Option.bind (
   bif (decide ((((AQ.Ad.getD (p_i.toNat) Ac).Bp.length:Nat):Int)<(1:Int)))then
    some true
   else
    bif (decide ((((AQ.Ad.getD (p_i.toNat) Ac).Bp.length:Nat):Int)>(2:Int)))then
     some true
    else
     if 0<=(0:Int)/\(0:Int)<(((AQ.Ad.getD (p_i.toNat) Ac).Bp.length:Nat):Int)then
      some (decide (((AQ.Ad.getD (p_i.toNat) Ac).Bp.getD 0 0)>=(AQ.Ad.getD (p_i.toNat) Ac).Bd))
     else none:Option Bool) fun s5=>
  QJ AQ p_i s5
noncomputable def QH (AQ:Ab) (p_i:Int) (s1:Bool):Option Er:=
 bif s1 then
  some (Er.sent 12)
 else
  Option.bind (
   bif (decide (p_i>(0:Int)))then
    if 0<=(IntKind.wrap .i64 (p_i-(1:Int)))/\(IntKind.wrap .i64 (p_i-(1:Int)))<((AQ.Ad.length:Nat):Int)then
     some (decide ((AQ.Ad.getD (p_i.toNat) Ac).Bd<=(AQ.Ad.getD ((IntKind.wrap .i64 (p_i-(1:Int))).toNat) Ac).Bd))
    else none
   else
    some false:Option Bool) fun s3=>
  QI AQ p_i s3
noncomputable def Kl (AQ:Ab) (p_i:Int):Option Er:=
 if 0<=p_i/\p_i<((AQ.Ad.length:Nat):Int)then
  Option.bind (
   Option.bind (CF ((AQ.Ad.getD (p_i.toNat) Ac).Bd)) fun y20=>
   bif (!y20)then
    some true
   else
    Option.bind (J5 ((AQ.Ad.getD (p_i.toNat) Ac).Bd)) fun y21=>
    some (y21 != (0:Int)):Option Bool) fun s1=>
  QH AQ p_i s1
 else none
noncomputable def TQ (s4:Int) (s7:Bool):Option (Stp Int Int):=
 bif s7 then
  some (.next (IntKind.wrap .i64 (s4+(1:Int))))
 else
  some (.done s4)
noncomputable def Kk (AQ:Ab) (s4:Int):Option (Stp Int Int):=
 Option.bind (
  bif (decide (s4<((AQ.Ad.length:Nat):Int)))then
   Option.bind (Kl AQ s4) fun y9=>
   some y9.isNil
  else
   some false:Option Bool) fun s7=>
 TQ s4 s7
noncomputable def Pj (AQ:Ab):Option Int:=
 Option.bind (
  iter (Kk AQ) (0:Int):Option Int) fun s1=>
 some s1
noncomputable def Ph (KA:EB) (DW:Int):Option Bool:=
 some (KA.Bd==DW)
noncomputable def DF (BA:(List EB)) (Ua:Int) (s4:Int):Option (Stp Int (Sum Unit Int)):=
 bif (decide (s4<((BA.length:Nat):Int)))then
  if 0<=s4/\s4<((BA.length:Nat):Int)then
   Option.bind (Ph (BA.getD (s4.toNat) Ac) Ua) fun y7=>
   bif y7 then
    some (.done (.inr s4))
   else
    some (.next (IntKind.wrap .i64 (s4+(1:Int))))
  else none
 else
  some (.done (.inl ()))
noncomputable def D5 (BA:(List EB)) (Ua:Int):Option Int:=
 Option.bind (
  iter (DF BA Ua) (0:Int):Option (Sum Unit Int)) fun z=>
 match z with
 | .inl s1=>
  some (-1:Int)
 | .inr (v10)=>
  some v10
noncomputable def DC (BA:(List EB)) (Ua:Int):Option Bool:=
 Option.bind (D5 BA Ua) fun y1=>
 some (decide (y1>=(0:Int)))
noncomputable def RL (AQ:Ab) (p_r:Int):Option Bool:=
 Option.bind (DC AQ.Ad p_r) fun y1=>
 some y1
noncomputable def Kj (AQ:Ab) (s4:Int×Int) (s7:Bool):Option (Stp (Int×Int) Int):=
 bif s7 then
  if 0<=s4.1/\s4.1<((AQ.Ad.length:Nat):Int)then
   bif ((((AQ.Ad.getD (s4.1.toNat) Ac).Bp.length:Nat):Int)==(0:Int))then
    some (.done (IntKind.wrap .i64 (s4.2+(1:Int))))
   else
    if 0<=s4.1/\s4.1<((AQ.Ad.length:Nat):Int)then
     if 0<=(0:Int)/\(0:Int)<(((AQ.Ad.getD (s4.1.toNat) Ac).Bp.length:Nat):Int)then
      Option.bind (NP AQ ((AQ.Ad.getD (s4.1.toNat) Ac).Bp.getD 0 0)) fun y9=>
      some (.next (y9,(IntKind.wrap .i64 (s4.2+(1:Int)))))
     else none
    else none
  else none
 else
  some (.done s4.2)
noncomputable def GZ (AQ:Ab) (s4:Int×Int):Option (Stp (Int×Int) Int):=
 Option.bind (
  bif (decide (s4.1>=(0:Int)))then
   some (decide (s4.2<=(8:Int)))
  else
   some false:Option Bool) fun s7=>
 Kj AQ s4 s7
noncomputable def K5 (AQ:Ab) (Nu:Int):Option Int:=
 Option.bind (
  iter (GZ AQ) (Nu,(0:Int)):Option Int) fun s1=>
 some s1
noncomputable def RQ (KA:Ap):Option Bool:=
 bif (decide (KA.GQ>=(0:Int)))then
  bif (decide (KA.GQ<=KA.GD))then
   bif (decide (KA.GD<=(1114111:Int)))then
    bif (decide (KA.CP>=(0:Int)))then
     some (decide (KA.CP<=(999999:Int)))
    else
     some false
   else
    some false
  else
   some false
 else
  some false
def G8 (l:List Ap) (k:Nat):Option Nat:=
 if(decide (0<=(l.getD k Ai).GQ)&&(decide ((l.getD k Ai).GQ<=(l.getD k Ai).GD)&&(decide ((l.getD k Ai).GD<=1114111)&&(decide (0<=(l.getD k Ai).CP)&&decide ((l.getD k Ai).CP<=999999)))))=false then some 12
 else if(l.getD k Ai).GQ<=(if k=0 then-1 else(l.getD (k-1) Ai).GD)then some 14 else none
def DK (l:List Ap) (n:Nat):List (Nat×Nat):=(List.range n).filterMap fun k=>(G8 l k).map fun g=>(k,g)
def La (AZ:List Ap):Option Er:=
 if 2000<AZ.length then some (.box 70 0 (.sent 18))
 else some (match DK AZ AZ.length with|(k,g)::_=>.box 70 (k:Int) (.sent g)| []=>.nil)
def Zd (x:Ap):Bool:=(decide (x.GQ<=4370)&&decide (4352<=x.GD))||((decide (x.GQ<=4469)&&decide (4449<=x.GD))||((decide (x.GQ<=4546)&&decide (4520<=x.GD))||(decide (x.GQ<=55203)&&decide (44032<=x.GD))))
def Q0 (KA:Ap):Option Bool:=some (Zd KA)
noncomputable def F5 (AQ:Ab) (s:List (Int×Int)×Nat):Option (Stp (List (Int×Int)×Nat) Er):=
 if s.2<AQ.Ad.length then
  Option.bind (Gl AQ (s.2:Int)) fun y=>
  if y=true then
   if(AQ.Ad.getD s.2 Ac).Bp.length=2/\(-2147483648<=(AQ.Ad.getD s.2 Ac).Bp.getD 0 0/\(AQ.Ad.getD s.2 Ac).Bp.getD 0 0<=2147483647)/\(-2147483648<=(AQ.Ad.getD s.2 Ac).Bp.getD 1 0/\(AQ.Ad.getD s.2 Ac).Bp.getD 1 0<=2147483647)then
    if((AQ.Ad.getD s.2 Ac).Bp.getD 0 0,(AQ.Ad.getD s.2 Ac).Bp.getD 1 0)∈s.1 then some (.done (.box 70 (s.2:Int) (.sent 15)))
    else some (.next (s.1++ [((AQ.Ad.getD s.2 Ac).Bp.getD 0 0,(AQ.Ad.getD s.2 Ac).Bp.getD 1 0)],s.2+1))
   else none
  else some (.next (s.1,s.2+1))
 else some (.done .nil)
noncomputable def K6 (AQ:Ab):Option Er:=if AQ.Ad.length<=1000000 then iter (F5 AQ) ([],0)else none
noncomputable def Oq (AQ:Ab) (s12:Unit):Option Er:=
 Option.bind (K6 AQ) fun gN=>
 some gN
noncomputable def Sr (s16:Int) (s21:Bool):Option (Stp Int (Sum Unit Er)):=
 bif s21 then
  Option.bind (Fh s16 (Er.sent 14)) fun y23=>
  some (.done (.inr y23))
 else
  some (.next (IntKind.wrap .i64 (s16+(1:Int))))
noncomputable def Ls (AQ:Ab) (s16:Int):Option (Stp Int (Sum Unit Er)):=
 bif (decide (s16<((AQ.AJ.length:Nat):Int)))then
  if 0<=s16/\s16<((AQ.AJ.length:Nat):Int)then
   Option.bind (CF (AQ.AJ.getD (s16.toNat) 0)) fun wO=>
   bif (!wO)then
    Option.bind (Fh s16 (Er.sent 12)) fun y20=>
    some (.done (.inr y20))
   else
    Option.bind (
     bif (decide (s16>(0:Int)))then
      if 0<=(IntKind.wrap .i64 (s16-(1:Int)))/\(IntKind.wrap .i64 (s16-(1:Int)))<((AQ.AJ.length:Nat):Int)then
       some (decide ((AQ.AJ.getD (s16.toNat) 0)<=(AQ.AJ.getD ((IntKind.wrap .i64 (s16-(1:Int))).toNat) 0)))
      else none
     else
      some false:Option Bool) fun s21=>
    Sr s16 s21
  else none
 else
  some (.done (.inl ()))
noncomputable def Oo (AQ:Ab) (s10:Unit):Option Er:=
 Option.bind (
  iter (Ls AQ) (0:Int):Option (Sum Unit Er)) fun z=>
 match z with
 | .inl s12=>
  Oq AQ s12
 | .inr (v26)=>
  some v26
noncomputable def Sv (gJ:Int) (ZH:Bool):Option (Stp Int (Sum Unit Er)):=
 bif ZH then
  Option.bind (Fh gJ (Er.sent 9)) fun y33=>
  some (.done (.inr y33))
 else
  some (.next (IntKind.wrap .i64 (gJ+(1:Int))))
noncomputable def Lu (AQ:Ab) (gJ:Int):Option (Stp Int (Sum Unit Er)):=
 bif (decide (gJ<((AQ.Au.length:Nat):Int)))then
  if 0<=gJ/\gJ<((AQ.Au.length:Nat):Int)then
   Option.bind (
    bif (decide ((AQ.Au.getD (gJ.toNat) Ai).CP<(1:Int)))then
     some true
    else
     bif (decide ((AQ.Au.getD (gJ.toNat) Ai).CP>(254:Int)))then
      some true
     else
      Option.bind (Q0 (AQ.Au.getD (gJ.toNat) Ai)) fun y34=>
      some y34:Option Bool) fun ZH=>
   Sv gJ ZH
  else none
 else
  some (.done (.inl ()))
noncomputable def Pf (AQ:Ab) (y4:Int) (s5:Unit):Option Er:=
 bif (decide (y4<((AQ.Ad.length:Nat):Int)))then
  Option.bind (Kl AQ y4) fun y7=>
  Option.bind (Fh y4 y7) fun y8=>
  some y8
 else
  Option.bind (La AQ.Au) fun y9=>
  bif (!y9.isNil)then
   some y9
  else
   Option.bind (
    iter (Lu AQ) (0:Int):Option (Sum Unit Er)) fun z=>
   match z with
   | .inl s10=>
    Oo AQ s10
   | .inr (v37)=>
    some v37
noncomputable def Sw (zW:Int) (s42:Bool):Option (Stp Int (Sum Unit Er)):=
 bif s42 then
  Option.bind (Fh zW (Er.sent 17)) fun y44=>
  some (.done (.inr y44))
 else
  some (.next (IntKind.wrap .i64 (zW+(1:Int))))
noncomputable def Lv (AQ:Ab) (y4:Int) (zW:Int):Option (Stp Int (Sum Unit Er)):=
 bif (decide (zW<y4))then
  if 0<=zW/\zW<((AQ.Ad.length:Nat):Int)then
   Option.bind (
    bif ((((AQ.Ad.getD (zW.toNat) Ac).Bp.length:Nat):Int)==(2:Int))then
     if 0<=(1:Int)/\(1:Int)<(((AQ.Ad.getD (zW.toNat) Ac).Bp.length:Nat):Int)then
      Option.bind (RL AQ ((AQ.Ad.getD (zW.toNat) Ac).Bp.getD 1 0)) fun y45=>
      bif y45 then
       some true
      else
       Option.bind (K5 ({ Ad:=(AQ.Ad.take ((y4.toNat)-0)),Au:= [],AJ:= [] } :Ab) zW) fun y46=>
       some (decide (y46>(8:Int)))
     else none
    else
     Option.bind (K5 ({ Ad:=(AQ.Ad.take ((y4.toNat)-0)),Au:= [],AJ:= [] } :Ab) zW) fun y47=>
     some (decide (y47>(8:Int))):Option Bool) fun s42=>
   Sw zW s42
  else none
 else
  some (.done (.inl ()))
noncomputable def TN (AQ:Ab) (s1:Bool):Option Er:=
 bif s1 then
  Option.bind (Fh (0:Int) (Er.sent 18)) fun y3=>
  some y3
 else
  Option.bind (Pj AQ) fun y4=>
  if 0<=(0:Int)/\(0:Int)<=y4/\y4<=((AQ.Ad.length:Nat):Int)then
   Option.bind (
    iter (Lv AQ y4) (0:Int):Option (Sum Unit Er)) fun z=>
   match z with
   | .inl s5=>
    Pf AQ y4 s5
   | .inr (v50)=>
    some v50
  else none
noncomputable def Pb (AQ:Ab):Option Er:=
 Option.bind (
  bif (decide (((AQ.Ad.length:Nat):Int)>(2000:Int)))then
   some true
  else
   some (decide (((AQ.AJ.length:Nat):Int)>(2000:Int))):Option Bool) fun s1=>
 TN AQ s1
noncomputable def O7 (JQ:Bb):Option (List BR):=
 some [({ XD:=JQ.Ev,Ir:=(5:Int) } :BR),({ XD:=JQ.Gt,Ir:=(0:Int) } :BR),({ XD:=JQ.JX,Ir:=(0:Int) } :BR),({ XD:=JQ.Hl,Ir:=(0:Int) } :BR),({ XD:=JQ.I7,Ir:=(0:Int) } :BR),({ XD:=JQ.Hg,Ir:=(0:Int) } :BR),({ XD:=JQ.JZ,Ir:=(0:Int) } :BR),({ XD:=JQ.JY,Ir:=(4:Int) } :BR),({ XD:=JQ.J2,Ir:=(5:Int) } :BR),({ XD:=JQ.DJ,Ir:=(11:Int) } :BR),({ XD:=JQ.NT,Ir:=(0:Int) } :BR)]
noncomputable def Ny (s12:Int) (s15:Bool):Option (Stp Int (Sum Unit Er)):=
 bif s15 then
  some (.done (.inr (Er.box 70 s12 (Er.sent 9))))
 else
  some (.next (IntKind.wrap .i64 (s12+(1:Int))))
noncomputable def KG (y3:(List BR)) (s5:Int) (s12:Int):Option (Stp Int (Sum Unit Er)):=
 bif (decide (s12<(((y3.getD (s5.toNat) Cr).XD.length:Nat):Int)))then
  if 0<=s12/\s12<(((y3.getD (s5.toNat) Cr).XD.length:Nat):Int)then
   Option.bind (
    bif (decide ((y3.getD (s5.toNat) Cr).Ir>(0:Int)))then
     bif (decide (((y3.getD (s5.toNat) Cr).XD.getD (s12.toNat) Ai).CP<(1:Int)))then
      some true
     else
      some (decide (((y3.getD (s5.toNat) Cr).XD.getD (s12.toNat) Ai).CP>(y3.getD (s5.toNat) Cr).Ir))
    else
     some false:Option Bool) fun s15=>
   Ny s12 s15
  else none
 else
  some (.done (.inl ()))
noncomputable def Oi (y3:(List BR)) (s5:Int):Option (Stp Int (Sum Unit Er)):=
 bif (decide (s5<((y3.length:Nat):Int)))then
  Option.bind (
   if 0<=s5/\s5<((y3.length:Nat):Int)then
    Option.bind (La ((y3.getD (s5.toNat) Cr).XD)) fun Rf=>
    bif (!Rf.isNil)then
     some (.inr Rf)
    else
     Option.bind (iter (KG y3 s5) (0:Int)) fun z=>
     match z with
     | .inl rM=>
      some (.inl ())
     | .inr (v18)=>
      some (.inr v18)
   else none:Option (Sum Unit Er)) fun z=>
  match z with
  | .inl s8=>
   some (.next (IntKind.wrap .i64 (s5+(1:Int))))
  | .inr (v19)=>
   some (.done (.inr v19))
 else
  some (.done (.inl ()))
noncomputable def NU (JQ:Bb):Option Er:=
 Option.bind (
  Option.bind (O7 JQ) fun y3=>
  iter (Oi y3) (0:Int):Option (Sum Unit Er)) fun z=>
 match z with
 | .inl s1=>
  some Er.nil
 | .inr (v22)=>
  some v22
noncomputable def Nn (AQ:Ag):Option Er:=
 Option.bind (Pb AQ.Ca) fun y1=>
 bif (!y1.isNil)then
  some y1
 else
  Option.bind (NU AQ.Ct) fun y2=>
  some y2
noncomputable def KN (AZ:(List CQ)) (s7:Int):Option (Stp Int (Sum Unit Er)):=
 bif (decide (s7<((AZ.length:Nat):Int)))then
  if 0<=s7/\s7<((AZ.length:Nat):Int)then
   Option.bind (Mj AZ ((AZ.getD (s7.toNat) E9).Bp)) fun Rf=>
   bif Rf.2 then
    Option.bind (Dj s7 (Er.sent 15)) fun Vw=>
    some (.done (.inr Vw))
   else
    some (.next (IntKind.wrap .i64 (s7+(1:Int))))
  else none
 else
  some (.done (.inl ()))
noncomputable def NH (AZ:(List CQ)) (s2:Unit):Option Er:=
 Option.bind (
  iter (KN AZ) (0:Int):Option (Sum Unit Er)) fun z=>
 match z with
 | .inl s4=>
  some Er.nil
 | .inr (v14)=>
  some v14
noncomputable def QN (s16:Int) (s22:Bool):Option (Stp Int (Sum Unit Er)):=
 bif s22 then
  Option.bind (Dj s16 (Er.sent 14)) fun y24=>
  some (.done (.inr y24))
 else
  some (.next (IntKind.wrap .i64 (s16+(1:Int))))
noncomputable def QM (AZ:(List CQ)) (s16:Int) (Vv:Bool):Option (Stp Int (Sum Unit Er)):=
 bif Vv then
  Option.bind (Dj s16 (Er.sent 12)) fun y21=>
  some (.done (.inr y21))
 else
  Option.bind (
   bif (decide (s16>(0:Int)))then
    if 0<=(IntKind.wrap .i64 (s16-(1:Int)))/\(IntKind.wrap .i64 (s16-(1:Int)))<((AZ.length:Nat):Int)then
     some (decide ((AZ.getD (s16.toNat) E9).Bd<=(AZ.getD ((IntKind.wrap .i64 (s16-(1:Int))).toNat) E9).Bd))
    else none
   else
    some false:Option Bool) fun s22=>
  QN s16 s22
noncomputable def Ko (AZ:(List CQ)) (s16:Int):Option (Stp Int (Sum Unit Er)):=
 bif (decide (s16<((AZ.length:Nat):Int)))then
  if 0<=s16/\s16<((AZ.length:Nat):Int)then
   Option.bind (
    Option.bind (CF ((AZ.getD (s16.toNat) E9).Bd)) fun y25=>
    bif (!y25)then
     some (!y25)
    else
     Option.bind (Fu ((AZ.getD (s16.toNat) E9).Bd)) fun wL=>
     bif wL then
      some wL
     else
      Option.bind (CF ((AZ.getD (s16.toNat) E9).Bp)) fun y27=>
      bif (!y27)then
       some (!y27)
      else
       Option.bind (J6 ((AZ.getD (s16.toNat) E9).Bp)) fun y28=>
       some y28:Option Bool) fun Vv=>
   QM AZ s16 Vv
  else none
 else
  some (.done (.inl ()))
noncomputable def Qk (AZ:(List CQ)):Option Er:=
 bif (decide (((AZ.length:Nat):Int)>(2000:Int)))then
  Option.bind (Dj (0:Int) (Er.sent 18)) fun y1=>
  some y1
 else
  Option.bind (
   iter (Ko AZ) (0:Int):Option (Sum Unit Er)) fun z=>
  match z with
  | .inl s2=>
   NH AZ s2
  | .inr (v31)=>
   some v31
noncomputable def SF (AQ:Ag) (s4:Unit):Option Er:=
 Option.bind (Qk AQ.EL) fun y6=>
 some y6
noncomputable def Pn (AQ:Ag) (s8:Int):Option (Stp Int (Sum Unit Er)):=
 bif (decide (s8<((AQ.Ca.Au.length:Nat):Int)))then
  if 0<=s8/\s8<((AQ.Ca.Au.length:Nat):Int)then
   Option.bind (Fu ((AQ.Ca.Au.getD (s8.toNat) Ai).GQ)) fun Vw=>
   bif Vw then
    Option.bind (Dj s8 (Er.sent 9)) fun P5=>
    some (.done (.inr P5))
   else
    some (.next (IntKind.wrap .i64 (s8+(1:Int))))
  else none
 else
  some (.done (.inl ()))
noncomputable def SC (AQ:Ag) (s2:Unit):Option Er:=
 Option.bind (
  iter (Pn AQ) (0:Int):Option (Sum Unit Er)) fun z=>
 match z with
 | .inl s4=>
  SF AQ s4
 | .inr (v15)=>
  some v15
noncomputable def Q5 (rM:Int) (s20:Bool):Option (Stp Int (Sum Unit Er)):=
 bif s20 then
  Option.bind (Dj rM (Er.sent 9)) fun y22=>
  some (.done (.inr y22))
 else
  some (.next (IntKind.wrap .i64 (rM+(1:Int))))
noncomputable def N9 (AQ:Ag) (rM:Int):Option (Stp Int (Sum Unit Er)):=
 bif (decide (rM<((AQ.Ca.Ad.length:Nat):Int)))then
  if 0<=rM/\rM<((AQ.Ca.Ad.length:Nat):Int)then
   Option.bind (
    Option.bind (Fu ((AQ.Ca.Ad.getD (rM.toNat) Ac).Bd)) fun y23=>
    bif y23 then
     some true
    else
     bif ((((AQ.Ca.Ad.getD (rM.toNat) Ac).Bp.length:Nat):Int)==(2:Int))then
      if 0<=(1:Int)/\(1:Int)<(((AQ.Ca.Ad.getD (rM.toNat) Ac).Bp.length:Nat):Int)then
       Option.bind (Fu ((AQ.Ca.Ad.getD (rM.toNat) Ac).Bp.getD 1 0)) fun y24=>
       some y24
      else none
     else
      some false:Option Bool) fun s20=>
   Q5 rM s20
  else none
 else
  some (.done (.inl ()))
noncomputable def TS (AQ:Ag):Option Er:=
 Option.bind (Nn AQ) fun y1=>
 bif (!y1.isNil)then
  some y1
 else
  Option.bind (
   iter (N9 AQ) (0:Int):Option (Sum Unit Er)) fun z=>
  match z with
  | .inl s2=>
   SC AQ s2
  | .inr (v27)=>
   some v27
noncomputable def Mt (AL:(List Int)) (Bq:(List Int)) (s4:Int):Option (Stp Int (Sum Unit Bool)):=
 bif (decide (s4<((AL.length:Nat):Int)))then
  if 0<=s4/\s4<((AL.length:Nat):Int)then
   if 0<=s4/\s4<((Bq.length:Nat):Int)then
    bif ((AL.getD (s4.toNat) 0) != (Bq.getD (s4.toNat) 0))then
     some (.done (.inr false))
    else
     some (.next (IntKind.wrap .i64 (s4+(1:Int))))
   else none
  else none
 else
  some (.done (.inl ()))
noncomputable def LB (AL:(List Int)) (Bq:(List Int)):Option Bool:=
 bif (((AL.length:Nat):Int) != ((Bq.length:Nat):Int))then
  some false
 else
  Option.bind (
   iter (Mt AL Bq) (0:Int):Option (Sum Unit Bool)) fun z=>
  match z with
  | .inl s1=>
   some true
  | .inr (v9)=>
   some v9
noncomputable def MS (s8:Bool):Option Bool:=
 bif s8 then
  some false
 else
  some true
noncomputable def G5 (AQ:Ag) (BA:ByteArray) (s4:Unit):Option Bool:=
 Option.bind (Il AQ BA) fun y6=>
 bif y6.2.isNil then
  Option.bind (Ik AQ y6.1) fun y7=>
  Option.bind (
   bif (!y7.2.isNil)then
    some true
   else
    some (!(y7.1.toList==BA.toList)):Option Bool) fun s8=>
  MS s8
 else
  some true
noncomputable def RN (s12:Bool):Option (Sum Unit Bool):=
 bif s12 then
  some (.inr false)
 else
  some (.inl ())
noncomputable def MR (AQ:Ag) (AZ:(List Int)) (BA:ByteArray) (s2:Bool):Option Bool:=
 bif s2 then
  some true
 else
  Option.bind (
   Option.bind (Ik AQ AZ) fun Rf=>
   bif Rf.2.isNil then
    Option.bind (Il AQ Rf.1) fun Vw=>
    Option.bind (
     bif (!Vw.2.isNil)then
      some true
     else
      Option.bind (LB Vw.1 AZ) fun gN=>
      bif (!gN)then
       some true
      else
       some (decide (((Rf.1.size:Nat):Int)>(63:Int))):Option Bool) fun s12=>
    RN s12
   else
    some (.inl ()):Option (Sum Unit Bool)) fun z=>
  match z with
  | .inl s4=>
   G5 AQ BA s4
  | .inr (v15)=>
   some v15
noncomputable def K7 (AQ:Ag) (AZ:(List Int)) (BA:ByteArray):Option Bool:=
 Option.bind (NC) fun y1=>
 bif (!y1)then
  some false
 else
  Option.bind (
   Option.bind (KM AQ) fun y16=>
   bif y16 then
    some true
   else
    bif (decide (((AZ.length:Nat):Int)>(30:Int)))then
     some true
    else
     bif (decide (((BA.size:Nat):Int)>(70:Int)))then
      some true
     else
      Option.bind (TS AQ) fun nN=>
      some (!nN.isNil):Option Bool) fun s2=>
  MR AQ AZ BA s2
noncomputable def Km (p_n:Int) (lM:Int) (Yz:Int):Option Int:=
 bif (decide (p_n<lM))then
  some lM
 else
  bif (decide (p_n>Yz))then
   some Yz
  else
   some p_n
noncomputable def PY (s5:Int×Int):Option Int:=
 if(IntKind.wrap .i64 (s5.1+(38:Int)))≠0 then
  some (IntKind.wrap .i64 (s5.2+(IntKind.wrap .i64 (Int.tdiv (IntKind.wrap .i64 ((36:Int)*s5.1)) (IntKind.wrap .i64 (s5.1+(38:Int)))))))
 else none
noncomputable def PZ (s8:Int×Int):Option (Stp (Int×Int) (Int×Int)):=
 bif (decide (s8.1>(455:Int)))then
  some (.next ((IntKind.wrap .i64 (Int.tdiv s8.1 (35:Int))),(IntKind.wrap .i64 (s8.2+(36:Int)))))
 else
  some (.done (s8.1,s8.2))
noncomputable def Mv (y1:Int) (y2:Int) (s3:Int):Option Int:=
 if s3≠0 then
  if y2≠0 then
   Option.bind (
    iter (PZ) ((IntKind.wrap .i64 ((IntKind.wrap .i64 (Int.tdiv y1 s3))+(IntKind.wrap .i64 (Int.tdiv (IntKind.wrap .i64 (Int.tdiv y1 s3)) y2)))),(0:Int)):Option (Int×Int)) fun s5=>
   PY s5
  else none
 else none
noncomputable def SB (bE:Int) (Ky:Int) (Di:Bool):Option Int:=
 Option.bind (Km bE (0:Int) (2147483647:Int)) fun y1=>
 Option.bind (Km Ky (1:Int) (2147483647:Int)) fun y2=>
 Option.bind (
  bif Di then
   some (700:Int)
  else
   some (2:Int):Option Int) fun s3=>
 Mv y1 y2 s3
noncomputable def MU (AQ:Ab) (p_r:Int) (s4:Int):Option (Stp Int (Sum Unit Int)):=
 bif (decide (s4<((AQ.Ad.length:Nat):Int)))then
  if 0<=s4/\s4<((AQ.Ad.length:Nat):Int)then
   bif ((AQ.Ad.getD (s4.toNat) Ac).Bd==p_r)then
    some (.done (.inr s4))
   else
    some (.next (IntKind.wrap .i64 (s4+(1:Int))))
  else none
 else
  some (.done (.inl ()))
noncomputable def Pm (AQ:Ab) (p_r:Int):Option Int:=
 Option.bind (
  iter (MU AQ p_r) (0:Int):Option (Sum Unit Int)) fun z=>
 match z with
 | .inl s1=>
  some (-1:Int)
 | .inr (v9)=>
  some v9
noncomputable def Dp (AQ:Ab):Nat->Int->Option (List Int)
 |0,_=>none
 |k+1,r=>
  if 44032<=r/\r<=55203 then some (if(r-44032)%28>0 then [4352+(r-44032)/588,4449+(r-44032)/28%21,4519+(r-44032)%28]else [4352+(r-44032)/588,4449+(r-44032)/28%21])
  else Option.bind (Pm AQ r) fun y=>
   if y<0 then some [r]
   else if y<((AQ.Ad.length:Nat):Int)then
    if 0<(AQ.Ad.getD y.toNat Ac).Bp.length then
     Option.bind (Dp AQ k ((AQ.Ad.getD y.toNat Ac).Bp.getD 0 0)) fun out=>
     if(AQ.Ad.getD y.toNat Ac).Bp.length=2 then
      if out.length<=1000000 then some (out++ [(AQ.Ad.getD y.toNat Ac).Bp.getD 1 0])else none
     else some out
    else none
   else none
noncomputable def MB (AQ:Ab) (p_r:Int):Option (List Int):=Dp AQ 50 p_r
noncomputable def PX (AZ:(List Ap)) (s4:Int) (s7:Bool):Option (Stp Int (Sum Unit (Int×Bool))):=
 bif s7 then
  if 0<=s4/\s4<((AZ.length:Nat):Int)then
   some (.done (.inr ((AZ.getD (s4.toNat) Ai).CP,true)))
  else none
 else
  some (.next (IntKind.wrap .i64 (s4+(1:Int))))
noncomputable def JN (AZ:(List Ap)) (p_r:Int) (s4:Int):Option (Stp Int (Sum Unit (Int×Bool))):=
 bif (decide (s4<((AZ.length:Nat):Int)))then
  Option.bind (
   if 0<=s4/\s4<((AZ.length:Nat):Int)then
    bif (decide ((AZ.getD (s4.toNat) Ai).GQ<=p_r))then
     if 0<=s4/\s4<((AZ.length:Nat):Int)then
      some (decide (p_r<=(AZ.getD (s4.toNat) Ai).GD))
     else none
    else
     some false
   else none:Option Bool) fun s7=>
  PX AZ s4 s7
 else
  some (.done (.inl ()))
noncomputable def Ov (AZ:(List Ap)) (p_r:Int):Option (Int×Bool):=
 Option.bind (
  iter (JN AZ p_r) (0:Int):Option (Sum Unit (Int×Bool))) fun z=>
 match z with
 | .inl s1=>
  some ((0:Int),false)
 | .inr (v11)=>
  some (v11.1,v11.2)
noncomputable def NG (AQ:Ab) (p_r:Int):Option Int:=
 Option.bind (Ov AQ.Au p_r) fun y1=>
 some y1.1
noncomputable def Ou (p_r:Int):Option ByteArray:=
 bif (decide (p_r<(128:Int)))then
  some (strOfNums [(IntKind.wrap .u8 p_r)])
 else
  bif (decide (p_r<(2048:Int)))then
   some (strOfNums [(IntKind.wrap .u8 (IntKind.wrap .i32 ((192:Int)+(IntKind.wrap .i32 (Int.tdiv p_r (64:Int)))))),(IntKind.wrap .u8 (IntKind.wrap .i32 ((128:Int)+(Int.tmod p_r (64:Int)))))])
  else
   bif (decide (p_r<(65536:Int)))then
    some (strOfNums [(IntKind.wrap .u8 (IntKind.wrap .i32 ((224:Int)+(IntKind.wrap .i32 (Int.tdiv p_r (4096:Int)))))),(IntKind.wrap .u8 (IntKind.wrap .i32 ((128:Int)+(Int.tmod (IntKind.wrap .i32 (Int.tdiv p_r (64:Int))) (64:Int))))),(IntKind.wrap .u8 (IntKind.wrap .i32 ((128:Int)+(Int.tmod p_r (64:Int)))))])
   else
    some (strOfNums [(IntKind.wrap .u8 (IntKind.wrap .i32 ((240:Int)+(IntKind.wrap .i32 (Int.tdiv p_r (262144:Int)))))),(IntKind.wrap .u8 (IntKind.wrap .i32 ((128:Int)+(Int.tmod (IntKind.wrap .i32 (Int.tdiv p_r (4096:Int))) (64:Int))))),(IntKind.wrap .u8 (IntKind.wrap .i32 ((128:Int)+(Int.tmod (IntKind.wrap .i32 (Int.tdiv p_r (64:Int))) (64:Int))))),(IntKind.wrap .u8 (IntKind.wrap .i32 ((128:Int)+(Int.tmod p_r (64:Int)))))])
noncomputable def IG (AZ:(List Int)) (s4:ByteArray×Int):Option (Stp (ByteArray×Int) ByteArray):=
 bif (decide (s4.2<((AZ.length:Nat):Int)))then
  if 0<=s4.2/\s4.2<((AZ.length:Nat):Int)then
   Option.bind (Ou (AZ.getD (s4.2.toNat) 0)) fun y7=>
   if s4.1.size+y7.size<=9223372036854775807 then
    some (.next ((s4.1++y7),(IntKind.wrap .i64 (s4.2+(1:Int)))))
   else none
  else none
 else
  some (.done s4.1)
noncomputable def QK (AZ:(List Int)):Option ByteArray:=
 Option.bind (
  iter (IG AZ) ((ByteArray.mk #[]),(0:Int)):Option ByteArray) fun s1=>
 some s1
end Go.Proofs.YtkeokkmhhhhoiaaGreatDoor
