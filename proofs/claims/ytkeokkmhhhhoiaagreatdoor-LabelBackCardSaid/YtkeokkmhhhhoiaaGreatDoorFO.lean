import Derived.Test.YtkeokkmhhhhoiaaGreatDoorRows
import Derived.Test.YtkeokkmhhhhoiaaGreatDoorTie
import Derived.Test.YtkeokkmhhhhoiaaGreatDoorCards
import Derived.Test.YtkeokkmhhhhoiaaGreatDoorSe24
import Derived.Test.YtkeokkmhhhhoiaaGreatDoorM
import Derived.Test.YtkeokkmhhhhoiaaGreatDoorSe22
import Derived.OpenShut
import Derived.WalkKit
import Derived.ProofKit
import Derived.ChangeOld
import Derived.Below
import Derived.LaidMore
import Derived.LaidHandle
import Derived.SevenTiedAt
import Derived.ChangeMaps5
namespace Go.Proofs.YtkeokkmhhhhoiaaGreatDoor
open Go Go.ChangeShapes Go.WideShapes Go.ChangeAt Go.RowKit Go.SE
set_option linter.unusedVariables false
theorem Am1:Tryz.prog.cellsOf 31=15:=by kernel_rfl
theorem AmY:Tryz.prog.cellsOf 26=3:=by kernel_rfl
theorem AmV:Tryz.prog.cellsOf 22=1:=by kernel_rfl
theorem Ak5:Tryz.prog.cellsOf 96=2:=by kernel_rfl
theorem Ak3:Tryz.prog.cellsOf 21=1:=by kernel_rfl
theorem o21:Opens Tryz.prog 21 (fun n:Int=>AV.int .i32 n) (fun n:Int=>(Lit.int .i32 n).wf=true):=qZ Tryz.underlying21 Ak3
theorem AmX:Tryz.prog.cellsOf 24=1:=by kernel_rfl
def Zm (l:(List Int)):Prop:=l.length<=maxLen/\ ∀j,j<l.length->(fun n:Int=>(Lit.int .i32 n).wf=true) (l.getD j 0)
theorem o24:Opens Tryz.prog 24 Az Zm:=Vs Tryz.underlying24 AmX (by rw[Ak3];decide) o21 0
def lG (x:EB):Prop:=(fun n:Int=>(Lit.int .i32 n).wf=true) x.Bd/\Zm x.Bp
theorem o96:Opens Tryz.prog 96 Nb lG:=by
 intro H enc w base sp held fuel cs y h
 obtain⟨n,hl,hf⟩:=Ml Tryz.underlying96 h
 obtain⟨a0,k0,s0⟩:=o21.seg (hf 0 _ rfl)
 obtain⟨a1,k1,s1⟩:=o24.seg (hf 1 _ rfl)
 exact⟨⟨a0,a1⟩,⟨k0,k1⟩,rfl,(hl.trans Ak5).symm,hl,Seg.zero (s0.app s1 rfl)⟩
def Zl (l:(List EB)):Prop:=l.length<=maxLen/\ ∀j,j<l.length->lG (l.getD j Ac)
theorem o22:Opens Tryz.prog 22 Eu Zl:=Vs Tryz.underlying22 AmV (by rw[Ak5];decide) o96 Ac
theorem AmW:Tryz.prog.cellsOf 23=1:=by kernel_rfl
theorem Ak6:Tryz.prog.cellsOf 98=3:=by kernel_rfl
theorem cT3:Tryz.prog.cellsOf 3=1:=by kernel_rfl
theorem o3:Opens Tryz.prog 3 (fun n:Int=>AV.int .i64 n) (fun n:Int=>(Lit.int .i64 n).wf=true):=qZ Tryz.underlying3 cT3
def Zo (x:Ap):Prop:=(fun n:Int=>(Lit.int .i32 n).wf=true) x.GQ/\(fun n:Int=>(Lit.int .i32 n).wf=true) x.GD/\(fun n:Int=>(Lit.int .i64 n).wf=true) x.CP
theorem o98:Opens Tryz.prog 98 Lg Zo:=by
 intro H enc w base sp held fuel cs y h
 obtain⟨n,hl,hf⟩:=Ml Tryz.underlying98 h
 obtain⟨a0,k0,s0⟩:=o21.seg (hf 0 _ rfl)
 obtain⟨a1,k1,s1⟩:=o21.seg (hf 1 _ rfl)
 obtain⟨a2,k2,s2⟩:=o3.seg (hf 2 _ rfl)
 exact⟨⟨a0,a1,a2⟩,⟨k0,k1,k2⟩,rfl,(hl.trans Ak6).symm,hl,Seg.zero (s0.app (s1.app s2 rfl) rfl)⟩
def EK (l:(List Ap)):Prop:=l.length<=maxLen/\ ∀j,j<l.length->Zo (l.getD j Ai)
theorem o23:Opens Tryz.prog 23 Aw EK:=Vs Tryz.underlying23 AmW (by rw[Ak6];decide) o98 Ai
def dZ (x:Ab):Prop:=Zl x.Ad/\EK x.Au/\Zm x.AJ
theorem o26:Opens Tryz.prog 26 Aq dZ:=by
 intro H enc w base sp held fuel cs y h
 obtain⟨n,hl,hf⟩:=Ml Tryz.underlying26 h
 obtain⟨a0,k0,s0⟩:=o22.seg (hf 0 _ rfl)
 obtain⟨a1,k1,s1⟩:=o23.seg (hf 1 _ rfl)
 obtain⟨a2,k2,s2⟩:=o24.seg (hf 2 _ rfl)
 exact⟨⟨a0,a1,a2⟩,⟨k0,k1,k2⟩,rfl,(hl.trans AmY).symm,hl,Seg.zero (s0.app (s1.app s2 rfl) rfl)⟩
theorem AmZ:Tryz.prog.cellsOf 28=11:=by kernel_rfl
def Zn (x:Bb):Prop:=EK x.Ev/\EK x.Gt/\EK x.JX/\EK x.Hl/\EK x.I7/\EK x.Hg/\EK x.JZ/\EK x.JY/\EK x.J2/\EK x.DJ/\EK x.NT
theorem o28:Opens Tryz.prog 28 FL Zn:=by
 intro H enc w base sp held fuel cs y h
 obtain⟨n,hl,hf⟩:=Ml Tryz.underlying28 h
 obtain⟨a0,k0,s0⟩:=o23.seg (hf 0 _ rfl)
 obtain⟨a1,k1,s1⟩:=o23.seg (hf 1 _ rfl)
 obtain⟨a2,k2,s2⟩:=o23.seg (hf 2 _ rfl)
 obtain⟨a3,k3,s3⟩:=o23.seg (hf 3 _ rfl)
 obtain⟨a4,k4,s4⟩:=o23.seg (hf 4 _ rfl)
 obtain⟨a5,k5,s5⟩:=o23.seg (hf 5 _ rfl)
 obtain⟨a6,k6,s6⟩:=o23.seg (hf 6 _ rfl)
 obtain⟨a7,k7,s7⟩:=o23.seg (hf 7 _ rfl)
 obtain⟨a8,k8,s8⟩:=o23.seg (hf 8 _ rfl)
 obtain⟨a9,k9,s9⟩:=o23.seg (hf 9 _ rfl)
 obtain⟨a10,k10,s10⟩:=o23.seg (hf 10 _ rfl)
 exact⟨⟨a0,a1,a2,a3,a4,a5,a6,a7,a8,a9,a10⟩,⟨k0,k1,k2,k3,k4,k5,k6,k7,k8,k9,k10⟩,rfl,(hl.trans AmZ).symm,hl,Seg.zero (s0.app (s1.app (s2.app (s3.app (s4.app (s5.app (s6.app (s7.app (s8.app (s9.app s10 rfl) rfl) rfl) rfl) rfl) rfl) rfl) rfl) rfl) rfl)⟩
theorem Am0:Tryz.prog.cellsOf 29=1:=by kernel_rfl
theorem Ak4:Tryz.prog.cellsOf 88=2:=by kernel_rfl
def d9 (x:CQ):Prop:=(fun n:Int=>(Lit.int .i32 n).wf=true) x.Bd/\(fun n:Int=>(Lit.int .i32 n).wf=true) x.Bp
theorem o88:Opens Tryz.prog 88 Vd d9:=by
 intro H enc w base sp held fuel cs y h
 obtain⟨n,hl,hf⟩:=Ml Tryz.underlying88 h
 obtain⟨a0,k0,s0⟩:=o21.seg (hf 0 _ rfl)
 obtain⟨a1,k1,s1⟩:=o21.seg (hf 1 _ rfl)
 exact⟨⟨a0,a1⟩,⟨k0,k1⟩,rfl,(hl.trans Ak4).symm,hl,Seg.zero (s0.app s1 rfl)⟩
def X9 (l:(List CQ)):Prop:=l.length<=maxLen/\ ∀j,j<l.length->d9 (l.getD j E9)
theorem o29:Opens Tryz.prog 29 DY X9:=Vs Tryz.underlying29 Am0 (by rw[Ak4];decide) o88 E9
def Ya (x:Ag):Prop:=dZ x.Ca/\Zn x.Ct/\X9 x.EL
theorem o31:Opens Tryz.prog 31 AB Ya:=by
 intro H enc w base sp held fuel cs y h
 obtain⟨n,hl,hf⟩:=Ml Tryz.underlying31 h
 obtain⟨a0,k0,s0⟩:=o26.seg (hf 0 _ rfl)
 obtain⟨a1,k1,s1⟩:=o28.seg (hf 1 _ rfl)
 obtain⟨a2,k2,s2⟩:=o29.seg (hf 2 _ rfl)
 exact⟨⟨a0,a1,a2⟩,⟨k0,k1,k2⟩,rfl,(hl.trans Am1).symm,hl,Seg.zero (s0.app (s1.app s2 rfl) rfl)⟩
end Go.Proofs.YtkeokkmhhhhoiaaGreatDoor
