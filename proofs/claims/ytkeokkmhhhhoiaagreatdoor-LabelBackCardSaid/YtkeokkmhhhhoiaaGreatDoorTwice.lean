import Derived.Test.YtkeokkmhhhhoiaaGreatDoorKorean
import Derived.Maps.OwnIn
import Derived.DeepKeys4
import Derived.Shelf.Abstract
import Derived.WalkKit
import Derived.OwnWalkIn
import Derived.TacticsInMore
import Derived.LoopNIn
import Derived.LoopIn
import Derived.LoopTactic
namespace Go.Proofs.YtkeokkmhhhhoiaaGreatDoor
open Go Go.SE Go.RowKit Go.Shelf Go.Maps
set_option linter.unusedVariables false
theorem Akp:laidOutB Tryz.prog=true:=by kernel_rfl
theorem AgI:(239:TypeId)<Tryz.prog.types.size:=of_decide_eq_true (by kernel_rfl)
theorem AiK:(match Tryz.prog.underlying 239 with|some (.array _ _)|some (.struct _)=>true|_=>false)=true:=by rw[Tryz.underlying239]
theorem AlX:Tryz.prog.keyTypeAt 2 239=true:=by kernel_rfl
set_option maxRecDepth 100000 in
theorem kR:Keyed Tryz.prog 239:=Keyed.of_law (deep_law_laid Akp (m:=2) (by omega) AgI AlX AiK)
theorem uY {P:Program} {k e:TypeId} {x y:_} (m:Nat) (h:P.underlying k=some (.struct #[x,y])) (hx:x.type=e) (hy:y.type=e) (hxo:x.offset=0) (hyo:y.offset=1) (hn:(#[x,y].all (·.name != "_"))=true) (he:P.underlying e=some (.int .i32)) (hc:P.cellsOf k=2) (hc1:P.cellsOf e=1)
  (a b:Int) (wa:(Lit.int .i32 a).wf=true) (wb:(Lit.int .i32 b).wf=true):P.keyLits (m+2) k [.int .i32 a, .int .i32 b]=some [.int .i32 a, .int .i32 b]:=by
 have h1: ∀c,(Lit.int .i32 c).wf=true->P.keyLits (m+1) e [.int .i32 c]=some [.int .i32 c]:=fun c hc=>by
  unfold Program.keyLits;rw[he];simp[hc]
 unfold Program.keyLits
 rw[h]
 simp only[List.length_cons,List.length_nil,hc,hn,and_self,if_true]
 simp[hx,hy,hxo,hyo,hc1,h1 a wa,h1 b wb]
theorem Amf (a:Int) (ha: -2147483648<=a/\a<=2147483647):(Lit.int .i32 a).wf=true:=by
 have:IntKind.i32.min= -2147483648:=by decide
 have:IntKind.i32.max=2147483647:=by decide
 simp[Lit.wf, *]
abbrev eF (x:Int×Int):Value:=.agg #[.int .i32 x.1, .int .i32 x.2]
def Amz (x:Int×Int):Prop:=(-2147483648<=x.1/\x.1<=2147483647)/\(-2147483648<=x.2/\x.2<=2147483647)
theorem Ako (x:Int×Int) (hx:Amz x): ∃l,keyOf Tryz.prog 239 (eF x)=some l:=by
 have wa:=Amf x.1 hx.1
 have wb:=Amf x.2 hx.2
 have hc:Tryz.prog.cellsOf 239=2:=by kernel_rfl
 have hc1:Tryz.prog.cellsOf 21=1:=by kernel_rfl
 have hk:Tryz.prog.keyType 239=true:=by kernel_rfl
 have hf:(eF x).formed Tryz.prog 239=true:=by simp[Value.formed,Tryz.underlying239,hc]
 have hr:(239:Nat)<Tryz.prog.types.size:=AgI
 obtain⟨m,hm⟩: ∃m,Tryz.prog.types.size+1=m+2:=⟨Tryz.prog.types.size-1,by omega⟩
 unfold keyOf
 rw[Tryz.underlying239]
 simp only[hk,hf,Bool.and_self,if_true,hm,Value.cells]
 rw[uY m Tryz.underlying239 (e:=21) rfl rfl rfl rfl (by simp) Tryz.underlying21 hc hc1 x.1 x.2 wa wb]
 exact⟨_,rfl⟩
def Told (D:DataW Unit) (seen:List (Int×Int)):Prop:=IsMap D/\ ∀x kl,keyOf Tryz.prog 239 (eF x)=some kl->D.atKey kl (.lit (.int .i64 0))=.lit (.int .i64 (if x∈seen then 1 else 0))
theorem Told.nil:Told (.map []) []:=⟨⟨[],rfl⟩,fun x kl h=>by simp[WideAt.atKey_none]⟩
theorem Agw {x y:Int×Int} (h:eF x=eF y):x=y:=by
 obtain⟨a,b⟩:=x
 obtain⟨c,d⟩:=y
 simp at h
 obtain⟨h1,h2⟩:=h
 rw[h1,h2]
theorem Told.put {D:DataW Unit} {seen:List (Int×Int)} (h:Told D seen) (x:Int×Int) (kl:Lit) (hk:keyOf Tryz.prog 239 (eF x)=some kl):Told (D.put kl (.lit (.int .i64 1))) (seen++ [x]):=by
 refine⟨IsMap.put h.1 kl _,fun y kl' hy=>?_⟩
 by_cases e:y=x
 ·subst e
  rw[hk]at hy
  cases hy
  rw[atKey_put_same h.1 (kR.key hk)]
  simp
 ·have hne:kl'≠kl:=fun e'=>by subst e';exact e (Agw (kR.inj hy hk))
  rw[atKey_put_other hne,h.2 y kl' hy]
  simp[e]
theorem Akn {S X:Type} {body:S->Option (Stp S X)} {s:S} (h:body s=none):iter body s=none:=by
 cases hi:iter body s with
 |none=>rfl
 |some x=>
  obtain⟨k,hk⟩:=Wu hi
  cases k with
  |zero=>cases hk
  |succ k=>rw[Lh,h]at hk;cases hk
theorem AiY {S X:Type} {body:S->Option (Stp S X)} {s:S} :iter body s=match body s with|some (.next s')=>iter body s'|some (.done x)=>some x|none=>none:=by
 cases h:body s with
 |none=>exact Akn h
 |some v=>
  cases v with
  |next s'=>exact Bh h
  |done x=>exact Ay h
theorem Aea (w:World):(Instr.makeMap 237 none).run Tryz.prog w=.ok (.map (some w.heap.size)) (w.alloc (.map #[] 0)):=by simp[Instr.makeMap]
theorem Aja (w:World):(zeroValue 3).run Tryz.prog w=.ok (.int .i64 0) w:=by kernel_rfl
theorem tL (n:Int) (t:TypeId) (a:Addr) (w:World):Calls Tryz.prog 175 #[.int .i64 n, .iface t (.pointer (some a))] w fun e w'=>e=.returned (.iface 70 (.pointer (some ⟨w.heap.size,0,none⟩)))/\w'=w.alloc (.cells #[.int .i64 n, .iface t (.pointer (some a))] 74):=by
 go_enter Tryz.func175,Tryz.ntmps175
 go_wp2
 go_ret
 exact⟨rfl,rfl⟩
def AaD (r:Er) (w:World) (aT:Addr) (e:Ending) (w':World):Prop:=Below w.heap.size w w'/\
     ((r=.nil/\e=.returned .nilIface)∨ ∃(k:Nat) (B:Nat),r=.box 70 (k:Int) (.sent 15)/\w.heap.size<=B/\B<w'.heap.size/\e=.returned (.iface 70 (.pointer (some ⟨B,0,none⟩)))/\w'.cell? ⟨B,0,none⟩=some (.int .i64 k)/\w'.cell? ⟨B,1,none⟩=some (.iface 270 (.pointer (some aT))))
theorem Amb {w w':World} {aT:Addr} (h:Below w.heap.size w w'):AaD .nil w aT (.returned .nilIface) w':=⟨h, .inl ⟨rfl,rfl⟩⟩
theorem Ama {w w':World} {aT:Addr} (h:Below w.heap.size w w') (k B:Nat) (h1:w.heap.size<=B) (h2:B<w'.heap.size) (h3:w'.cell? ⟨B,0,none⟩=some (.int .i64 k)) (h4:w'.cell? ⟨B,1,none⟩=some (.iface 270 (.pointer (some aT)))):AaD (.box 70 k (.sent 15)) w aT (.returned (.iface 70 (.pointer (some ⟨B,0,none⟩)))) w':=
 ⟨h, .inr ⟨k,B,rfl,h1,h2,rfl,h3,h4⟩⟩
set_option maxRecDepth 100000 in
set_option maxHeartbeats 4000000 in
theorem Aaq (t:Ab) (r:Er) (hm:K6 t=some r) (w:World) (a:Option Addr) (b off cap:Nat) (sC sE:Value) (sa:Nat->Option Addr) (sn sc:Nat->Nat) (aT:Addr)
  (h1:(Value.slice a t.Ad.length cap).oneCell'=true/\sC.oneCell'=true/\sE.oneCell'=true)
  (ha:0<t.Ad.length->a=some ⟨b,off,none⟩)
  (h4:15<w.heap.size) (hT:w.cell? ⟨15,0,none⟩=some (.iface 270 (.pointer (some aT))))
  (hrow: ∀j,j<t.Ad.length->(b<w.heap.size/\w.cell? ⟨b,off+j*2,none⟩=some (.int .i32 (t.Ad.getD j Ac).Bd)/\w.cell? ⟨b,off+j*2+1,none⟩=some (.slice (sa j) (sn j) (sc j)))/\
    ((t.Ad.getD j Ac).Bp.length=2-> ∃b' o',sa j=some ⟨b',o',none⟩/\sn j=2/\b'<w.heap.size/\w.cell? ⟨b',o',none⟩=some (.int .i32 ((t.Ad.getD j Ac).Bp.getD 0 0))/\w.cell? ⟨b',o'+1,none⟩=some (.int .i32 ((t.Ad.getD j Ac).Bp.getD 1 0))))
  (hC: ∀(i:Nat) (y:Bool) (w':World),Below w.heap.size w w'->Gl t (i:Int)=some y->Calls Tryz.prog 215 #[.agg #[.slice a t.Ad.length cap,sC,sE], .int .i64 i] w' fun e w''=>e=.returned (.bool y)/\Below w'.heap.size w' w''):
  Calls Tryz.prog 182 #[.agg #[.slice a t.Ad.length cap,sC,sE]] w (AaD r w aT):=by
 unfold K6 at hm
 by_cases hl:t.Ad.length<=1000000
 case neg=>rw[if_neg hl]at hm;cases hm
 rw[if_pos hl]at hm
 go_enter Tryz.func182,Tryz.ntmps182
 have hmk:=Aea
 go_wp2
 have hB0:Below (w.heap.size+1) (w.alloc (.cells #[.slice a t.Ad.length cap,sC,sE] 26)) ((w.alloc (.cells #[.slice a t.Ad.length cap,sC,sE] 26)).alloc (.map #[] 0)):=(Below.refl _ _).alloc (by simp) _
 go_loopw [11] (fun i wr=> ∃(k:Nat) (seen:List (Int×Int)) (D:DataW Unit),k<=t.Ad.length/\i=.int .i64 k/\Below (w.heap.size+1) (w.alloc (.cells #[.slice a t.Ad.length cap,sC,sE] 26)) wr/\
   wr.ownsMap Tryz.prog 239 (plainElem Tryz.prog 3) (w.heap.size+1) k D/\Told D seen/\iter (F5 t) (seen,k)=some r)
  (fun i _=>t.Ad.length-(intOf i).toNat)
 case atStart=>
  refine⟨0,[], .map [],Nat.zero_le _,rfl,hB0,?_,Told.nil,hm⟩
  have:=World.ownsMap_made (H:=Unit) (w.alloc (.cells #[.slice a t.Ad.length cap,sC,sE] 26)) Tryz.prog 239 (plainElem Tryz.prog 3)
  simpa using this
 case round=>
  obtain⟨k,seen,D,hk,rfl,hB,hown,htold,hit⟩:=hrel
  have cellW: ∀(p:Addr) (v:Value),p.block<w.heap.size->w.cell? p=some v->wr.cell? p=some v:=fun p v hp hv=>by
   rw[hB.cell (p:=p) (by omega),World.cell?_of_block (Below.heap_alloc w _ _ hp)];exact hv
  have AfL: ∀i v,#[.slice a t.Ad.length cap,sC,sE][i]? =some v->wr.cell? ⟨w.heap.size,i,none⟩=some v:=fun i v hv=>by
   rw[hB.cell (p:=⟨w.heap.size,i,none⟩) (by simp)]
   simp[hv]
  have x0:=AfL 0 _ rfl
  have x1:=AfL 1 _ rfl
  have x2:=AfL 2 _ rfl
  have hsz:w.heap.size+1<wr.heap.size:=hown.lt
  have hBw:Below w.heap.size w wr:=⟨hB.os,hB.tape,hB.output,by omega,fun k hk=>(hB.block k (by omega)).trans (Below.heap_alloc w _ _ hk)⟩
  by_cases hlt:k<t.Ad.length
  ·have ha':=ha (by omega)
   subst ha'
   obtain⟨⟨hb,c0,c1⟩,hto⟩:=hrow k hlt
   obtain⟨x,hx⟩: ∃x,t.Ad.getD k Ac=x:=⟨_,rfl⟩
   rw[hx]at c0 hto
   obtain⟨sA,hsA⟩: ∃sA,sa k=sA:=⟨_,rfl⟩
   obtain⟨sN,hsN⟩: ∃sN,sn k=sN:=⟨_,rfl⟩
   obtain⟨sCp,hsC⟩: ∃sCp,sc k=sCp:=⟨_,rfl⟩
   rw[hsA,hsN,hsC]at c1
   rw[hsA,hsN]at hto
   replace c0:=cellW _ _ hb c0
   replace c1:=cellW _ _ hb c1
   rw[AiY,F5]at hit
   simp only[if_pos hlt,hx]at hit
   cases hy:Gl t (k:Int)with
   |none=>rw[hy]at hit;cases hit
   |some y=>
    rw[hy]at hit
    simp only[Option.bind_some]at hit
    have hCy:=hC k y (wr.alloc (.cells #[.int .i32 x.Bd, .slice sA sN sCp] 96)) (hBw.alloc (by omega) _) hy
    have after: ∀w',Below (wr.alloc (.cells #[.int .i32 x.Bd, .slice sA sN sCp] 96)).heap.size (wr.alloc (.cells #[.int .i32 x.Bd, .slice sA sN sCp] 96)) w'->
         Below (w.heap.size+1) (w.alloc (.cells #[.slice (some ⟨b,off,none⟩) t.Ad.length cap,sC,sE] 26)) w'/\w'.ownsMap Tryz.prog 239 (plainElem Tryz.prog 3) (w.heap.size+1) k D/\wr.heap.size<w'.heap.size/\
         w'.cell? ⟨wr.heap.size,1,none⟩=some (.slice sA sN sCp)/\(∀(p:Addr) (v:Value),p.block<w.heap.size->w.cell? p=some v->w'.cell? p=some v):=fun w' hB'=>by
         have hs:=hB'.size
         simp at hs
         have hg:World.grownBy _ w' none:=⟨hB'.os,hB'.tape,hB'.output,hB'.size,fun k hk _=>hB'.block k hk⟩
         refine⟨(hB.alloc (by omega) _).grown hg (by simp;omega) (fun k e=>by cases e),(hown.alloc _).kept hg (by simp),by omega,?_,fun p v hp hv=>?_⟩
         ·rw[hB'.cell (p:=⟨wr.heap.size,1,none⟩) (by simp)];simp
         ·rw[hB'.cell (p:=p) (by simp;omega),World.cell?_of_block (Below.heap_alloc wr _ _ (by omega))];exact cellW p v hp hv
    have zb: ∀i v,#[.slice (some ⟨b,off,none⟩) t.Ad.length cap,sC,sE][i]? =some v->(wr.alloc (.cells #[.int .i32 x.Bd, .slice sA sN sCp] 96)).cell? ⟨w.heap.size,i,none⟩=some v:=fun i v hv=>by
         rw[World.cell?_of_block (Below.heap_alloc wr _ _ (show w.heap.size<wr.heap.size by omega))];exact AfL i v hv
    have z0:=zb 0 _ rfl
    have z1:=zb 1 _ rfl
    have z2:=zb 2 _ rfl
    clear hx hsA hsN hsC hy zb AfL hC hrow
    cases y with
    |false=>
     simp only[Bool.false_eq_true,if_false]at hit
     go_wp2_with (go_at_call 215;refine hCy.mono ?_;rintro e w' ⟨rfl,hB'⟩;obtain⟨q1,q2,q3,q4,q5⟩:=after w' hB')
     go_roundw
     case rel=>exact⟨k+1,seen,D,by omega,by simp,q1,q2.mono (by omega),htold,hit⟩
     case measure=>simp[intOf];omega
    |true=>
     simp only[if_true]at hit
     by_cases hcnd:x.Bp.length=2/\(-2147483648<=x.Bp.getD 0 0/\x.Bp.getD 0 0<=2147483647)/\(-2147483648<=x.Bp.getD 1 0/\x.Bp.getD 1 0<=2147483647)
     case neg=>rw[if_neg hcnd]at hit;cases hit
     rw[if_pos hcnd]at hit
     obtain⟨p0,hp0⟩: ∃p0,x.Bp.getD 0 0=p0:=⟨_,rfl⟩
     obtain⟨p1,hp1⟩: ∃p1,x.Bp.getD 1 0=p1:=⟨_,rfl⟩
     obtain⟨h2,h3⟩:=hcnd
     obtain⟨b',o',rfl,rfl,hb',f0,f1⟩:=hto h2
     rw[hp0]at f0 hit h3
     rw[hp1]at f1 hit h3
     obtain⟨kl,hkl⟩:=Ako (p0,p1) h3
     have hat:=htold.2 (p0,p1) kl hkl
     clear hp0 hp1 hto
     go_wp2_with (go_at_call 215;refine hCy.mono ?_;rintro e w' ⟨rfl,hB'⟩;obtain⟨q1,q2,q3,q4,q5⟩:=after w' hB';have g0:=q5 _ _ hb' f0;have g1:=q5 _ _ hb' f1)
     have al: ∀(p:Addr) (v:Value),w'.cell? p=some v->(w'.alloc (.cells #[.int .i32 0, .int .i32 0] 239)).cell? p=some v:=fun p v h=>(KC.alloc w' _).cell h
     have k0:=al _ _ g0
     have k1:=al _ _ g1
     have k4:=al _ _ q4
     go_region
     have o6: ∀o,(w'.alloc o).drew.ownsMap Tryz.prog 239 (plainElem Tryz.prog 3) (w.heap.size+1) k D:=fun o=>(q2.alloc o).drew
     have k5:=(KC.alloc w' (.cells #[.int .i32 p0, .int .i32 p1] 239)).cell (q5 ⟨15,0,none⟩ _ h4 hT)
     have k6:(w'.alloc (.cells #[.int .i32 p0, .int .i32 p1] 239)).drew.cell? ⟨15,0,none⟩=some (.iface 270 (.pointer (some aT))):=k5
     have hB6:Below (w.heap.size+1) (w.alloc (.cells #[.slice (some ⟨b,off,none⟩) t.Ad.length cap,sC,sE] 26)) (w'.alloc (.cells #[.int .i32 p0, .int .i32 p1] 239)).drew:=(q1.alloc (by omega) _).drew
     have hkm:k<maxLen:=Nat.lt_of_lt_of_le (Nat.lt_of_lt_of_le hlt hl) (by decide)
     by_cases hin:(p0,p1)∈seen
     ·rw[if_pos hin]at hat hit
      go_wp2_with (first
            |(at_lookup;refine wpList_lookup_own_int _ rfl _ _ 237 rfl 239 3 .i64 kR Tryz.underlying237 Tryz.underlying3 (Aja _) (w.heap.size+1) k D rfl (o6 _) (eF (p0,p1)) kl rfl hkl ?_;intro c hc hwc;obtain rfl:c=1:=by(rw[hat]at hc;simpa using hc.symm))
            |(go_at_call 175;refine(tL k 270 aT _).mono ?_;rintro e w'' ⟨rfl,rfl⟩)
            |go_in)
      cases hit
      go_ret
      have hB7:Below w.heap.size w ((w'.alloc (.cells #[.int .i32 p0, .int .i32 p1] 239)).drew.alloc (.cells #[.int .i64 k, .iface 270 (.pointer (some aT))] 74)):=(((hBw.alloc (by omega) (.cells #[.int .i32 x.Bd, .slice (some ⟨b',o',none⟩) 2 sCp] 96)).trans ⟨hB'.os,hB'.tape,hB'.output,hB'.size,fun k hk=>hB'.block k (by simp;omega)⟩).alloc (by omega) _).drew.alloc (by show w.heap.size<=(w'.alloc _).heap.size;simp;omega) _
      have z1: ∀i v,(#[Value.int .i64 k, .iface 270 (.pointer (some aT))])[i]? =some v->((w'.alloc (.cells #[.int .i32 p0, .int .i32 p1] 239)).drew.alloc (.cells #[.int .i64 k, .iface 270 (.pointer (some aT))] 74)).cell? ⟨w'.heap.size+1,i,none⟩=some v:=fun i v hv=>jA _ _ _ _ _ _ (by show w'.heap.size+1=(w'.alloc _).heap.size;simp) hv
      exact Ama hB7 k (w'.heap.size+1) (by omega) (by simp[World.drew]) (z1 0 _ rfl) (z1 1 _ rfl)
     ·rw[if_neg hin]at hat hit
      go_wp2_with (first
            |(at_lookup;refine wpList_lookup_own_int _ rfl _ _ 237 rfl 239 3 .i64 kR Tryz.underlying237 Tryz.underlying3 (Aja _) (w.heap.size+1) k D rfl (o6 _) (eF (p0,p1)) kl rfl hkl ?_;intro c hc hwc;obtain rfl:c=0:=by(rw[hat]at hc;simpa using hc.symm))
            |(at_mapUpdate;refine wpList_mapUpdate_own _ rfl _ _ _ 237 rfl 239 3 kR Tryz.underlying237 _ (w.heap.size+1) k D rfl (o6 _) hkm _ _ kl rfl rfl hkl (.lit (.int .i64 1)) [] (plainElem_int Tryz.underlying3 (by decide)) ?_;intro w7 Aly hg7)
            |go_in)
      go_roundw
      case rel=>exact⟨k+1,seen++ [(p0,p1)],_,by omega,by simp,hB6.grown hg7 (by show w.heap.size+1<=(w'.alloc _).heap.size;simp;omega) (fun k e=>by cases e;exact Nat.le_refl _),Aly,htold.put _ _ hkl,hit⟩
      case measure=>simp[intOf];omega
  ·obtain rfl:k=t.Ad.length:=by omega
   rw[AiY,F5]at hit
   simp only[if_neg hlt]at hit
   cases hit
   go_wp2
   go_ret
   exact Amb hBw
theorem AgR {w:World} {cx:Cx} {A:Nat->Prop} {n:Nat} {get:Nat->AV} {v:Value} (h:Rel w cx A (.sl none n get) v): ∃(a:Option Addr) (cap BU:Nat) (vals:Nat->Nat->Value),v=.slice a n cap/\
  (0<n-> ∃b off,a=some ⟨b,off,none⟩/\ ¬A b/\b<w.heap.size/\ ∀(j c:Nat) (x:AV),j<n->(get j).cells[c]? =some x->w.cell? ⟨b,off+(j*BU+c),none⟩=some (vals j c)/\(vals j c).oneCell'=true)/\
  (∀j,j<n->(get j).A9=BU)/\(∀(j c:Nat) (x:AV),j<n->(get j).cells[c]? =some x->Rel w cx A x (vals j c)):=by
 cases h with
 |sl _ _ _ a cap BU vals hnil hcap hmax hz hmem Gr hrel=>exact⟨a,cap,BU,vals,rfl,fun h0=>by obtain⟨b,off,h1,h2,h3,h4⟩:=hmem h0;exact⟨b,off,h1,h2,h3.lt,h4⟩,fun j hj=>(Gr j hj).2,hrel⟩
def slA:Value->Option Addr
 | .slice a _ _=>a
 |_=>none
def slN:Value->Nat
 | .slice _ n _=>n
 |_=>0
def slC:Value->Nat
 | .slice _ _ c=>c
 |_=>0
theorem iX (AQ:Ab) (r:Er) (h:K6 AQ=some r):Contract pl 182 [(Aq AQ)] [] (.err r) []:=by
 refine⟨⟨_,Tryz.func182,by kernel_rfl,by kernel_rfl⟩,fun V w cx vs S hlen R=>?_⟩
 match vs,hlen with
 | [v0],_=>
   have r0:=R 0 _ v0 rfl rfl
   have hcx:cx.length=([]:Store).length:=S.len
   obtain⟨us,hl,hone,hv0,hrel⟩:=Ab4 r0
   match us,hl with
   | [uR,uC,uE],_=>
     have qR:=hrel 0 _ _ rfl rfl
     have o0:=hone uR (by simp)
     have o1:=hone uC (by simp)
     have o2:=hone uE (by simp)
     obtain⟨a,cap,BU,vals,rfl,hmem,Ld,AiV⟩:=AgR qR
     have hA: ∀b,w.heap.size<=b-> ¬Av V cx [] b:=fun b hb h=>h.elim (fun h=>absurd (S.low b h) (by omega)) fun h=>absurd h Ab2
     have fin: ∀ {w':World},Below w.heap.size w w'->Ext 0 V w w' cx cx [] []/\Bj pl.laid V w' cx []:=fun hB=>⟨Ext.grown hB.os hB.tape hB.output hB.size hB.block,S.grown hB.size hB.block⟩
     obtain⟨_,h4,aT,hT,_⟩:=S.glob.sent 15 (by simp[pl,gsL])
     have hC: ∀(i:Nat) (y:Bool) (w':World),Below w.heap.size w w'->Gl AQ (i:Int)=some y->Calls Tryz.prog 215 #[.agg #[.slice a AQ.Ad.length cap,uC,uE], .int .i64 i] w' fun e w''=>e=.returned (.bool y)/\Below w'.heap.size w' w'':=fun i y w' hB hy=>by
       obtain⟨E,S'⟩:=fin hB
       refine((Tx AQ i y hy).2 V w' cx [v0, .int .i64 i] S' rfl fun k x v hx hv=>?_).mono ?_ |> fun hh=>by rw[hv0]at hh;exact hh
       ·match k,hx,hv with
        |0,hx,hv=>cases hx;cases hv;exact Rel.ext (s:= []) (s':= []) E hcx r0
        |1,hx,hv=>cases hx;cases hv;exact .int _ _
        |k+2,hx,hv=>simp at hx
       ·rintro e w'' ⟨v,BX,rfl,E',S'',R'⟩
        cases R'
        exact⟨rfl,E'.os,E'.tape,E'.output,E'.size,fun k hk=>E'.keep k hk Ab2⟩
     obtain⟨b,off,ha,hrows⟩: ∃b off,(0<AQ.Ad.length->a=some ⟨b,off,none⟩)/\ ∀j,j<AQ.Ad.length->(b<w.heap.size/\w.cell? ⟨b,off+j*2,none⟩=some (.int .i32 (AQ.Ad.getD j Ac).Bd)/\w.cell? ⟨b,off+j*2+1,none⟩=some (.slice (slA (vals j 1)) (slN (vals j 1)) (slC (vals j 1))))/\
         ((AQ.Ad.getD j Ac).Bp.length=2-> ∃b' o',slA (vals j 1)=some ⟨b',o',none⟩/\slN (vals j 1)=2/\b'<w.heap.size/\w.cell? ⟨b',o',none⟩=some (.int .i32 ((AQ.Ad.getD j Ac).Bp.getD 0 0))/\w.cell? ⟨b',o'+1,none⟩=some (.int .i32 ((AQ.Ad.getD j Ac).Bp.getD 1 0))):=by
       by_cases h0:0<AQ.Ad.length
       ·obtain⟨b,off,ha,_,hb,hm⟩:=hmem h0
        refine⟨b,off,fun _=>ha,fun j hj=>?_⟩
        have he:BU=2:=(Ld j hj).symm
        subst he
        have m0:=(hm j 0 _ hj rfl).1
        have m1:=(hm j 1 _ hj rfl).1
        have p0:=AiV j 0 _ hj rfl
        have p1:=AiV j 1 _ hj rfl
        generalize vals j 0=u0 at m0 p0
        generalize vals j 1=u1 at m1 p1
        cases p0
        obtain⟨a',cap',Ajy,vals',rfl,hmem',Alk,hrel'⟩:=AgR p1
        refine⟨⟨hb,m0,m1⟩,fun h2=>?_⟩
        obtain⟨b',o',ha',_,hb',hm'⟩:=hmem' (by omega)
        have he':Ajy=1:=(Alk 0 (by omega)).symm
        subst he'
        have n0:=(hm' 0 0 _ (by omega) rfl).1
        have n1:=(hm' 1 0 _ (by omega) rfl).1
        have s0:=hrel' 0 0 _ (by omega) rfl
        have s1:=hrel' 1 0 _ (by omega) rfl
        generalize vals' 0 0=t0 at n0 s0
        generalize vals' 1 0=t1 at n1 s1
        cases s0;cases s1
        exact⟨b',o',ha',h2,hb',n0,n1⟩
       ·exact⟨0,0,fun h=>absurd h h0,fun j hj=>absurd hj (by omega)⟩
     have main:=Aaq AQ r h w a b off cap uC uE (fun j=>slA (vals j 1)) (fun j=>slN (vals j 1)) (fun j=>slC (vals j 1)) aT ⟨o0,o1,o2⟩ ha h4 hT hrows hC
     rw[hv0]
     refine main.mono ?_
     rintro e w' ⟨hB,hres⟩
     obtain⟨E,S'⟩:=fin hB
     rcases hres with ⟨rfl,rfl⟩|⟨k,B,rfl,hB1,hB2,rfl,c1,c2⟩
     ·exact⟨_,cx,rfl,E,S', .Wp⟩
     ·obtain⟨k1,k2,_⟩:=S'.glob.sent 15 (by simp[pl,gsL])
      exact⟨_,cx,rfl,E,S', .Ve 70 _ _ B 0 _ (hA B hB1) hB2 c1 c2 (.UE 15 _ _ k1 k2 ((KC.below hB).cell hT))⟩
end Go.Proofs.YtkeokkmhhhhoiaaGreatDoor
