import Derived.Laws.BytesArg
import Derived.Orders
import Derived.Laws.AppendOwn
import Derived.Lib.Builder
import Derived.Lib.UnsafeStr
import Derived.Laws.Externs
namespace Go.SE
open Go
set_option linter.unusedVariables false
inductive Er where
 |nil
 |sent (g:Nat)
 |box (t:TypeId) (n:Int) (e:Er)
 deriving DecidableEq,Inhabited
def Er.isNil:Er->Bool
 | .nil=>true
 |_=>false
structure Laid where
 te:TypeId
 gs:List Nat
 cs:List (Nat×Value)
structure PL extends Program where
 laid:Laid
instance:Coe PL Program:=⟨PL.toProgram⟩
inductive AV where
 |unk
 |bool (b:Bool)
 |int (k:IntKind) (n:Int)
 |str (s:ByteArray)
 |Lf
 |PO
 |Ox
 |Tv (b:Nat)
 |Ye (a:Addr)
 |sl (Fg:Option Bool) (n:Nat) (get:Nat->AV)
 |ip (e:AV) (off:Nat)
 |ms (id n:Nat)
 |LP (id off n:Nat)
 |mp (id i off:Nat)
 |PN (id i off:Nat) (b:Bool)
 |sd (id n:Nat)
 |agg (cs:List AV)
 |H8 (k:IntKind) (l:List Int)
 |GU (vs:List AV)
 |fn (f:Fn) (first cap:List AV)
 |iface (t:TypeId) (v:AV)
 |err (e:Er)
 deriving Inhabited
def AV.cells:AV->List AV
 | .agg cs=>cs
 | .H8 k l=>l.map (.int k)
 |v=> [v]
def AV.A9:AV->Nat
 | .agg cs=>cs.length
 | .H8 _ l=>l.length
 |_=>1
def AV.cellAt:AV->Nat->AV
 | .agg cs,c=>cs.getD c .unk
 | .H8 k l,c=>.int k (l.getD c 0)
 |v,_=>v
mutual
def AV.Lm:AV->Bool
 | .ms _ _=>false
 | .LP _ _ _=>false
 | .mp _ _ _=>false
 | .PN _ _ _ _=>false
 | .sd _ _=>false
 | .agg cs=>RH cs
 | .GU vs=>RH vs
 | .fn _ first cap=>RH first&&RH cap
 | .iface _ v=>v.Lm
 |_=>true
def RH:List AV->Bool
 | []=>true
 |v::vs=>v.Lm&&RH vs
end
mutual
def AV.scalar:AV->Bool
 | .unk| .bool _| .int _ _| .str _| .Lf| .PO| .Ox| .Tv _| .H8 _ _=>true
 | .agg cs=>ZI cs
 | .GU vs=>ZI vs
 |_=>false
def ZI:List AV->Bool
 | []=>true
 |v::vs=>v.scalar&&ZI vs
end
def brP (c:Bool) (A B:Prop):Prop:=match c with|true=>A|false=>B
def need (c:Bool) (A:Prop):Prop:=match c with|true=>A|false=>False
inductive Row where
 |ints (k:IntKind) (l:List Int)
 |strs (l:List ByteArray)
 |bools (l:List Bool)
 |Sg (l:List AV)
 |vals (l:List AV)
 |Y6 (n:Nat) (get:Nat->AV)
 deriving Inhabited
def Row.len:Row->Nat
 | .ints _ l=>l.length
 | .strs l=>l.length
 | .bools l=>l.length
 | .Sg l=>l.length
 | .vals l=>l.length
 | .Y6 n _=>n
def Row.get:Row->Nat->AV
 | .ints k l,i=>.int k (l.getD i 0)
 | .strs l,i=>.str (l.getD i ByteArray.empty)
 | .bools l,i=>.bool (l.getD i false)
 | .Sg l,i=>l.getD i .unk
 | .vals l,i=>l.getD i .unk
 | .Y6 _ g,i=>g i
def Row.ok:Row->Prop
 | .Sg l=> ∀x∈l,x.Lm=true
 | .Y6 n g=> ∀j,j<n->(g j).Lm=true
 |_=>True
def Row.set (r:Row) (i:Nat) (v:AV) (K:Row->Prop):Prop:=
 match r,v with
 | .ints k l, .int k' n=>need (decide (k'=k)) (K (.ints k (l.set i n)))
 | .strs l, .str s=>K (.strs (l.set i s))
 | .bools l, .bool b=>K (.bools (l.set i b))
 | .Sg l,v=>need v.Lm (K (.Sg (l.set i v)))
 | .vals l,v=>K (.vals (l.set i v))
 | .Y6 n g,v=>need v.Lm (K (.Y6 n fun j=>bif Nat.beq j i then v else g j))
 |_,_=>False
structure E8 where
 BU:Nat
 ety:TypeId
 row:Row
 ro:Bool
 mb:Bool
 deriving Inhabited
abbrev Store:=List (Option E8)
def Xo (mb:Bool):Row->Nat->Option AV
 | .ints k l,n=>some (.sl (bif mb then none else some false) n fun j=>.int k (l.getD j 0))
 | .strs l,n=>some (.sl (bif mb then none else some false) n fun j=>.str (l.getD j ByteArray.empty))
 | .bools l,n=>some (.sl (bif mb then none else some false) n fun j=>.bool (l.getD j false))
 | .Sg l,n=>some (.sl (bif mb then none else some false) n fun j=>l.getD j .unk)
 | .vals l,n=>bif RH l then some (.sl (bif mb then none else some false) n fun j=>l.getD j .unk)else none
 | .Y6 _ g,n=>some (.sl (bif mb then none else some false) n g)
def SQ (f:AV->Option AV):List AV->Option (List AV)
 | []=>some []
 |v::vs=>
  match f v,SQ f vs with
  |some v',some vs'=>some (v'::vs')
  |_,_=>none
def snap:Nat->Store->AV->Option AV
 |0,_,_=>none
 |d+1,s,v=>
  match v with
  | .ms id n=>
    match s[id]? with
    |some (some o)=>
     match o.row with
     | .vals l=>(SQ (snap d s) l).map fun l'=>.sl (bif o.mb then none else some false) n fun j=>l'.getD j .unk
     |row=>Xo o.mb row n
    |_=>none
  | .LP _ _ _=>none
  | .PN _ _ _ _=>none
  | .sd _ _=>none
  | .mp id i off=>
    match s[id]? with
    |some (some o)=>(snap d s (o.row.get i)).map fun e=>.ip e off
    |_=>none
  | .agg cs=>(SQ (snap d s) cs).map .agg
  | .GU vs=>(SQ (snap d s) vs).map .GU
  | .iface t v=>(snap d s v).map (.iface t)
  | .fn f a b=>
    match SQ (snap d s) a,SQ (snap d s) b with
    |some a',some b'=>some (.fn f a' b')
    |_,_=>none
  |v=>some v
def Ch:Nat->Store->AV->List Nat
 |0,_,_=> []
 |d+1,s,v=>
  match v with
  | .ms id _=>id::(match s[id]? with|some (some o)=>(match o.row with| .vals l=>l.flatMap (Ch d s)|_=> [])|_=> [])
  | .mp id i _=>id::(match s[id]? with|some (some o)=>Ch d s (o.row.get i)|_=> [])
  | .agg cs=>cs.flatMap (Ch d s)
  | .GU vs=>vs.flatMap (Ch d s)
  | .iface _ v=>Ch d s v
  | .fn _ a b=>a.flatMap (Ch d s)++b.flatMap (Ch d s)
  |_=> []
def Ib (s:Store):List Nat->Store
 | []=>s
 |i::is=>Ib (match s[i]? with|some (some o)=>s.set i (some { o with ro:=true })|_=>s) is
def ofConst:Value->AV
 | .bool b=>.bool b
 | .int k n=>.int k n
 | .string s=>.str s
 | .pointer none=>.Lf
 | .pointer (some a)=>.Ye a
 | .slice none 0 0=>.sl (some true) 0 fun _=>.unk
 | .nilFunc=>.PO
 | .nilIface=>.Ox
 |_=>.unk
structure Fr where
 t:List AV
 s:Store
 deriving Inhabited
def Kh (t:List AV):Operand->AV
 | .tmp i=>t.getD i .unk
 | .const v=>ofConst v
 | .global g=>.Ye ⟨g,0,none⟩
 | .func f=>.fn (.func f) [] []
def Ut (t:List AV):Option Tmp->AV->List AV
 |some d,v=>t.set d v
 |none,_=>t
def Wt:TypeDesc->Bool
 | .struct _=>true
 | .array _ _=>true
 |_=>false
def AV.storable:AV->Bool
 | .unk| .GU _=>false
 |_=>true
def Oy (P:PL) (t:TypeId):Option AV:=
 match (P.info? t).bind (·.zero)with
 |some (.agg cs)=>bif cs.toList.all Value.oneCell' then some (.agg (cs.toList.map ofConst))else none
 |some v=>bif (ofConst v).storable then some (ofConst v)else none
 |none=>none
def kH (k:IntKind):List AV->Option (List Int)
 | []=>some []
 | .int k' n::vs=>match decide (k'=k),kH k vs with|true,some l=>some (n::l)|_,_=>none
 |_::_=>none
def strsOf:List AV->Option (List ByteArray)
 | []=>some []
 | .str s::vs=>match strsOf vs with|some l=>some (s::l)|_=>none
 |_::_=>none
def gQ:List AV->Option (List Bool)
 | []=>some []
 | .bool s::vs=>match gQ vs with|some l=>some (s::l)|_=>none
 |_::_=>none
def lC (P:PL) (e:TypeId) (vs:List AV):Option Row:=
 match P.underlying e with
 |some (.int k)=>(kH k vs).map (.ints k)
 |some .string=>(strsOf vs).map .strs
 |some .bool=>(gQ vs).map .bools
 |_=>some (bif RH vs then .Sg vs else .vals vs)
def Abq (op:BinOp) (k:IntKind) (a b:Int) (K:AV->Prop):Prop:=
 match op with
 | .add=>K (.int k (k.wrap (a+b)))
 | .sub=>K (.int k (k.wrap (a-b)))
 | .mul=>K (.int k (k.wrap (a*b)))
 | .quo=>b≠0/\K (.int k (k.wrap (a.tdiv b)))
 | .rem=>b≠0/\K (.int k (a.tmod b))
 | .and=>K (.int k (k.wrap (BitVec.ofInt k.bits a&&& BitVec.ofInt k.bits b).toNat))
 | .or=>K (.int k (k.wrap (BitVec.ofInt k.bits a|||BitVec.ofInt k.bits b).toNat))
 | .xor=>K (.int k (k.wrap (BitVec.ofInt k.bits a ^^^ BitVec.ofInt k.bits b).toNat))
 | .andNot=>K (.int k (k.wrap (BitVec.ofInt k.bits a&&& ~~~ BitVec.ofInt k.bits b).toNat))
 | .eql=>K (.bool (a==b))
 | .neq=>K (.bool (a != b))
 | .lss=>K (.bool (a<b))
 | .leq=>K (.bool (a<=b))
 | .gtr=>K (.bool (a>b))
 | .geq=>K (.bool (a>=b))
 |_=>False
def mM (op:BinOp) (k:IntKind) (a b:Int) (K:AV->Prop):Prop:=
 match op with
 | .shl=>0<=b/\K (.int k (k.wrap (a*2 ^ (min b.toNat k.bits))))
 | .shr=>0<=b/\K (.int k (a.fdiv (2 ^ (min b.toNat k.bits))))
 |_=>False
def AbY (op:BinOp) (x y:ByteArray) (K:AV->Prop):Prop:=
 match op with
 | .add=>x.size+y.size<=9223372036854775807/\K (.str (x++y))
 | .eql=>K (.bool (x.toList==y.toList))
 | .neq=>K (.bool !(x.toList==y.toList))
 | .lss=>K (.bool (Op.bytesLess x.toList y.toList))
 | .leq=>K (.bool (Op.bytesLess x.toList y.toList||x.toList==y.toList))
 | .gtr=>K (.bool !(Op.bytesLess x.toList y.toList||x.toList==y.toList))
 | .geq=>K (.bool !Op.bytesLess x.toList y.toList)
 |_=>False
def LV (op:BinOp) (b:Bool) (K:AV->Prop):Prop:=
 match op with
 | .eql=>K (.bool b)
 | .neq=>K (.bool !b)
 |_=>False
def uV:BinOp->Bool
 | .shl| .shr=>true
 |_=>false
def Nh:Operand->Bool
 | .const _=>true
 |_=>false
def Ahq (P:PL) (op:BinOp) (t:TypeId) (isc:Bool) (x y:AV) (K:AV->Prop):Prop:=
 match x,y with
 | .int k a, .int k' b=>
   match uV op with
   |true=>mM op k a b K
   |false=>need (decide (k=k')) (Abq op k a b K)
 | .str a, .str b=>AbY op a b K
 | .bool a, .bool b=>(match P.underlying t with|some .bool=>LV op (a==b) K|_=>False)
 | .sl (some nl) _ _, .sl (some true) 0 _=>(match P.underlying t with|some (.slice _)=>LV op nl K|_=>False)
 | .H8 k l, .H8 k' l'=>
   (match P.underlying t with
   |some (.array n e)=>need (decide (k=k')&&(P.cellsOf e==1&&(match P.underlying e with|some (.int _)=>true|_=>false))&&(l.length==n&&l'.length==n)&& !P.eqGuardType P.depth t) (LV op (l==l') K)
   |_=>False)
 | .Ox, .Ox=>need isc (match P.underlying t with|some (.interface _)=>LV op true K|_=>False)
 | .iface _ _, .Ox=>(match P.underlying t with|some (.interface _)=>LV op false K|_=>False)
 | .err e, .Ox=>need isc (match P.underlying t with|some (.interface _)=>LV op e.isNil K|_=>False)
 | .PO, .PO=>(match P.underlying t with|some (.func _ _ _)=>LV op true K|_=>False)
 | .fn _ _ _, .PO=>(match P.underlying t with|some (.func _ _ _)=>LV op false K|_=>False)
 | .Lf, .Lf=>(match P.underlying t with|some (.pointer _)=>LV op true K|_=>False)
 | .Ye _, .Lf=>(match P.underlying t with|some (.pointer _)=>LV op false K|_=>False)
 | .ip _ _, .Lf=>(match P.underlying t with|some (.pointer _)=>LV op false K|_=>False)
 | .mp _ _ _, .Lf=>(match P.underlying t with|some (.pointer _)=>LV op false K|_=>False)
 | .PN _ _ _ b, .Lf=>(match P.underlying t with|some (.pointer _)=>LV op (!b) K|_=>False)
 | .PN id i off b, .mp id' i' off'=>need (Nat.beq id id'&&(Nat.beq i i'&&Nat.beq off off')) (match P.underlying t with|some (.pointer te)=>need (P.info? te).isSome (LV op b K)|_=>False)
 | .mp id i off, .mp id' i' off'=>need (Nat.beq id id'&&(Nat.beq i i'&&Nat.beq off off')) (match P.underlying t with|some (.pointer te)=>need (P.info? te).isSome (LV op true K)|_=>False)
 |_,_=>False
def unQ (op:UnOp) (x:AV) (K:AV->Prop):Prop:=
 match op,x with
 | .not, .bool b=>K (.bool !b)
 | .neg, .int k n=>K (.int k (k.wrap (0-n)))
 | .xor, .int k n=>K (.int k (k.wrap (BitVec.ofInt k.bits (if k.signed then-1 else k.max) ^^^ BitVec.ofInt k.bits n).toNat))
 |_,_=>False
def bt (s:ByteArray) (i:Int):Int:=(s.data.toList.getD i.toNat 0).toNat
def Ab3 (e:AV) (off m:Nat):AV:=
 bif off==0&&e.A9==m then
  (match e with| .agg _| .H8 _ _=>e|e=>.agg [e])
 else .agg ((e.cells.drop off).take m)
def Zf (P:PL) (t:TypeId) (e:AV) (off:Nat) (K:AV->Prop):Prop:=
 match P.underlying t with
 |some d=>
  match Wt d with
  |true=>need (Nat.ble (off+P.cellsOf t) e.A9) (K (Ab3 e off (P.cellsOf t)))
  |false=>need (Nat.blt off e.A9) (K (e.cellAt off))
 |none=>False
def AgJ:Row->AV
 | .ints k l=>.H8 k l
 | .strs l=>.agg (l.map .str)
 | .bools l=>.agg (l.map .bool)
 | .Sg l=>.agg (l.flatMap AV.cells)
 | .vals l=>.agg (l.flatMap AV.cells)
 | .Y6 n g=>.agg (((List.range n).map g).flatMap AV.cells)
def zB (P:PL) (s:Store) (t:TypeId) (a:AV) (K:AV->Prop):Prop:=
 match a with
 | .ip e off=>Zf P t e off K
 | .Ye a=>(match P.underlying t with|some (.interface _)=>need (a.off==0&&(a.spot.isNone&&P.laid.gs.contains a.block)) (K (.err (.sent a.block)))|_=>False)
 | .mp id i off=>
   match s[id]? with
   |some (some o)=>
    match P.underlying t with
    |some (.array n e)=>
     match i==0&&off==0&&o.BU==P.cellsOf e&&n==o.row.len&&P.cellsOf t==n*o.BU with
     |true=>need (o.BU==1) (K (AgJ o.row))
     |false=>Zf P t (o.row.get i) off K
    |_=>Zf P t (o.row.get i) off K
   |_=>False
 |_=>False
def bU (e:AV) (off:Nat) (v:AV):AV:=
 bif off==0&&e.A9==v.A9 then v
 else .agg (e.cells.take off++v.cells++e.cells.drop (off+v.A9))
def iG (P:PL) (e:TypeId) (v:AV):Option Row:=
 match v with
 | .H8 k l=>bif P.cellsOf e==1 then some (.ints k l)else none
 | .agg cs=>bif P.cellsOf e==1 then lC P e cs else none
 |_=>none
def wI (P:PL) (s:Store) (t:TypeId) (a v:AV) (K:Store->Prop):Prop:=
 need (v.storable&&v.A9==P.cellsOf t)
  (match a with
  | .mp id i off=>
    match s[id]? with
    |some (some o)=>
     need (!o.ro)
         (match P.underlying t with
         |some (.array n e)=>
          match i==0&&off==0&&o.BU==P.cellsOf e&&n==o.row.len&&P.cellsOf t==n*o.BU,iG P e v with
          |true,some row=>row.len=o.row.len/\K (s.set id (some { o with row:=row }))
          |_,_=>False
         |some _=>need (Nat.ble (off+v.A9) (o.row.get i).A9) (o.row.set i (bU (o.row.get i) off v) fun row=>K (s.set id (some { o with row:=row })))
         |none=>False)
    |_=>False
  |_=>False)
def AbX (s:Store) (a v:AV):Bool:=
 match a with
 | .mp id _ _=>(match s[id]? with|some (some o)=>(match o.row with| .Y6 _ _=> !v.Lm| .Sg _=> !v.Lm|_=>false)|_=>false)
 |_=>false
def nD (P:PL) (s:Store) (t:TypeId) (a v:AV) (K:Store->Prop):Prop:=
 match AbX s a v with
 |false=>wI P s t a v K
 |true=>(match snap 6 s v with|some v'=>wI P (Ib s (Ch 6 s v)) t a v' K|none=>False)
def newObj (P:PL) (t:TypeId) (v:AV):Option E8:=
 match P.underlying t with
 |some (.array n e)=>match iG P e v with|some row=>bif row.len==n&&Nat.blt 0 n then some ⟨P.cellsOf e,t,row,false,false⟩else none|none=>none
 |_=>some ⟨v.A9,t, .vals [v],false,false⟩
def spine {β:Type} :List AV->(List AV->β)->β
 | [],K=>K []
 |x::xs,K=>spine xs fun ys=>K (x::ys)
theorem Aaj {β:Type} : ∀(l:List AV) (K:List AV->β),spine l K=K l
 | [],_=>rfl
 |x::xs,K=>by simp only[spine,Aaj xs]
def xY (place:Nat->Option (Nat×Nat)) (ev:Operand->AV) (cells:List AV):List (Nat×Operand)->Option (List AV)
 | []=>some cells
 |(i,x)::rest=>
  match place i with
  |none=>none
  |some (off,size)=>
   bif (ev x).storable&&((ev x).A9==size&&Nat.ble (off+size) cells.length)then
     spine (cells.take off++(ev x).cells++cells.drop (off+size)) fun cs=>xY place ev cs rest
   else none
def AaJ (P:PL) (ev:Operand->AV) (t:TypeId) (parts:List (Nat×Operand)):Option AV:=
 match Oy P t with
 |some z=>
  match P.underlying t with
  |some (.struct fs)=>bif !(fs.toList.all fun f=>Nat.blt 0 (P.cellsOf f.type))then none else(xY (fun i=>(fs[i]?).map fun f=>(f.offset,P.cellsOf f.type)) ev z.cells parts).map .agg
  |some (.array _ e)=>bif !Nat.blt 0 (P.cellsOf e)then none else(xY (fun i=>some (i*P.cellsOf e,P.cellsOf e)) ev z.cells parts).map fun cs=>
     match P.underlying e with
     |some (.int k)=>(match kH k cs with|some l=>.H8 k l|none=>.agg cs)
     |_=>.agg cs
  |_=>none
 |none=>none
def MP (ev:Operand->AV) (size:Nat):Nat->List (Nat×Operand)->Option (List AV)
 |_,[]=>some []
 |i,(j,x)::rest=>
  bif j==i&&((ev x).storable&&(ev x).A9==size)then
     match MP ev size (i+1) rest with
     |some l=>some (ev x::l)
     |none=>none
  else none
def wM (P:PL) (e:TypeId) (n:Nat):Option Row:=
 match Oy P e with
 |some z=>
  bif z.Lm&&z.storable&&z.A9==P.cellsOf e then
     match z with
     | .int k 0=>some (.ints k (List.replicate n 0))
     | .bool false=>some (.bools (List.replicate n false))
     | .str s=>bif s.data.toList.isEmpty then some (.strs (List.replicate n ByteArray.empty))else none
     |z=>some (.Y6 n fun _=>z)
  else none
 |none=>none
def AkZ (s:Store) (ids:List Nat):Prop:= ∀id∈ids,∀o,s[id]? =some (some o)->o.ro=true
def Ajc (s:Store) (x y:AV):Prop:=y=x∨(snap 6 s x=some y/\AkZ s (Ch 6 s x))
def AeG (s:Store) (x:AV) (n:Nat) (r:Row):Prop:=
 r.len=n/\match x with
 | .sl _ m get=>m=n/\ ∀j,j<n->r.get j=get j
 | .ms id m=>m=n/\ ∃o,s[id]? =some (some o)/\n<=o.row.len/\ ∀j,j<n->Ajc s (o.row.get j) (r.get j)
 | .LP id off m=>m=n/\ ∃o,s[id]? =some (some o)/\off+n<=o.row.len/\ ∀j,j<n->r.get j=o.row.get (off+j)
 |_=>False
def vP (r:Row) (n:Nat) (r2:Row) (K:Row->Prop):Prop:=
 match r,r2 with
 | .ints k l, .ints k' l2=>need (decide (k=k')) (K (.ints k (l.take n++l2)))
 | .strs l, .strs l2=>K (.strs (l.take n++l2))
 | .bools l, .bools l2=>K (.bools (l.take n++l2))
 | .Sg l, .Sg l2=>K (.Sg (l.take n++l2))
 | .vals l, .vals l2=>K (.vals (l.take n++l2))
 | .Y6 _ g, .Y6 n2 g2=>K (.Y6 (n+n2) fun j=>bif Nat.blt j n then g j else g2 (j-n))
 |_,_=>False
structure Qr where
 b:Nat
 BU:Nat
 len:Nat
 tot:Nat
 Fg:Bool
abbrev Cx:=List Qr
def Wr (cx:Cx) (s:Store) (b:Nat):Prop:= ∃(i:Nat) (e:Qr) (o:E8),cx[i]? =some e/\s[i]? =some (some o)/\o.ro=false/\e.Fg=false/\e.b=b
def Av (V:Nat->Prop) (cx:Cx) (s:Store) (b:Nat):Prop:=V b∨Wr cx s b
def UZ (w:World) (b:Nat):Prop:= ∃cur t fz,w.heap[b]? =some (.cells cur t fz)
theorem UZ.lt {w:World} {b:Nat} (h:UZ w b):b<w.heap.size:=by
 obtain⟨_,_,_,h⟩:=h
 exact(Array.getElem?_eq_some_iff.1 h).1
theorem UZ.keep {w w':World} {b:Nat} (h:UZ w b) (hk:w'.heap[b]? =w.heap[b]?):UZ w' b:=by
 obtain⟨c,t,f,h⟩:=h
 exact⟨c,t,f,hk.trans h⟩
theorem UZ.of_cell {w:World} {b j:Nat} {v:Value} (h:w.cell? ⟨b,j,none⟩=some v):UZ w b:=by
 unfold World.cell? at h
 simp only at h
 split at h
 ·rename_i c t f hh;exact⟨c,t,f,hh⟩
 ·cases h
inductive Rel (w:World) (cx:Cx) (A:Nat->Prop):AV->Value->Prop
 |unk (v:Value):Rel w cx A .unk v
 |bool (b:Bool):Rel w cx A (.bool b) (.bool b)
 |int (k:IntKind) (n:Int):Rel w cx A (.int k n) (.int k n)
 |str (s:ByteArray):Rel w cx A (.str s) (.string s)
 |Lf:Rel w cx A .Lf (.pointer none)
 |PO:Rel w cx A .PO .nilFunc
 |Ox:Rel w cx A .Ox .nilIface
 |Tv (b:Nat):Rel w cx A (.Tv b) (.map (some b))
 |Ye (a:Addr):Rel w cx A (.Ye a) (.pointer (some a))
 |sl (Fg:Option Bool) (n:Nat) (get:Nat->AV) (a:Option Addr) (cap BU:Nat) (vals:Nat->Nat->Value) (hnil: ∀b,Fg=some b->a.isNone=b) (hcap:n<=cap) (hmax:cap<=maxLen) (hz:a=none->cap=0)
   (hmem:0<n-> ∃b off,a=some ⟨b,off,none⟩/\ ¬A b/\UZ w b/\ ∀(j c:Nat) (x:AV),j<n->(get j).cells[c]? =some x->w.cell? ⟨b,off+(j*BU+c),none⟩=some (vals j c)/\(vals j c).oneCell'=true)
   (Gr: ∀j,j<n->(get j).Lm=true/\(get j).A9=BU)
   (hrel: ∀(j c:Nat) (x:AV),j<n->(get j).cells[c]? =some x->Rel w cx A x (vals j c)):Rel w cx A (.sl Fg n get) (.slice a n cap)
 |ip (e:AV) (off b o:Nat) (vals:Nat->Value) (Gr:e.Lm=true) (hA: ¬A b) (hb:UZ w b)
   (hmem: ∀(c:Nat) (x:AV),e.cells[c]? =some x->w.cell? ⟨b,o+c,none⟩=some (vals c)/\(vals c).oneCell'=true)
   (hrel: ∀(c:Nat) (x:AV),e.cells[c]? =some x->Rel w cx A x (vals c)):Rel w cx A (.ip e off) (.pointer (some ⟨b,o+off,none⟩))
 |ms (id n cap:Nat) (e:Qr) (he:cx[id]? =some e) (hnn:e.Fg=false) (hn:n<=e.len) (hcap:n<=cap) (htot:cap*e.BU=e.tot) (hmax:cap<=maxLen):Rel w cx A (.ms id n) (.slice (some ⟨e.b,0,none⟩) n cap)
 |ms0 (id:Nat) (e:Qr) (he:cx[id]? =some e) (hnn:e.Fg=true):Rel w cx A (.ms id 0) (.slice none 0 0)
 |LP (id off n cap o:Nat) (e:Qr) (he:cx[id]? =some e) (hnn:e.Fg=false) (hn:off+n<=e.len) (hcap:n<=cap) (hoff:0<cap->o=off*e.BU) (hmax:cap<=maxLen):Rel w cx A (.LP id off n) (.slice (some ⟨e.b,o,none⟩) n cap)
 |XK (id:Nat) (e:Qr) (he:cx[id]? =some e) (hnn:e.Fg=true):Rel w cx A (.LP id 0 0) (.slice none 0 0)
 |mp (id i off:Nat) (e:Qr) (he:cx[id]? =some e) (hnn:e.Fg=false) (hi:i<e.len):Rel w cx A (.mp id i off) (.pointer (some ⟨e.b,i*e.BU+off,none⟩))
 |gH (id i off:Nat):Rel w cx A (.PN id i off false) (.pointer none)
 |gI (id i off:Nat) (e:Qr) (he:cx[id]? =some e) (hnn:e.Fg=false) (hi:i<e.len):Rel w cx A (.PN id i off true) (.pointer (some ⟨e.b,i*e.BU+off,none⟩))
 |sd (id n:Nat) (a:Option Addr) (h:0<n-> ∃e,cx[id]? =some e/\e.Fg=false/\n<=e.len/\a=some ⟨e.b,0,none⟩):Rel w cx A (.sd id n) (.pointer a)
 |agg (cs:List AV) (vs:List Value) (hl:cs.length=vs.length) (h1: ∀v∈vs,v.oneCell'=true)
   (hrel: ∀(c:Nat) (x:AV) (v:Value),cs[c]? =some x->vs[c]? =some v->Rel w cx A x v):Rel w cx A (.agg cs) (.agg vs.toArray)
 |H8 (k:IntKind) (l:List Int):Rel w cx A (.H8 k l) (.agg (l.map (Value.int k)).toArray)
 |GU (cs:List AV) (vs:List Value) (hl:cs.length=vs.length)
   (hrel: ∀(c:Nat) (x:AV) (v:Value),cs[c]? =some x->vs[c]? =some v->Rel w cx A x v):Rel w cx A (.GU cs) (.tuple vs.toArray)
 |fn (f:Fn) (first cap:List AV) (first' cap':List Value) (hl:first.length=first'.length) (hl':cap.length=cap'.length)
   (hrel: ∀(c:Nat) (x:AV) (v:Value),first[c]? =some x->first'[c]? =some v->Rel w cx A x v)
   (hrel': ∀(c:Nat) (x:AV) (v:Value),cap[c]? =some x->cap'[c]? =some v->Rel w cx A x v):Rel w cx A (.fn f first cap) (.func f first'.toArray cap'.toArray)
 |iface (t:TypeId) (x:AV) (v:Value) (hrel:Rel w cx A x v):Rel w cx A (.iface t x) (.iface t v)
 |Wp:Rel w cx A (.err .nil) .nilIface
 |UE (g:Nat) (t:TypeId) (a:Addr) (hA: ¬A g) (hb:g<w.heap.size) (hm:w.cell? ⟨g,0,none⟩=some (.iface t (.pointer (some a)))):Rel w cx A (.err (.sent g)) (.iface t (.pointer (some a)))
 |Ve (t:TypeId) (n:Int) (e:Er) (b o:Nat) (v:Value) (hA: ¬A b) (hb:b<w.heap.size) (h0:w.cell? ⟨b,o,none⟩=some (.int .i64 n)) (h1:w.cell? ⟨b,o+1,none⟩=some v) (hrel:Rel w cx A (.err e) v):
   Rel w cx A (.err (.box t n e)) (.iface t (.pointer (some ⟨b,o,none⟩)))
structure Glob (L:Laid) (w:World) (A:Nat->Prop):Prop where
 sent: ∀g,g∈L.gs-> ¬A g/\g<w.heap.size/\ ∃a,w.cell? ⟨g,0,none⟩=some (.iface L.te (.pointer (some a)))/\ ¬A a.block/\ ∃cur t,w.heap[a.block]? =some (.cells cur t (0,0))
 apart: ∀g g' a,g∈L.gs->g'∈L.gs->w.cell? ⟨g,0,none⟩=some (.iface L.te (.pointer (some a)))->w.cell? ⟨g',0,none⟩=some (.iface L.te (.pointer (some a)))->g=g'
 cst: ∀x,x∈L.cs-> ¬A x.1/\x.1<w.heap.size/\w.cell? ⟨x.1,0,none⟩=some x.2
structure Jy (w:World) (cx:Cx) (A:Nat->Prop) (e:Qr) (o:E8) (cur:Array Value):Prop where
 hp: ∃fz,w.heap[e.b]? =some (.cells cur o.ety fz)/\(o.ro=false->fz=(0,0))
 tot:cur.size=e.tot
 BU:e.BU=o.BU
 len:e.len=o.row.len
 ok:o.row.ok
 fits:e.len*e.BU<=e.tot
 size: ∀(i:Nat),i<e.len->(o.row.get i).A9=o.BU
 cells: ∀(i c:Nat) (x:AV),i<e.len->(o.row.get i).cells[c]? =some x-> ∃v,cur[i*e.BU+c]? =some v/\v.oneCell'=true/\Rel w cx A x v
theorem Jy.heap {w:World} {cx:Cx} {A:Nat->Prop} {e:Qr} {o:E8} {cur:Array Value} (R:Jy w cx A e o cur) (hr:o.ro=false):w.heap[e.b]? =some (.cells cur o.ety (0,0)):=by
 obtain⟨fz,h,h'⟩:=R.hp
 rw[h' hr]at h
 exact h
theorem Jy.lt {w:World} {cx:Cx} {A:Nat->Prop} {e:Qr} {o:E8} {cur:Array Value} (R:Jy w cx A e o cur):e.b<w.heap.size:=by
 obtain⟨fz,h,_⟩:=R.hp
 exact(Array.getElem?_eq_some_iff.1 h).1
theorem Jy.cel {w:World} {cx:Cx} {A:Nat->Prop} {e:Qr} {o:E8} {cur:Array Value} (R:Jy w cx A e o cur):UZ w e.b:=by
 obtain⟨fz,h,_⟩:=R.hp
 exact⟨cur,_,fz,h⟩
theorem Jy.shape {w:World} {cx:Cx} {A:Nat->Prop} {e:Qr} {o:E8} {cur:Array Value} (R:Jy w cx A e o cur):w.shape? e.b=some (o.ety,cur.size):=by
 obtain⟨fz,h,_⟩:=R.hp
 simp[World.shape?,h]
theorem Jy.cell {w:World} {cx:Cx} {A:Nat->Prop} {e:Qr} {o:E8} {cur:Array Value} (R:Jy w cx A e o cur) (j:Nat):w.cell? ⟨e.b,j,none⟩=cur[j]? :=by
 obtain⟨fz,h,_⟩:=R.hp
 simp[World.cell?,h]
structure Bj (L:Laid) (V:Nat->Prop) (w:World) (cx:Cx) (s:Store):Prop where
 low: ∀b,V b->b<w.heap.size
 len:cx.length=s.length
 obj: ∀(i:Nat) (e:Qr) (o:E8),cx[i]? =some e->s[i]? =some (some o)->e.Fg=false-> ∃cur,Jy w cx (Av V cx s) e o cur
 gM: ∀(i:Nat) (e:Qr) (o:E8),cx[i]? =some e->s[i]? =some (some o)->e.Fg=true->o.row.len=0/\o.row.ok/\o.mb=true/\o.BU=e.BU
 may: ∀(i:Nat) (e:Qr) (o:E8),cx[i]? =some e->s[i]? =some (some o)->o.mb=false->e.Fg=false
 apart: ∀(i:Nat) (e:Qr) (o:E8),cx[i]? =some e->s[i]? =some (some o)->e.Fg=false-> ¬V e.b
 inj: ∀(i j:Nat) (ei ej:Qr) (oi oj:E8),cx[i]? =some ei->cx[j]? =some ej->s[i]? =some (some oi)->s[j]? =some (some oj)->ei.Fg=false->ej.Fg=false->i≠j->(oi.ro=false∨oj.ro=false)->ei.b≠ej.b
 glob:Glob L w (Av V cx s)
structure Ext (m:Nat) (V:Nat->Prop) (w w':World) (cx BX:Cx) (s s':Store):Prop where
 os:w'.os=w.os
 tape:w'.tape=w.tape
 output:w'.output=w.output
 size:w.heap.size<=w'.heap.size
 keep: ∀b,b<w.heap.size-> ¬Wr cx s b->w'.heap[b]? =w.heap[b]?
 now: ∀b,b<w.heap.size-> ¬Av V cx s b-> ¬Av V BX s' b
 grow: ∀b,b<w.heap.size-> ¬Wr cx s b-> ¬Wr BX s' b
 cx: ∀(i:Nat) (e:Qr),i<m->cx[i]? =some e->BX[i]? =some e
def Contract (P:PL) (f:FuncId) (args:List AV) (objs:Store) (r:AV) (Dz:Store):Prop:=
 (∃fn,P.funcs[f]? =some fn/\fn.body.isNone=false/\(fn.name== "runtime.NumGoroutine")=false)/\
 ∀(V:Nat->Prop) (w:World) (cx:Cx) (vs:List Value),Bj P.laid V w cx objs->args.length=vs.length->
  (∀(i:Nat) (x:AV) (v:Value),args[i]? =some x->vs[i]? =some v->Rel w cx (Av V cx objs) x v)->
  Calls P f vs.toArray w fun e w'=> ∃v BX,e=.returned v/\Ext objs.length V w w' cx BX objs Dz/\Bj P.laid V w' BX Dz/\Rel w' BX (Av V BX Dz) r v
def Bc (m:Nat) (P:PL) (f:FuncId) (args:List AV) (objs:Store) (r:AV) (Dz:Store):Prop:=
 (∃fn,P.funcs[f]? =some fn/\fn.body.isNone=false/\(fn.name== "runtime.NumGoroutine")=false)/\
 ∀(V:Nat->Prop) (w:World) (cx:Cx) (vs:List Value),Bj P.laid V w cx objs->args.length=vs.length->
  (∀(i:Nat) (x:AV) (v:Value),args[i]? =some x->vs[i]? =some v->Rel w cx (Av V cx objs) x v)->
  Calls P f vs.toArray w fun e w'=> ∃v BX,e=.returned v/\Ext m V w w' cx BX objs Dz/\Bj P.laid V w' BX Dz/\Rel w' BX (Av V BX Dz) r v
def YO (P:PL) (g:FuncId) (args:List AV) (s:Store) (K:AV->Store->Prop):Prop:=
 match SQ (snap 6 s) args with
 |some args'=> ∃r,Contract P g args' [] r []/\r.Lm=true/\K r (bif r.scalar then s else Ib s (args.flatMap (Ch 6 s)))
 |none=>False
def YN (P:PL) (g:FuncId) (args:List AV) (s:Store) (K:AV->Store->Prop):Prop:=
 ∃r s',Contract P g args s r s'/\K r s'
def sW (P:PL) (g:FuncId) (args:List AV) (s:Store) (K:AV->Store->Prop):Prop:=
 match SQ (snap 6 s) args with
 |some args'=>(∃r,Contract P g args' [] r []/\r.Lm=true/\K r (bif r.scalar then s else Ib s (args.flatMap (Ch 6 s))))∨YN P g args s K
 |none=>YN P g args s K
mutual
def AV.ren (f:Nat->Nat):AV->AV
 | .ms id n=>.ms (f id) n
 | .LP id off n=>.LP (f id) off n
 | .mp id i off=>.mp (f id) i off
 | .PN id i off b=>.PN (f id) i off b
 | .sd id n=>.sd (f id) n
 | .agg cs=>.agg (ZC f cs)
 | .GU cs=>.GU (ZC f cs)
 | .fn g a b=>.fn g (ZC f a) (ZC f b)
 | .iface t v=>.iface t (v.ren f)
 |v=>v
def ZC (f:Nat->Nat):List AV->List AV
 | []=> []
 |v::vs=>v.ren f::ZC f vs
end
mutual
def AV.refs (p:Nat->Bool):AV->Bool
 | .ms id _=>p id
 | .LP id _ _=>p id
 | .mp id _ _=>p id
 | .PN id _ _ _=>p id
 | .sd id _=>p id
 | .agg cs=>Rt p cs
 | .GU cs=>Rt p cs
 | .fn g a b=>Rt p a&&Rt p b
 | .iface t v=>v.refs p
 |_=>true
def Rt (p:Nat->Bool):List AV->Bool
 | []=>true
 |v::vs=>v.refs p&&Rt p vs
end
def Row.ren (f:Nat->Nat):Row->Row
 | .vals l=>.vals (ZC f l)
 |r=>r
def Row.refs (p:Nat->Bool):Row->Bool
 | .vals l=>Rt p l
 |_=>true
def M0 (p:Nat->Bool):Store->Bool
 | []=>true
 |some o::os=>o.row.refs p&&M0 p os
 |none::os=>M0 p os
def sF (P:PL) (s0:Store) (ts:List TypeId) (x0 x1:AV) (K:AV->Store->Prop):Prop:=
 match ts with
 | [t,t']=>
   match P.underlying t with
   |some (.slice e)=>
    need (t==t'&&Nat.blt 0 (P.cellsOf e)&&(match Oy P e with|some z=>z.A9==P.cellsOf e|none=>false))
    (∃ids n r2,AeG (Ib s0 ids) x1 n r2/\r2.ok/\(∀j,j<n->(r2.get j).A9=P.cellsOf e)/\
      match x0 with
      | .sl (some true) 0 _=>n*P.bytesOf e<=140737488355328/\n<=9223372036854775807/\K (.ms s0.length n) (Ib s0 ids++ [some ⟨P.cellsOf e,e,r2,false,true⟩])
      | .ms id n0=>
        match (Ib s0 ids)[id]? with
        |some (some o)=>
         need (!o.ro&&o.ety==e&&o.BU==P.cellsOf e)
            (n0<=o.row.len/\(n0+n)*P.bytesOf e<=140737488355328/\n0+n<=9223372036854775807/\
              vP o.row n0 r2 fun row=>K (.ms s0.length (n0+n)) ((Ib s0 ids).set id none++ [some { o with row:=row }]))
        |_=>False
      |_=>False)
   |_=>False
 |_=>False
def numsOf (s:ByteArray):List Int:=s.data.toList.map fun b=>(b.toNat:Int)
def Yh (P:PL) (s:Store) (ts:List TypeId) (x0:AV) (b:ByteArray) (K:AV->Store->Prop):Prop:=
 match ts with
 | [t,t']=>
   match P.underlying t,P.underlying t' with
   |some (.slice e),some .string=>
    need (P.cellsOf e==1&&P.bytesOf e==1&&(match Oy P e with|some (.int .u8 z)=>decide (z=0)|_=>false))
      (match x0 with
      | .sl (some true) 0 _=>b.size<=140737488355328/\K (.ms s.length b.size) (s++ [some ⟨1,e, .ints .u8 (numsOf b),false,true⟩])
      | .ms id n0=>
        match s[id]? with
        |some (some o)=>
         need (!o.ro&&o.ety==e&&o.BU==1)
            (n0<=o.row.len/\n0+b.size<=140737488355328/\vP o.row n0 (.ints .u8 (numsOf b)) fun row=>K (.ms s.length (n0+b.size)) (s.set id none++ [some { o with row:=row }]))
        |_=>False
      |_=>False)
   |_,_=>False
 |_=>False
def vQ (k:Nat) (r r2:Row) (K:Row->Prop):Prop:=
 match r,r2 with
 | .ints q l, .ints q' l2=>need (decide (q=q')) (K (.ints q (l2.take k++l.drop k)))
 | .strs l, .strs l2=>K (.strs (l2.take k++l.drop k))
 | .bools l, .bools l2=>K (.bools (l2.take k++l.drop k))
 | .Y6 n g, .Y6 _ g2=>K (.Y6 n fun j=>bif Nat.blt j k then g2 j else g j)
 |_,_=>False
def Ae8 (P:PL) (s:Store) (ts:List TypeId) (x0 x1:AV) (K:AV->Store->Prop):Prop:=
 match ts with
 | [t,_]=>
   match P.underlying t with
   |some (.slice e)=>
    match x0 with
    | .ms id n0=>
      match s[id]? with
      |some (some o)=>
       need (!o.ro&&o.BU==P.cellsOf e&&Nat.blt 0 (P.cellsOf e)&& !o.mb)
          (n0<=o.row.len/\ ∃n r2,AeG s x1 n r2/\r2.ok/\(∀j,j<n->(r2.get j).A9=P.cellsOf e)/\
            vQ (min n n0) o.row r2 fun row=>K (.int .i64 ((min n n0:Nat):Int)) (s.set id (some { o with row:=row })))
      |_=>False
    |_=>False
   |_=>False
 |_=>False
def AaQ (P:PL) (s:Store) (ts:List TypeId) (x:AV) (K:AV->Store->Prop):Prop:=
 match ts with
 | [t]=>
   match P.underlying t with
   |some (.slice e)=>
    match x with
    | .LP id off n=>
      match s[id]? with
      |some (some o)=>
       match o.row with
       | .ints k l=>
         need (!o.ro&&o.BU==1&&P.cellsOf e==1&&(match Oy P e with|some (.int k' z)=>decide (k=k')&&decide (z=0)|_=>false))
            (off+n<=l.length/\K .unk (s.set id (some { o with row:=.ints k (l.take off++(List.replicate n 0++l.drop (off+n))) })))
       |_=>False
      |_=>False
    |_=>False
   |_=>False
 |_=>False
def Aks (P:PL) (s:Store) (ts:List TypeId) (x:AV) (K:AV->Prop):Prop:=
 match ts with
 | [t]=>
   match P.underlying t,x with
   |some .string, .str b=>K (.int .i64 b.size)
   |some (.slice _), .sl _ n _=>K (.int .i64 n)
   |some (.slice _), .ms _ n=>K (.int .i64 n)
   |some (.slice _), .LP _ _ n=>K (.int .i64 n)
   |some (.array n _),_=>K (.int .i64 n)
   |_,_=>False
 |_=>False
def Aff (P:PL) (s:Store) (ty:TypeId) (x:AV) (K:AV->Prop):Prop:=
 match x with
 | .ms id n=>(match s[id]?,P.underlying ty with|some (some o),some (.pointer _)=>n<=o.row.len/\K (.sd id n)|_,_=>False)
 |_=>False
def Ag2 (P:PL) (s:Store) (ts:List TypeId) (x n:AV) (K:AV->Store->Prop):Prop:=
 match ts,x,n with
 | [pt,_], .sd id n, .int .i64 m=>
   match s[id]?,P.underlying pt with
   |some (some o),some (.pointer e)=>
    need (P.cellsOf e==1&&(!o.ro&&(o.BU==1&&o.ety==e)))
       (match o.row with
       | .ints .u8 l=>m=(n:Int)/\n<=l.length/\n<=9223372036854775807/\K (.str (strOfNums (l.take n))) (s.set id (some { o with ro:=true }))
       |_=>False)
   |_,_=>False
 |_,_,_=>False
def wV (P:PL) (s:Store) (ty:TypeId) (b:Builtin) (ts:List TypeId) (args:List AV) (K:AV->Store->Prop):Prop:=
 match b,args with
 | .len,[x]=>Aks P s ts x fun v=>K v s
 | .append,[x0, .str b]=>Yh P s ts x0 b K
 | .append,[x0,x1]=>sF P s ts x0 x1 K
 | .copy,[x0,x1]=>Ae8 P s ts x0 x1 K
 | .clear,[x]=>AaQ P s ts x K
 | .min,[.int k a, .int k' b]=>need (decide (k=k')) (K (.int k (min a b)) s)
 | .max,[.int k a, .int k' b]=>need (decide (k=k')) (K (.int k (max a b)) s)
 | .unsafeSliceData,[x]=>Aff P s ty x fun v=>K v s
 | .unsafeString,[x,n]=>Ag2 P s ts x n K
 |_,_=>False
def Same (P:PL) (g:FuncId):Prop:= ∃fn,P.funcs[g]? =some fn/\(fn.name== "runtime.NumGoroutine")=false/\fn.body.isNone=true/\(Extern.findNext fn=none)/\Extern.find fn=some Extern.AbiNoEscape.same
def bodyless (P:PL) (g:FuncId):Bool:=match P.funcs[g]? with|some fn=>fn.body.isNone|none=>false
def AeX (P:PL) (s:Store) (f:AV) (args:List AV) (K:AV->Store->Prop):Prop:=
 match f with
 | .fn (.func g) first cap=>
   match bodyless P g with
   |false=>sW P g (first++args++cap) s K
   |true=>(match first++args++cap with| [x]=>Same P g/\K x s|_=>False)
 |_=>False
def Yu (P:PL) (s:Store) (t:TypeId) (x i:AV) (K:AV->Prop):Prop:=
 match P.underlying t,i with
 |some (.slice e), .int _ i=>
  match x with
  | .sl _ n get=>0<=i/\i<n/\need ((get i.toNat).A9==P.cellsOf e&&Nat.blt 0 (P.cellsOf e)) (K (.ip (get i.toNat) 0))
  | .ms id n=>(match s[id]? with|some (some o)=>need (o.BU==P.cellsOf e&&Nat.blt 0 (P.cellsOf e)) (0<=i/\i<n/\K (.mp id i.toNat 0))|_=>False)
  | .LP id off n=>(match s[id]? with|some (some o)=>need (o.BU==P.cellsOf e&&Nat.blt 0 (P.cellsOf e)) (0<=i/\i<n/\K (.mp id (off+i.toNat) 0))|_=>False)
  |_=>False
 |some (.array n e), .int _ i=>
  need (Nat.blt 0 (P.cellsOf e))
  (match x with
  | .ip v off=>0<=i/\i<n/\K (.ip v (off+i.toNat*P.cellsOf e))
  | .mp id j off=>
    match s[id]? with
    |some (some o)=>
     match j==0&&off==0&&o.BU==P.cellsOf e&&n==o.row.len&&P.cellsOf t==n*o.BU with
     |true=>0<=i/\i<n/\K (.mp id i.toNat 0)
     |false=>0<=i/\i<n/\K (.mp id j (off+i.toNat*P.cellsOf e))
    |_=>False
  |_=>False)
 |_,_=>False
def Vg (P:PL) (t:TypeId) (x:AV) (f:Nat) (K:AV->Prop):Prop:=
 match P.underlying t with
 |some (.struct fs)=>
  match fs[f]? with
  |some fd=>need (Nat.blt 0 (P.cellsOf fd.type))
   (match x with
   | .ip e off=>K (.ip e (off+fd.offset))
   | .mp id i off=>K (.mp id i (off+fd.offset))
   |_=>False)
  |none=>False
 |_=>False
def Aa3 (P:PL) (t:TypeId) (x:AV) (f:Nat) (K:AV->Prop):Prop:=
 match P.underlying t with
 |some (.struct fs)=>
  match fs[f]?,x with
  |some fd, .agg cs=>Zf P fd.type (.agg cs) fd.offset K
  |_,_=>False
 |_=>False
def Abp (P:PL) (t:TypeId) (x i:AV) (K:AV->Prop):Prop:=
 match P.underlying t,x,i with
 |some .string, .str s, .int _ i=>0<=i/\i<s.size/\K (.int .u8 (bt s i))
 |some (.array n e), .H8 k l, .int _ i=>need (P.cellsOf e==1&&(match P.underlying e with|some d=> !Wt d|none=>false)) (0<=i/\i<n/\i<l.length/\K (.int k (l.getD i.toNat 0)))
 |some (.array n e), .agg cs, .int _ i=>need (P.cellsOf e==1&&(match P.underlying e with|some d=> !Wt d|none=>false)) (0<=i/\i<n/\i<cs.length/\K (cs.getD i.toNat .unk))
 |_,_,_=>False
def OO (x:Option AV) (d:Int) (K:Int->Prop):Prop:=
 match x with
 |none=>K d
 |some (.int _ i)=>K i
 |some _=>False
def AbP (P:PL) (s:Store) (t:TypeId) (x:AV) (lo hi mx:Option AV) (K:AV->Prop):Prop:=
 need mx.isNone
 (match P.underlying t,x with
 |some .string, .str s=>OO lo 0 fun l=>OO hi s.size fun h=>0<=l/\l<=h/\h<=s.size/\K (.str (s.extract l.toNat h.toNat))
 |some (.slice e), .sl nl n get=>OO lo 0 fun l=>OO hi n fun h=>0<=l/\l<=h/\h<=n/\need ((get l.toNat).A9==P.cellsOf e&&Nat.blt 0 (P.cellsOf e)) (K (.sl nl (h.toNat-l.toNat) fun j=>get (l.toNat+j)))
 |some (.slice e), .ms id n=>
  match lo with
  |none=>OO hi n fun h=>need (Nat.blt 0 (P.cellsOf e)) (0<=h/\h<=n/\K (.ms id h.toNat))
  |lo=>OO lo 0 fun l=>OO hi n fun h=>need (Nat.blt 0 (P.cellsOf e)) (match s[id]? with|some (some o)=>need (o.BU==P.cellsOf e) (0<=l/\l<=h/\h<=n/\K (.LP id l.toNat (h.toNat-l.toNat)))|_=>False)
 |some (.slice e), .LP id off n=>OO lo 0 fun l=>OO hi n fun h=>need (Nat.blt 0 (P.cellsOf e)) (match s[id]? with|some (some o)=>need (o.BU==P.cellsOf e) (0<=l/\l<=h/\h<=n/\K (.LP id (off+l.toNat) (h.toNat-l.toNat)))|_=>False)
 |_,_=>False)
def AeW (P:PL) (s:Store) (e:TypeId) (x:AV) (K:AV->Prop):Prop:=
 match P.underlying e,snap 6 s x with
 |some (.int .u8),some (.sl _ n get)=> ∃l:List Int,l.length=n/\(∀j,j<n->get j=.int .u8 (l.getD j 0))/\K (.str (strOfNums l))
 |_,_=>False
def qW (P:PL) (e:TypeId) (off:Nat) (u:TypeId):Prop:=liesAt P.toProgram P.toProgram.depth e 1 off u 1=true
attribute [irreducible] qW
theorem Agj {P:PL} {e u:TypeId} {off:Nat} (h:liesAt P.toProgram P.toProgram.depth e 1 off u 1=true):qW P e off u:=by unfold qW;exact h
theorem AdN {P:PL} {e u:TypeId} {off:Nat} (h:qW P e off u):liesAt P.toProgram P.toProgram.depth e 1 off u 1=true:=by unfold qW at h;exact h
def jE (P:PL) (s:Store) (src dst:TypeId) (x:AV) (K:AV->Prop):Prop:=
 match P.underlying src,P.underlying dst,x with
 |some _,some (.int k), .int _ n=>K (.int k (k.wrap n))
 |some _,some .string, .str t=>K (.str t)
 |some (.slice e),some .string,x=>AeW P s e x K
 |some (.pointer t),some .unsafePointer, .mp id i off=>(match s[id]? with|some (some o)=>need ((P.info? t).isSome&&(Nat.blt 0 (P.cellsOf t)&&Nat.blt off o.BU)) (K (.mp id i off))|_=>False)
 |some .unsafePointer,some (.pointer u), .mp id i off=>(match s[id]? with
  |some (some o)=>need (Nat.beq i 0&&(o.BU==P.cellsOf o.ety&&(Nat.blt 0 (P.cellsOf o.ety)&&(P.info? u).isSome)))
   (match Nat.beq off 0&&(o.ety==u)with
     |true=>K (.mp id i off)
     |false=>qW P o.ety off u/\K (.mp id i off))
  |_=>False)
 |_,_,_=>False
def runesL (t:ByteArray):List Int:=(Conv.runesFrom t t.size 0 #[]).toList.map fun v=>match v with| .int _ n=>n|_=>0
def AbL (P:PL) (s:Store) (e:TypeId) (t:ByteArray) (K:AV->Store->Prop):Prop:=
 match P.underlying e with
 |some (.int .i32)=>need (P.cellsOf e==1) (t.size<=70368744177664/\K (.ms s.length (runesL t).length) (s++ [some ⟨1,e, .ints .i32 (runesL t),false,false⟩]))
 |_=>False
def Ae7 (P:PL) (s:Store) (src dst:TypeId) (x:AV) (K:AV->Store->Prop):Prop:=
 match P.underlying src,P.underlying dst,x with
 |some .string,some (.slice e), .str t=>AbL P s e t K
 |_,_,_=>jE P s src dst x fun v=>K v s
def aop (P:PL) (s:Store) (ev:Operand->AV) (o:Oper) (K:AV->Store->Prop):Prop:=
 match o.op with
 | .move x=>K (ev x) s
 | .assign x=>K (ev x) s
 | .pick c a b=>(match ev c with| .bool c=>brP c (K (ev a) s) (K (ev b) s)|_=>False)
 | .alloc t=>(match Oy P t with|some z=>(match newObj P t z with|some ob=>K (.mp s.length 0 0) (s++ [some ob])|none=>False)|none=>False)
 | .box t x=>need ((ev x).storable&&(ev x).A9==P.cellsOf t) (match newObj P t (ev x)with|some ob=>K (.mp s.length 0 0) (s++ [some ob])|none=>False)
 | .build t parts=>(match AaJ P ev t parts.toList with|some v=>K v s|none=>False)
 | .buildSlice t len parts=>
   match P.underlying t with
   |some (.slice e)=>
    match MP ev (P.cellsOf e) 0 parts.toList with
    |some vs=>need (vs.length==len&&Nat.ble (len*P.cellsOf e) 16777216&&Nat.blt 0 (P.cellsOf e)&&(Oy P e).isSome) (match lC P e vs with|some row=>K (.ms s.length len) (s++ [some ⟨P.cellsOf e,e,row,false,false⟩])|none=>False)
    |none=>False
   |_=>False
 | .load t a=>zB P s t (ev a) fun v=>K v s
 | .store t a x=>nD P s t (ev a) (ev x) fun s'=>K .unk s'
 | .nilCheck x=>(match ev x with| .Ye a=>K (.Ye a) s| .ip e off=>K (.ip e off) s| .mp id i off=>K (.mp id i off) s|_=>False)
 | .binOp op t x y _=>Ahq P op t (Nh x||Nh y) (ev x) (ev y) fun v=>K v s
 | .unOp op _ x=>unQ op (ev x) fun v=>K v s
 | .convert a b x=>Ae7 P s a b (ev x) K
 | .makeInterface t x=>(match P.underlying t with|some (.interface _)=>False|some _=>K (.iface t (ev x)) s|none=>False)
 | .makeFunc f first cap=>K (.fn f (first.toList.map ev) (cap.toList.map ev)) s
 | .makeSlice t l c=>
   match P.underlying t,ev l,ev c with
   |some (.slice e), .int _ n, .int _ m=>
    (n=m/\0<=n/\(P.bytesOf e:Int)*n<=281474976710656/\n<=9223372036854775807/\
      need (Nat.blt 0 (P.cellsOf e)) (match wM P e n.toNat with|some row=>K (.ms s.length n.toNat) (s++ [some ⟨P.cellsOf e,e,row,false,false⟩])|none=>False))
   |_,_,_=>False
 | .slice t x lo hi mx=>AbP P s t (ev x) (lo.map ev) (hi.map ev) (mx.map ev) fun v=>K v s
 | .fieldAddr t x f=>Vg P t (ev x) f fun v=>K v s
 | .field t x f=>Aa3 P t (ev x) f fun v=>K v s
 | .indexAddr t x i=>Yu P s t (ev x) (ev i) fun v=>K v s
 | .index t x i=>Abp P t (ev x) (ev i) fun v=>K v s
 | .extract x i=>(match ev x with| .GU vs=>need (Nat.blt i vs.length) (K (vs.getD i .unk) s)|_=>False)
 | .call c=>
   match c.callee with
   | .builtin b=>wV P s o.type b c.argTypes.toList (c.args.toList.map ev) K
   | .value f=>AeX P s (ev f) (c.args.toList.map ev) K
   | .invoke _ _=>False
 |_=>False
def Yp:List AV->(List AV->Prop)->Prop
 | [],K=>K []
 |x::xs,K=>Yp xs fun ys=>K (x::ys)
def Xa (v:AV) (K:AV->Prop):Prop:=
 match v with
 | .unk=>K .unk
 | .bool b=>K (.bool b)
 | .int k n=>K (.int k n)
 | .str s=>K (.str s)
 | .Lf=>K .Lf
 | .PO=>K .PO
 | .Ox=>K .Ox
 | .Tv b=>K (.Tv b)
 | .Ye a=>K (.Ye a)
 | .sl a b c=>K (.sl a b c)
 | .ip e off=>K (.ip e off)
 | .ms id n=>K (.ms id n)
 | .LP id off n=>K (.LP id off n)
 | .mp id i off=>K (.mp id i off)
 | .PN id i off b=>K (.PN id i off b)
 | .sd id n=>K (.sd id n)
 | .agg cs=>Yp cs fun cs=>K (.agg cs)
 | .H8 k l=>K (.H8 k l)
 | .GU vs=>Yp vs fun vs=>K (.GU vs)
 | .fn f a b=>Yp a fun a=>Yp b fun b=>K (.fn f a b)
 | .iface t v=>K (.iface t v)
 | .err e=>K (.err e)
def TF:List AV->(List AV->Prop)->Prop
 | [],K=>K []
 |x::xs,K=>Xa x fun x=>TF xs fun ys=>K (x::ys)
def tX (v:AV) (K:AV->Prop):Prop:=
 match v with
 | .ip e off=>Xa e fun e=>K (.ip e off)
 | .agg cs=>TF cs fun cs=>K (.agg cs)
 | .GU vs=>TF vs fun vs=>K (.GU vs)
 | .fn f a b=>TF a fun a=>TF b fun b=>K (.fn f a b)
 | .iface t v=>Xa v fun v=>K (.iface t v)
 |v=>Xa v K
def Aa6 (o:Option E8) (K:Option E8->Prop):Prop:=
 match o with
 |none=>K none
 |some ⟨BU,ety,row,ro,mb⟩=>
  match row with
  | .vals l=>TF l fun l=>K (some ⟨BU,ety, .vals l,ro,mb⟩)
  | .Sg l=>K (some ⟨BU,ety, .Sg l,ro,mb⟩)
  | .ints k l=>K (some ⟨BU,ety, .ints k l,ro,mb⟩)
  | .strs l=>K (some ⟨BU,ety, .strs l,ro,mb⟩)
  | .bools l=>K (some ⟨BU,ety, .bools l,ro,mb⟩)
  | .Y6 n g=>K (some ⟨BU,ety, .Y6 n g,ro,mb⟩)
def tV:Store->(Store->Prop)->Prop
 | [],K=>K []
 |o::os,K=>Aa6 o fun o=>tV os fun os=>K (o::os)
def bL:List AV->Nat->AV->(List AV->Prop)->Prop
 | [],_,_,K=>K []
 |_::xs,0,v,K=>K (v::xs)
 |x::xs,d+1,v,K=>bL xs d v fun ys=>K (x::ys)
def o8 (t:List AV) (dst:Option Tmp) (v:AV) (K:List AV->Prop):Prop:=
 match dst with
 |some d=>bL t d v K
 |none=>K t
theorem qM: ∀(l:List AV) (K:List AV->Prop),Yp l K=K l
 | [],K=>rfl
 |x::xs,K=>by simp only[Yp,qM xs]
theorem jO (v:AV) (K:AV->Prop):Xa v K=K v:=by cases v<;>simp only[Xa,qM]
theorem Yq: ∀(l:List AV) (K:List AV->Prop),TF l K=K l
 | [],K=>rfl
 |x::xs,K=>by simp only[TF,jO,Yq xs]
theorem qO (v:AV) (K:AV->Prop):tX v K=K v:=by cases v<;>simp only[tX,jO,Yq]
theorem Adu (o:Option E8) (K:Option E8->Prop):Aa6 o K=K o:=by
 cases o with
 |none=>rfl
 |some o=>obtain⟨a,b,r,c,d⟩:=o;cases r<;>simp only[Aa6,Yq]
theorem qN: ∀(s:Store) (K:Store->Prop),tV s K=K s
 | [],K=>rfl
 |x::xs,K=>by simp only[tV,Adu,qN xs]
theorem Xm: ∀(t:List AV) (d:Nat) (v:AV) (K:List AV->Prop),bL t d v K=K (t.set d v)
 | [],d,v,K=>rfl
 |x::xs,0,v,K=>rfl
 |x::xs,d+1,v,K=>by simp only[bL,Xm xs d v,List.set_cons_succ]
theorem gZ (t:List AV) (dst:Option Tmp) (v:AV) (K:List AV->Prop):o8 t dst v K=K (Ut t dst v):=by cases dst<;>simp only[o8,Ut,Xm]
def after (t:List AV) (dst:Option Tmp) (v:AV) (s:Store) (K:List AV->Store->Prop):Prop:=tX v fun v=>o8 t dst v fun t=>tV s fun s=>K t s
theorem iF (t:List AV) (dst:Option Tmp) (v:AV) (s:Store) (K:List AV->Store->Prop):after t dst v s K=K (Ut t dst v) s:=by simp only[after,qO,gZ,qN]
def TB (ops:List Oper) (j:Nat):Option Tmp:=(ops[j]?).bind (·.dst)
def Ku (P:PL) (ops:List Oper):List Oper->Fr->(Fr->Prop)->Prop
 | [],fr,K=>K fr
 |o::rest,fr,K=>
  match o.guard with
  |none=>aop P fr.s (Kh fr.t) o fun v s'=>after fr.t o.dst v s' fun t s=>Ku P ops rest ⟨t,s⟩ K
  |some (j,want)=>
   match TB ops j with
   |none=>False
   |some d=>
    match fr.t.getD d .unk with
    | .bool c=>
      brP c
         (match want with
           |true=>bL fr.t d (.bool true) fun t0=>aop P fr.s (Kh t0) o fun v s'=>after t0 o.dst v s' fun t s=>Ku P ops rest ⟨t,s⟩ K
           |false=>bL fr.t d (.bool true) fun t0=>o8 t0 o.dst (.GU []) fun t=>Ku P ops rest ⟨t,fr.s⟩ K)
         (match want with
           |false=>bL fr.t d (.bool false) fun t0=>aop P fr.s (Kh t0) o fun v s'=>after t0 o.dst v s' fun t s=>Ku P ops rest ⟨t,s⟩ K
           |true=>bL fr.t d (.bool false) fun t0=>o8 t0 o.dst (.GU []) fun t=>Ku P ops rest ⟨t,fr.s⟩ K)
    | .GU []=>o8 fr.t o.dst (.GU []) fun t=>Ku P ops rest ⟨t,fr.s⟩ K
    |_=>False
def FK (o:Oper):List Nat:=(o.after.toList.filter (Region.binds .any)).map (·.on)
def readsOf (ops:List Oper) (o:Oper):List Tmp:=
 (o.op.operands.toList.filterMap fun| .tmp t=>some t|_=>none)++
 (match o.guard with
  |some (g,_)=>(TB ops g).toList
  |none=> [])
def Uc (ops:List Oper):Bool:=
 ops.zipIdx.all fun(o,i)=>
  (FK o).all (fun j=>Nat.blt j i)&&
  (match o.op with| .select .. =>false| .defer _=>false|_=>true)&&
  ops.zipIdx.all fun(o',k)=>
     k==i||
     (match o'.dst with
     |none=>true
     |some d=>o.dst != some d&&(!(readsOf ops o).contains d||(FK o).contains k||(FK o').contains i))
def Vo (o:Oper):Bool:=match o.op with| .move _=>o.guard.isNone&&(FK o).isEmpty|_=>false
def Vn (o:Oper):Bool:=
 match o.op with
 | .binOp op _ _ _ _=>o.guard.isNone&&(match op with| .add| .sub=>true|_=>false)
 | .nilCheck _=>o.guard.isNone
 | .fieldAddr _ _ _=>o.guard.isNone
 |_=>false
def UJ (ops:List Oper) (n:Nat):List Nat:=(List.range n).filter fun i=>(match ops[i]? with|some o=>Vo o|none=>false)&&ops.zipIdx.any fun(o,j)=>Nat.ble n j&& !(FK o).contains i
def u6 (ops:List Oper) (n k:Nat) (acc:List Nat):List Nat:=
 match (UJ ops n).contains k||(match ops[k]? with|some o=>Vn o&&(FK o).all (fun j=>acc.contains j)|none=>false)with
 |true=>k::acc
 |false=>acc
def O1 (ops:List Oper) (n:Nat):Nat->List Nat
 |0=> []
 |k+1=>u6 ops n k (O1 ops n k)
def KZ (ops:List Oper) (n:Nat):List Nat:=(List.range n).filter fun i=>(O1 ops n n).contains i
def lT (ops:List Oper):Nat->List Nat->Nat->Bool
 |0,_,_=>false
 |d+1,ps,i=>ps.contains i||ps.any (fun p=>match ops[p]? with|some q=>lT ops d (FK q) i|none=>false)
def WV (ops:List Oper) (n:Nat):Bool:=
 ops.zipIdx.all fun(o,j)=>Nat.blt j n||(List.range j).all fun i=>(FK o).contains i||((KZ ops n).contains i||lT ops 8 (FK o) i)
def Ij (o:Oper):Bool:=match o.op,o.dst with| .alloc _,some _=>true|_,_=>false
def Ru:List Oper->Option (Tmp×TypeId)
 | []=>none
 |o::r=>match o.op,o.dst with| .alloc t,some d=>some (d,t)|_,_=>Ru r
def V6:List Oper->Bool
 | []=>true
 |o::r=>match Ij o with|true=>o.guard.isNone&&r.all (fun o=> !Ij o)|false=>V6 r
def AaF (P:PL) (s:Store) (ev:Operand->AV) (o:Oper) (K:AV->Store->Prop):Prop:=
 match o.op with
 | .buildSlice t len parts=>
   match P.underlying t with
   |some (.slice e)=>
    match MP ev (P.cellsOf e) 0 parts.toList with
    |some vs=>need (vs.length==len&&Nat.ble (len*P.cellsOf e) 16777216&&Nat.blt 0 (P.cellsOf e)&&(Oy P e).isSome)
     (match lC P e vs with
     |some row=>(match Xo false row len with|some v=>K v s|none=>False)
     |none=>False)
    |none=>False
   |_=>False
 |_=>aop P s ev o K
def MF (P:PL) (ops:List Oper) (s:Store):List Oper->List AV->(List AV->Prop)->Prop
 | [],t,K=>K t
 |o::rest,t,K=>
  match o.guard with
  |none=>
   match Ij o with
   |true=>o8 t o.dst .unk fun t=>MF P ops s rest t K
   |false=>AaF P s (Kh t) o fun v s'=>s'=s/\after t o.dst v [] fun t _=>MF P ops s rest t K
  |some (j,want)=>
   match TB ops j with
   |none=>False
   |some d=>
    match t.getD d .unk with
    | .bool c=>
      brP c
         (match want with
           |true=>bL t d (.bool true) fun t0=>AaF P s (Kh t0) o fun v s'=>s'=s/\after t0 o.dst v [] fun t _=>MF P ops s rest t K
           |false=>bL t d (.bool true) fun t0=>o8 t0 o.dst (.GU []) fun t=>MF P ops s rest t K)
         (match want with
           |false=>bL t d (.bool false) fun t0=>AaF P s (Kh t0) o fun v s'=>s'=s/\after t0 o.dst v [] fun t _=>MF P ops s rest t K
           |true=>bL t d (.bool false) fun t0=>o8 t0 o.dst (.GU []) fun t=>MF P ops s rest t K)
    | .GU []=>o8 t o.dst (.GU []) fun t=>MF P ops s rest t K
    |_=>False
def Ah9 (e:Edge):Bool:=match e.ground with| .phase=>true|_=>false
def sZ:List Oper->Nat
 | []=>0
 |o::r=>match o.after.toList.any Ah9 with|true=>0|false=>sZ r+1
def AlT (o:Oper):Bool:=match o.op with| .assign _=>true| .move _=>true|_=>false
def jI (ops:List Oper):Nat:=
 match (ops.drop (sZ ops)).all AlT&&(Ru (ops.take (sZ ops))).isNone with
 |true=>ops.length
 |false=>sZ ops
def Akl (o:Oper):Bool:=
 match o.op with
 | .store _ _ _=>true
 | .call c=>(match c.callee with| .builtin .append=>true| .builtin .copy=>true| .builtin .unsafeString=>true|_=>false)
 |_=>false
def Acv (o:Oper):Bool:=match o.op with| .call c=>(match c.callee with| .value _=>true|_=>false)|_=>false
def Abu:List Oper->Nat
 | []=>0
 |o::r=>match Akl o||(r.isEmpty&&Acv o)with|true=>0|false=>Abu r+1
def Afb (ops:List Oper):Nat:=match Nat.blt (Abu ops) (jI ops)with|true=>Abu ops|false=>jI ops
def gT (ops:List Oper):Nat->Nat
 |0=>0
 |k+1=>match (match ops[k]? with|some o=>Acv o|none=>false)with|true=>gT ops k|false=>k+1
def pW (ops:List Oper):Nat:=
 match Nat.blt (gT ops (jI ops)) (Afb ops)&&WV ops (gT ops (jI ops))with
 |true=>gT ops (jI ops)
 |false=>Afb ops
@[irreducible] def tH (ops:List Oper) (n:Nat):Prop:=(Uc ops&&WV ops n&&Nat.ble n ops.length&&V6 (ops.take n))=true
def Ab6 (P:PL) (ops:List Oper) (fr:Fr) (K:Fr->Prop):Prop:=
 tH ops (pW ops)/\
  MF P ops fr.s (ops.take (pW ops)) fr.t fun t1=>
     match Ru (ops.take (pW ops))with
     |none=>Ku P ops (ops.drop (pW ops)) ⟨t1,fr.s⟩ K
     |some (d,ty)=>
      match Oy P ty with
      |none=>False
      |some z=>
       match newObj P ty z with
       |none=>False
       |some ob=>bL t1 d (.mp fr.s.length 0 0) fun t=>Ku P ops (ops.drop (pW ops)) ⟨t,fr.s++ [some ob]⟩ K
inductive Ex where
 |normal
 |exit (id:Nat)
 |ret
def Marks (V:Nat->Prop) (w:World):List Deferred->Prop
 | []=>True
 |d::ds=>(∃k,d.target=.collected k/\w.heap[k]? =some (.deferred (some []))/\ ¬V k/\ ∀d'∈ds,d'.target≠.collected k)/\Marks V w ds
structure EU (L:Laid) (V:Nat->Prop) (w:World) (cx:Cx) (fr:Fr) (a:Act):Prop where
 st:Bj L V w cx fr.s
 size:a.tmps.size=fr.t.length
 defers:Marks V w a.defers
 tmps: ∀(i:Nat) (x:AV),fr.t[i]? =some x->Rel w cx (Av V cx fr.s) x (a.tmps.getD i undef)
def Weak (m:Nat) (fr fr':Fr):Prop:=
 ∀L V w cx a,EU L V w cx fr a-> ∃BX,Ext m V w w cx BX fr.s fr'.s/\EU L V w BX fr' a
def gK (b:Fr->(Ex->Fr->Prop)->Prop) (K:Ex->Fr->Prop):Ex->Fr->Prop
 | .normal,fr=>b fr K
 | .exit id,fr=>K (.exit id) fr
 | .ret,fr=>K .ret fr
def iM (id:Nat) (K:Ex->Fr->Prop):Ex->Fr->Prop
 | .normal,fr=>K .normal fr
 | .exit j,fr=>(match j==id with|true=>K .normal fr|false=>K (.exit j) fr)
 | .ret,fr=>K .ret fr
@[irreducible] def X7 (m:Nat) (body:Fr->(Ex->Fr->Prop)->Prop) (fr:Fr) (K:Ex->Fr->Prop):Prop:=
  ∃(I:Fr->Prop) (μ:Fr->Nat),(∃VG,Weak m fr VG/\I VG)/\
   ∀Rl,I Rl->body Rl (gK (fun XZ _=> ∃jP,Weak m XZ jP/\I jP/\μ jP<μ Rl) K)
def lQ (ops:List Oper):Bool:=ops.all fun o=>match o.op with| .defer _=>false|_=>true
def awp (P:PL) (m:Nat):Code->Fr->(Ex->Fr->Prop)->Prop
 | .skip,fr,K=>K .normal fr
 | .label _,fr,K=>K .normal fr
 | .region _ ops draw,fr,K=>
   match draw with
   |false=>need (lQ ops.toList) (Ku P ops.toList ops.toList fr (K .normal))
   |true=>Ab6 P ops.toList fr (K .normal)
 | .seq a b,fr,K=>awp P m a fr (gK (fun fr K=>awp P m b fr K) K)
 | .cond c a b,fr,K=>
   match Kh fr.t c with
   | .bool c=>brP c (awp P m a fr K) (awp P m b fr K)
   |_=>False
 | .block id c,fr,K=>awp P m c fr (iM id K)
 | .loop c,fr,K=>X7 m (fun fr K=>awp P m c fr K) fr K
 | .exit id,fr,K=>K (.exit id) fr
 | .ret,fr,K=>K .ret fr
 |_,_,_=>False
def Te (P:PL) (fr:Fr):List ResultVar->(List AV->Prop)->Prop
 | [],K=>K []
 | .tmp i::rs,K=>Te P fr rs fun vs=>K (fr.t.getD i .unk::vs)
 | .cell a t::rs,K=>zB P fr.s t (fr.t.getD a .unk) fun v=>Te P fr rs fun vs=>K (v::vs)
def bH:List AV->AV
 | [v]=>v
 |vs=>.GU vs
def Vf (m:Nat) (fr:Fr) (v:AV) (K:AV->Store->Prop):Prop:=
 ((v.refs (fun i=>Nat.blt i m)&&M0 (fun i=>Nat.blt i m) (fr.s.take m))=true/\K v (fr.s.take m))∨
 (M0 (fun i=>Nat.blt i m) (fr.s.take m)=true/\ ∃v',snap 6 fr.s v=some v'/\v'.Lm=true/\K v' (Ib fr.s (Ch 6 fr.s v) |>.take m))∨
 K v fr.s
def gV (m:Nat) (fr:Fr) (v:AV) (K:AV->Store->Prop):Prop:=
 match m with
 |0=>(match snap 6 fr.s v with|some v'=>need v'.Lm (tX v' fun v'=>K v' [])|none=>False)
 |m+1=>Vf (m+1) fr v K
def AkA (P:PL) (fn:Func) (m:Nat) (Q:AV->Store->Prop):Ex->Fr->Prop
 | .exit _,_=>False
 |_,fr=>Te P fr fn.results.toList fun vs=>gV m fr (bH vs) Q
def Ai6 (P:PL) (fn:Func) (m:Nat) (Q:AV->Store->Prop):Ex->Fr->Prop
 | .exit _,_=>False
 |_,fr=>Te P fr fn.results.toList fun vs=>Vf m fr (bH vs) Q
def ML (fn:Func) (args:List AV) (objs:Store):Fr:=
 ⟨args++List.replicate (fn.ntmps-args.length) .unk,objs⟩
end Go.SE
