/- The shadow evaluator, part 0: abstract values, an abstract store, and the abstract weakest precondition 'awp' of a function's code over them. No condition. -/
import Derived.Laws.BytesArg
import Derived.Orders
import Derived.Laws.AppendOwn
import Derived.Lib.Builder
import Derived.Lib.UnsafeStr
import Derived.Laws.Externs
namespace Go.SE
open Go
set_option linter.unusedVariables false

/-! ### Errors; what start-up code lays -/
/-- An error: none; what a listed variable holds; a pointer (of type t) to a number and an error. -/
inductive Er where
  | nil
  | sent (g : Nat)
  | box (t : TypeId) (n : Int) (e : Er)
  deriving DecidableEq, Inhabited
def Er.isNil : Er → Bool
  | .nil => true
  | _ => false
/-- Package-level variables of which something is known: errors as errors.New makes them (te: their type), cells known outright. -/
structure Laid where
  te : TypeId
  gs : List Nat
  cs : List (Nat × Value)
/-- A program, and what its start-up code lays. -/
structure PL extends Program where
  laid : Laid
instance : Coe PL Program := ⟨PL.toProgram⟩

/-! ### Abstract values -/
/-- What a slot may hold, without addresses. 'sl', 'ip': memory that nobody writes any more; 'ms', 'mp': into an object of the abstract store. -/
inductive AV where
  | unk
  | bool (b : Bool)
  | int (k : IntKind) (n : Int)
  | str (s : ByteArray)
  | nilp
  | nilf
  | nili
  | mapr (b : Nat)
  | adr (a : Addr)
  | sl (isnil : Option Bool) (n : Nat) (get : Nat → AV)
  | ip (e : AV) (off : Nat)
  | ms (id n : Nat)
  | mso (id off n : Nat)
  | mp (id i off : Nat)
  | mpn (id i off : Nat) (b : Bool)
  | sd (id n : Nat)
  | agg (cs : List AV)
  | aggi (k : IntKind) (l : List Int)
  | tup (vs : List AV)
  | fn (f : Fn) (first cap : List AV)
  | iface (t : TypeId) (v : AV)
  | err (e : Er)
  deriving Inhabited

def AV.cells : AV → List AV
  | .agg cs => cs
  | .aggi k l => l.map (.int k)
  | v => [v]
def AV.ncells : AV → Nat
  | .agg cs => cs.length
  | .aggi _ l => l.length
  | _ => 1
/-- Cell number c of a value. -/
def AV.cellAt : AV → Nat → AV
  | .agg cs, c => cs.getD c .unk
  | .aggi k l, c => .int k (l.getD c 0)
  | v, _ => v

mutual
/-- No reference into the abstract store. -/
def AV.imm : AV → Bool
  | .ms _ _ => false
  | .mso _ _ _ => false
  | .mp _ _ _ => false
  | .mpn _ _ _ _ => false
  | .sd _ _ => false
  | .agg cs => immL cs
  | .tup vs => immL vs
  | .fn _ first cap => immL first && immL cap
  | .iface _ v => v.imm
  | _ => true
def immL : List AV → Bool
  | [] => true
  | v :: vs => v.imm && immL vs
end
mutual
/-- Nothing that leads to memory. -/
def AV.scalar : AV → Bool
  | .unk | .bool _ | .int _ _ | .str _ | .nilp | .nilf | .nili | .mapr _ | .aggi _ _ => true
  | .agg cs => scalarL cs
  | .tup vs => scalarL vs
  | _ => false
def scalarL : List AV → Bool
  | [] => true
  | v :: vs => v.scalar && scalarL vs
end

/-! ### Tests -/
/-- A test that may be known: 'brP true A B' is A. -/
def brP (c : Bool) (A B : Prop) : Prop := match c with | true => A | false => B
def need (c : Bool) (A : Prop) : Prop := match c with | true => A | false => False
theorem brP_intro {c : Bool} {A B : Prop} (h1 : c = true → A) (h2 : c = false → B) : brP c A B := by cases c <;> simp_all [brP]
theorem need_intro {c : Bool} {A : Prop} (h1 : c = true) (h2 : A) : need c A := by subst h1; exact h2

/-! ### The abstract store -/
inductive Row where
  | ints (k : IntKind) (l : List Int)
  | strs (l : List ByteArray)
  | bools (l : List Bool)
  | imms (l : List AV)
  | vals (l : List AV)
  | imf (n : Nat) (get : Nat → AV)
  deriving Inhabited
def Row.len : Row → Nat
  | .ints _ l => l.length
  | .strs l => l.length
  | .bools l => l.length
  | .imms l => l.length
  | .vals l => l.length
  | .imf n _ => n
def Row.get : Row → Nat → AV
  | .ints k l, i => .int k (l.getD i 0)
  | .strs l, i => .str (l.getD i ByteArray.empty)
  | .bools l, i => .bool (l.getD i false)
  | .imms l, i => l.getD i .unk
  | .vals l, i => l.getD i .unk
  | .imf _ g, i => g i
def Row.ok : Row → Prop
  | .imms l => ∀ x ∈ l, x.imm = true
  | .imf n g => ∀ j, j < n → (g j).imm = true
  | _ => True
def Row.set (r : Row) (i : Nat) (v : AV) (K : Row → Prop) : Prop :=
  match r, v with
  | .ints k l, .int k' n => need (decide (k' = k)) (K (.ints k (l.set i n)))
  | .strs l, .str s => K (.strs (l.set i s))
  | .bools l, .bool b => K (.bools (l.set i b))
  | .imms l, v => need v.imm (K (.imms (l.set i v)))
  | .vals l, v => K (.vals (l.set i v))
  | .imf n g, v => need v.imm (K (.imf n fun j => bif Nat.beq j i then v else g j))
  | _, _ => False
/-- A row of elements of esz cells; 'ro': written no more; 'mb': maybe there is no such block (the nil slice, if there are no elements). -/
structure MObj where
  esz : Nat
  ety : TypeId
  row : Row
  ro : Bool
  mb : Bool
  deriving Inhabited
abbrev Store := List (Option MObj)

/-- What an object's element is, without references into the store. -/
def snapRow (mb : Bool) : Row → Nat → Option AV
  | .ints k l, n => some (.sl (bif mb then none else some false) n fun j => .int k (l.getD j 0))
  | .strs l, n => some (.sl (bif mb then none else some false) n fun j => .str (l.getD j ByteArray.empty))
  | .bools l, n => some (.sl (bif mb then none else some false) n fun j => .bool (l.getD j false))
  | .imms l, n => some (.sl (bif mb then none else some false) n fun j => l.getD j .unk)
  | .vals l, n => bif immL l then some (.sl (bif mb then none else some false) n fun j => l.getD j .unk) else none
  | .imf _ g, n => some (.sl (bif mb then none else some false) n g)
def optMap (f : AV → Option AV) : List AV → Option (List AV)
  | [] => some []
  | v :: vs =>
    match f v, optMap f vs with
    | some v', some vs' => some (v' :: vs')
    | _, _ => none
/-- A value as it now reads, without references into the store. -/
def snap : Nat → Store → AV → Option AV
  | 0, _, _ => none
  | d + 1, s, v =>
    match v with
    | .ms id n =>
      match s[id]? with
      | some (some o) =>
        match o.row with
        | .vals l => (optMap (snap d s) l).map fun l' => .sl (bif o.mb then none else some false) n fun j => l'.getD j .unk
        | row => snapRow o.mb row n
      | _ => none
    | .mso _ _ _ => none
    | .mpn _ _ _ _ => none
    | .sd _ _ => none
    | .mp id i off =>
      match s[id]? with
      | some (some o) => (snap d s (o.row.get i)).map fun e => .ip e off
      | _ => none
    | .agg cs => (optMap (snap d s) cs).map .agg
    | .tup vs => (optMap (snap d s) vs).map .tup
    | .iface t v => (snap d s v).map (.iface t)
    | .fn f a b =>
      match optMap (snap d s) a, optMap (snap d s) b with
      | some a', some b' => some (.fn f a' b')
      | _, _ => none
    | v => some v
/-- The objects that a snapshot of a value leads to. -/
def snapIds : Nat → Store → AV → List Nat
  | 0, _, _ => []
  | d + 1, s, v =>
    match v with
    | .ms id _ => id :: (match s[id]? with | some (some o) => (match o.row with | .vals l => l.flatMap (snapIds d s) | _ => []) | _ => [])
    | .mp id i _ => id :: (match s[id]? with | some (some o) => snapIds d s (o.row.get i) | _ => [])
    | .agg cs => cs.flatMap (snapIds d s)
    | .tup vs => vs.flatMap (snapIds d s)
    | .iface _ v => snapIds d s v
    | .fn _ a b => a.flatMap (snapIds d s) ++ b.flatMap (snapIds d s)
    | _ => []
/-- These objects are written no more. -/
def roAll (s : Store) : List Nat → Store
  | [] => s
  | i :: is => roAll (match s[i]? with | some (some o) => s.set i (some { o with ro := true }) | _ => s) is

/-! ### Constants and operands -/
def ofConst : Value → AV
  | .bool b => .bool b
  | .int k n => .int k n
  | .string s => .str s
  | .pointer none => .nilp
  | .pointer (some a) => .adr a
  | .slice none 0 0 => .sl (some true) 0 fun _ => .unk
  | .nilFunc => .nilf
  | .nilIface => .nili
  | _ => .unk
structure Fr where
  t : List AV
  s : Store
  deriving Inhabited
def evalT (t : List AV) : Operand → AV
  | .tmp i => t.getD i .unk
  | .const v => ofConst v
  | .global g => .adr ⟨g, 0, none⟩
  | .func f => .fn (.func f) [] []
def putT (t : List AV) : Option Tmp → AV → List AV
  | some d, v => t.set d v
  | none, _ => t

/-! ### Types -/
/-- A struct or an array? -/
def isAggD : TypeDesc → Bool
  | .struct _ => true
  | .array _ _ => true
  | _ => false
def AV.storable : AV → Bool
  | .unk | .tup _ => false
  | _ => true
/-- The zero value of a type. -/
def zeroAV (P : PL) (t : TypeId) : Option AV :=
  match (P.info? t).bind (·.zero) with
  | some (.agg cs) => bif cs.toList.all Value.oneCell' then some (.agg (cs.toList.map ofConst)) else none
  | some v => bif (ofConst v).storable then some (ofConst v) else none
  | none => none
def intsOf (k : IntKind) : List AV → Option (List Int)
  | [] => some []
  | .int k' n :: vs => match decide (k' = k), intsOf k vs with | true, some l => some (n :: l) | _, _ => none
  | _ :: _ => none
def strsOf : List AV → Option (List ByteArray)
  | [] => some []
  | .str s :: vs => match strsOf vs with | some l => some (s :: l) | _ => none
  | _ :: _ => none
def boolsOf : List AV → Option (List Bool)
  | [] => some []
  | .bool s :: vs => match boolsOf vs with | some l => some (s :: l) | _ => none
  | _ :: _ => none
/-- Elements of a type as a row. -/
def mkRow (P : PL) (e : TypeId) (vs : List AV) : Option Row :=
  match P.underlying e with
  | some (.int k) => (intsOf k vs).map (.ints k)
  | some .string => (strsOf vs).map .strs
  | some .bool => (boolsOf vs).map .bools
  | _ => some (bif immL vs then .imms vs else .vals vs)

/-! ### Operators -/
def intBin (op : BinOp) (k : IntKind) (a b : Int) (K : AV → Prop) : Prop :=
  match op with
  | .add => K (.int k (k.wrap (a + b)))
  | .sub => K (.int k (k.wrap (a - b)))
  | .mul => K (.int k (k.wrap (a * b)))
  | .quo => b ≠ 0 ∧ K (.int k (k.wrap (a.tdiv b)))
  | .rem => b ≠ 0 ∧ K (.int k (a.tmod b))
  | .and => K (.int k (k.wrap (BitVec.ofInt k.bits a &&& BitVec.ofInt k.bits b).toNat))
  | .or => K (.int k (k.wrap (BitVec.ofInt k.bits a ||| BitVec.ofInt k.bits b).toNat))
  | .xor => K (.int k (k.wrap (BitVec.ofInt k.bits a ^^^ BitVec.ofInt k.bits b).toNat))
  | .andNot => K (.int k (k.wrap (BitVec.ofInt k.bits a &&& ~~~ BitVec.ofInt k.bits b).toNat))
  | .eql => K (.bool (a == b))
  | .neq => K (.bool (a != b))
  | .lss => K (.bool (a < b))
  | .leq => K (.bool (a ≤ b))
  | .gtr => K (.bool (a > b))
  | .geq => K (.bool (a ≥ b))
  | _ => False
def shiftBin (op : BinOp) (k : IntKind) (a b : Int) (K : AV → Prop) : Prop :=
  match op with
  | .shl => 0 ≤ b ∧ K (.int k (k.wrap (a * 2 ^ (min b.toNat k.bits))))
  | .shr => 0 ≤ b ∧ K (.int k (a.fdiv (2 ^ (min b.toNat k.bits))))
  | _ => False
def strBin (op : BinOp) (x y : ByteArray) (K : AV → Prop) : Prop :=
  match op with
  | .add => x.size + y.size ≤ 9223372036854775807 ∧ K (.str (x ++ y))
  | .eql => K (.bool (x.toList == y.toList))
  | .neq => K (.bool !(x.toList == y.toList))
  | .lss => K (.bool (Op.bytesLess x.toList y.toList))
  | .leq => K (.bool (Op.bytesLess x.toList y.toList || x.toList == y.toList))
  | .gtr => K (.bool !(Op.bytesLess x.toList y.toList || x.toList == y.toList))
  | .geq => K (.bool !Op.bytesLess x.toList y.toList)
  | _ => False
def eqNeq (op : BinOp) (b : Bool) (K : AV → Prop) : Prop :=
  match op with
  | .eql => K (.bool b)
  | .neq => K (.bool !b)
  | _ => False
def isShift : BinOp → Bool
  | .shl | .shr => true
  | _ => false
def isConstOp : Operand → Bool
  | .const _ => true
  | _ => false
/-- Is an operator's operand of a type by which the code compares with nil? -/
def binQ (P : PL) (op : BinOp) (t : TypeId) (isc : Bool) (x y : AV) (K : AV → Prop) : Prop :=
  match x, y with
  | .int k a, .int k' b =>
    match isShift op with
    | true => shiftBin op k a b K
    | false => need (decide (k = k')) (intBin op k a b K)
  | .str a, .str b => strBin op a b K
  | .bool a, .bool b => (match P.underlying t with | some .bool => eqNeq op (a == b) K | _ => False)
  | .sl (some nl) _ _, .sl (some true) 0 _ => (match P.underlying t with | some (.slice _) => eqNeq op nl K | _ => False)
  | .aggi k l, .aggi k' l' =>
    (match P.underlying t with
    | some (.array n e) => need (decide (k = k') && (P.cellsOf e == 1 && (match P.underlying e with | some (.int _) => true | _ => false)) && (l.length == n && l'.length == n) && !P.eqGuardType P.depth t) (eqNeq op (l == l') K)
    | _ => False)
  | .nili, .nili => need isc (match P.underlying t with | some (.interface _) => eqNeq op true K | _ => False)
  | .iface _ _, .nili => (match P.underlying t with | some (.interface _) => eqNeq op false K | _ => False)
  | .err e, .nili => need isc (match P.underlying t with | some (.interface _) => eqNeq op e.isNil K | _ => False)
  | .nilf, .nilf => (match P.underlying t with | some (.func _ _ _) => eqNeq op true K | _ => False)
  | .fn _ _ _, .nilf => (match P.underlying t with | some (.func _ _ _) => eqNeq op false K | _ => False)
  | .nilp, .nilp => (match P.underlying t with | some (.pointer _) => eqNeq op true K | _ => False)
  | .adr _, .nilp => (match P.underlying t with | some (.pointer _) => eqNeq op false K | _ => False)
  | .ip _ _, .nilp => (match P.underlying t with | some (.pointer _) => eqNeq op false K | _ => False)
  | .mp _ _ _, .nilp => (match P.underlying t with | some (.pointer _) => eqNeq op false K | _ => False)
  | .mpn _ _ _ b, .nilp => (match P.underlying t with | some (.pointer _) => eqNeq op (!b) K | _ => False)
  | .mpn id i off b, .mp id' i' off' => need (Nat.beq id id' && (Nat.beq i i' && Nat.beq off off')) (match P.underlying t with | some (.pointer te) => need (P.info? te).isSome (eqNeq op b K) | _ => False)
  | .mp id i off, .mp id' i' off' => need (Nat.beq id id' && (Nat.beq i i' && Nat.beq off off')) (match P.underlying t with | some (.pointer te) => need (P.info? te).isSome (eqNeq op true K) | _ => False)
  | _, _ => False
def unQ (op : UnOp) (x : AV) (K : AV → Prop) : Prop :=
  match op, x with
  | .not, .bool b => K (.bool !b)
  | .neg, .int k n => K (.int k (k.wrap (0 - n)))
  | .xor, .int k n => K (.int k (k.wrap (BitVec.ofInt k.bits (if k.signed then -1 else k.max) ^^^ BitVec.ofInt k.bits n).toNat))
  | _, _ => False
/-- A byte of a string. -/
def bt (s : ByteArray) (i : Int) : Int := (s.data.toList.getD i.toNat 0).toNat

/-! ### Memory that is read -/
/-- 'a' cells of a value from 'off' on. -/
def aggOf (e : AV) (off m : Nat) : AV :=
  bif off == 0 && e.ncells == m then
    (match e with | .agg _ | .aggi _ _ => e | e => .agg [e])
  else .agg ((e.cells.drop off).take m)
def loadE (P : PL) (t : TypeId) (e : AV) (off : Nat) (K : AV → Prop) : Prop :=
  match P.underlying t with
  | some d =>
    match isAggD d with
    | true => need (Nat.ble (off + P.cellsOf t) e.ncells) (K (aggOf e off (P.cellsOf t)))
    | false => need (Nat.blt off e.ncells) (K (e.cellAt off))
  | none => False
/-- A whole row as an array's value. -/
def rowAgg : Row → AV
  | .ints k l => .aggi k l
  | .strs l => .agg (l.map .str)
  | .bools l => .agg (l.map .bool)
  | .imms l => .agg (l.flatMap AV.cells)
  | .vals l => .agg (l.flatMap AV.cells)
  | .imf n g => .agg (((List.range n).map g).flatMap AV.cells)
def loadQ (P : PL) (s : Store) (t : TypeId) (a : AV) (K : AV → Prop) : Prop :=
  match a with
  | .ip e off => loadE P t e off K
  | .adr a => (match P.underlying t with | some (.interface _) => need (a.off == 0 && (a.spot.isNone && P.laid.gs.contains a.block)) (K (.err (.sent a.block))) | _ => False)
  | .mp id i off =>
    match s[id]? with
    | some (some o) =>
      match P.underlying t with
      | some (.array n e) =>
        match i == 0 && off == 0 && o.esz == P.cellsOf e && n == o.row.len && P.cellsOf t == n * o.esz with
        | true => need (o.esz == 1) (K (rowAgg o.row))
        | false => loadE P t (o.row.get i) off K
      | _ => loadE P t (o.row.get i) off K
    | _ => False
  | _ => False

/-! ### Memory that is written -/
def storeE (e : AV) (off : Nat) (v : AV) : AV :=
  bif off == 0 && e.ncells == v.ncells then v
  else .agg (e.cells.take off ++ v.cells ++ e.cells.drop (off + v.ncells))
/-- A whole array's value as a row of n elements of esz cells. -/
def aggRow (P : PL) (e : TypeId) (v : AV) : Option Row :=
  match v with
  | .aggi k l => bif P.cellsOf e == 1 then some (.ints k l) else none
  | .agg cs => bif P.cellsOf e == 1 then mkRow P e cs else none
  | _ => none
def storeQ (P : PL) (s : Store) (t : TypeId) (a v : AV) (K : Store → Prop) : Prop :=
  need (v.storable && v.ncells == P.cellsOf t)
    (match a with
    | .mp id i off =>
      match s[id]? with
      | some (some o) =>
        need (!o.ro)
          (match P.underlying t with
          | some (.array n e) =>
            match i == 0 && off == 0 && o.esz == P.cellsOf e && n == o.row.len && P.cellsOf t == n * o.esz, aggRow P e v with
            | true, some row => row.len = o.row.len ∧ K (s.set id (some { o with row := row }))
            | _, _ => False
          | some _ => need (Nat.ble (off + v.ncells) (o.row.get i).ncells) (o.row.set i (storeE (o.row.get i) off v) fun row => K (s.set id (some { o with row := row })))
          | none => False)
      | _ => False
    | _ => False)
/-- Is own memory to be stored into a row of values without references? -/
def storeSnaps (s : Store) (a v : AV) : Bool :=
  match a with
  | .mp id _ _ => (match s[id]? with | some (some o) => (match o.row with | .imf _ _ => !v.imm | .imms _ => !v.imm | _ => false) | _ => false)
  | _ => false
/-- The same, where own memory may be stored as it now reads (and is written no more). -/
def storeAny (P : PL) (s : Store) (t : TypeId) (a v : AV) (K : Store → Prop) : Prop :=
  match storeSnaps s a v with
  | false => storeQ P s t a v K
  | true => (match snap 6 s v with | some v' => storeQ P (roAll s (snapIds 6 s v)) t a v' K | none => False)
/-- A new object of a type: a row of one element; an array: a row of its elements. -/
def newObj (P : PL) (t : TypeId) (v : AV) : Option MObj :=
  match P.underlying t with
  | some (.array n e) => match aggRow P e v with | some row => bif row.len == n && Nat.blt 0 n then some ⟨P.cellsOf e, t, row, false, false⟩ else none | none => none
  | _ => some ⟨v.ncells, t, .vals [v], false, false⟩
/-- A list's spine made plain before the next step. -/
def spine {β : Type} : List AV → (List AV → β) → β
  | [], K => K []
  | x :: xs, K => spine xs fun ys => K (x :: ys)
theorem spine_eq {β : Type} : ∀ (l : List AV) (K : List AV → β), spine l K = K l
  | [], _ => rfl
  | x :: xs, K => by simp only [spine, spine_eq xs]
def fillA (place : Nat → Option (Nat × Nat)) (ev : Operand → AV) (cells : List AV) : List (Nat × Operand) → Option (List AV)
  | [] => some cells
  | (i, x) :: rest =>
    match place i with
    | none => none
    | some (off, size) =>
      bif (ev x).storable && ((ev x).ncells == size && Nat.ble (off + size) cells.length) then
        spine (cells.take off ++ (ev x).cells ++ cells.drop (off + size)) fun cs => fillA place ev cs rest
      else none
def buildQ (P : PL) (ev : Operand → AV) (t : TypeId) (parts : List (Nat × Operand)) : Option AV :=
  match zeroAV P t with
  | some z =>
    match P.underlying t with
    | some (.struct fs) => bif !(fs.toList.all fun f => Nat.blt 0 (P.cellsOf f.type)) then none else (fillA (fun i => (fs[i]?).map fun f => (f.offset, P.cellsOf f.type)) ev z.cells parts).map .agg
    | some (.array _ e) => bif !Nat.blt 0 (P.cellsOf e) then none else (fillA (fun i => some (i * P.cellsOf e, P.cellsOf e)) ev z.cells parts).map fun cs =>
        match P.underlying e with
        | some (.int k) => (match intsOf k cs with | some l => .aggi k l | none => .agg cs)
        | _ => .agg cs
    | _ => none
  | none => none
/-- The parts of a slice's literal, one an element, in order. -/
def litElems (ev : Operand → AV) (size : Nat) : Nat → List (Nat × Operand) → Option (List AV)
  | _, [] => some []
  | i, (j, x) :: rest =>
    bif j == i && ((ev x).storable && (ev x).ncells == size) then
      match litElems ev size (i + 1) rest with
      | some l => some (ev x :: l)
      | none => none
    else none
/-- n zero elements of a type. -/
def zeroRow (P : PL) (e : TypeId) (n : Nat) : Option Row :=
  match zeroAV P e with
  | some z =>
    bif z.imm && z.storable && z.ncells == P.cellsOf e then
      match z with
      | .int k 0 => some (.ints k (List.replicate n 0))
      | .bool false => some (.bools (List.replicate n false))
      | .str s => bif s.data.toList.isEmpty then some (.strs (List.replicate n ByteArray.empty)) else none
      | z => some (.imf n fun _ => z)
    else none
  | none => none
/-- These objects are written no more. -/
def allRo (s : Store) (ids : List Nat) : Prop := ∀ id ∈ ids, ∀ o, s[id]? = some (some o) → o.ro = true
/-- An element as it is, or as it now reads (what it leads to being written no more). -/
def ElemOf (s : Store) (x y : AV) : Prop := y = x ∨ (snap 6 s x = some y ∧ allRo s (snapIds 6 s x))
/-- What is appended, as a row: 'r' is the row of the first n elements of a value. -/
def RowOf (s : Store) (x : AV) (n : Nat) (r : Row) : Prop :=
  r.len = n ∧ match x with
  | .sl _ m get => m = n ∧ ∀ j, j < n → r.get j = get j
  | .ms id m => m = n ∧ ∃ o, s[id]? = some (some o) ∧ n ≤ o.row.len ∧ ∀ j, j < n → ElemOf s (o.row.get j) (r.get j)
  | .mso id off m => m = n ∧ ∃ o, s[id]? = some (some o) ∧ off + n ≤ o.row.len ∧ ∀ j, j < n → r.get j = o.row.get (off + j)
  | _ => False
def rowCat (r : Row) (n : Nat) (r2 : Row) (K : Row → Prop) : Prop :=
  match r, r2 with
  | .ints k l, .ints k' l2 => need (decide (k = k')) (K (.ints k (l.take n ++ l2)))
  | .strs l, .strs l2 => K (.strs (l.take n ++ l2))
  | .bools l, .bools l2 => K (.bools (l.take n ++ l2))
  | .imms l, .imms l2 => K (.imms (l.take n ++ l2))
  | .vals l, .vals l2 => K (.vals (l.take n ++ l2))
  | .imf _ g, .imf n2 g2 => K (.imf (n + n2) fun j => bif Nat.blt j n then g j else g2 (j - n))
  | _, _ => False

/-! ### What an abstract value stands for -/
/-- An object's place: its block, an element's cells, how many elements, the block's cells, its element type. -/
structure CxE where
  b : Nat
  esz : Nat
  len : Nat
  tot : Nat
  isnil : Bool
abbrev Cx := List CxE
/-- The blocks that may still be written. -/
def Wr (cx : Cx) (s : Store) (b : Nat) : Prop := ∃ (i : Nat) (e : CxE) (o : MObj), cx[i]? = some e ∧ s[i]? = some (some o) ∧ o.ro = false ∧ e.isnil = false ∧ e.b = b
/-- The blocks that no value of the kind 'sl', 'ip' leads to. -/
def Av (V : Nat → Prop) (cx : Cx) (s : Store) (b : Nat) : Prop := V b ∨ Wr cx s b

/-- A block of cells. -/
def Cel (w : World) (b : Nat) : Prop := ∃ cur t fz, w.heap[b]? = some (.cells cur t fz)
theorem Cel.lt {w : World} {b : Nat} (h : Cel w b) : b < w.heap.size := by
  obtain ⟨_, _, _, h⟩ := h
  exact (Array.getElem?_eq_some_iff.1 h).1
theorem Cel.keep {w w' : World} {b : Nat} (h : Cel w b) (hk : w'.heap[b]? = w.heap[b]?) : Cel w' b := by
  obtain ⟨c, t, f, h⟩ := h
  exact ⟨c, t, f, hk.trans h⟩
theorem Cel.of_cell {w : World} {b j : Nat} {v : Value} (h : w.cell? ⟨b, j, none⟩ = some v) : Cel w b := by
  unfold World.cell? at h
  simp only at h
  split at h
  · rename_i c t f hh; exact ⟨c, t, f, hh⟩
  · cases h
inductive Rel (w : World) (cx : Cx) (A : Nat → Prop) : AV → Value → Prop
  | unk (v : Value) : Rel w cx A .unk v
  | bool (b : Bool) : Rel w cx A (.bool b) (.bool b)
  | int (k : IntKind) (n : Int) : Rel w cx A (.int k n) (.int k n)
  | str (s : ByteArray) : Rel w cx A (.str s) (.string s)
  | nilp : Rel w cx A .nilp (.pointer none)
  | nilf : Rel w cx A .nilf .nilFunc
  | nili : Rel w cx A .nili .nilIface
  | mapr (b : Nat) : Rel w cx A (.mapr b) (.map (some b))
  | adr (a : Addr) : Rel w cx A (.adr a) (.pointer (some a))
  | sl (isnil : Option Bool) (n : Nat) (get : Nat → AV) (a : Option Addr) (cap esz : Nat) (vals : Nat → Nat → Value) (hnil : ∀ b, isnil = some b → a.isNone = b) (hcap : n ≤ cap) (hmax : cap ≤ maxLen) (hz : a = none → cap = 0)
      (hmem : 0 < n → ∃ b off, a = some ⟨b, off, none⟩ ∧ ¬ A b ∧ Cel w b ∧ ∀ (j c : Nat) (x : AV), j < n → (get j).cells[c]? = some x → w.cell? ⟨b, off + (j * esz + c), none⟩ = some (vals j c) ∧ (vals j c).oneCell' = true)
      (himm : ∀ j, j < n → (get j).imm = true ∧ (get j).ncells = esz)
      (hrel : ∀ (j c : Nat) (x : AV), j < n → (get j).cells[c]? = some x → Rel w cx A x (vals j c)) : Rel w cx A (.sl isnil n get) (.slice a n cap)
  | ip (e : AV) (off b o : Nat) (vals : Nat → Value) (himm : e.imm = true) (hA : ¬ A b) (hb : Cel w b)
      (hmem : ∀ (c : Nat) (x : AV), e.cells[c]? = some x → w.cell? ⟨b, o + c, none⟩ = some (vals c) ∧ (vals c).oneCell' = true)
      (hrel : ∀ (c : Nat) (x : AV), e.cells[c]? = some x → Rel w cx A x (vals c)) : Rel w cx A (.ip e off) (.pointer (some ⟨b, o + off, none⟩))
  | ms (id n cap : Nat) (e : CxE) (he : cx[id]? = some e) (hnn : e.isnil = false) (hn : n ≤ e.len) (hcap : n ≤ cap) (htot : cap * e.esz = e.tot) (hmax : cap ≤ maxLen) : Rel w cx A (.ms id n) (.slice (some ⟨e.b, 0, none⟩) n cap)
  | ms0 (id : Nat) (e : CxE) (he : cx[id]? = some e) (hnn : e.isnil = true) : Rel w cx A (.ms id 0) (.slice none 0 0)
  | mso (id off n cap o : Nat) (e : CxE) (he : cx[id]? = some e) (hnn : e.isnil = false) (hn : off + n ≤ e.len) (hcap : n ≤ cap) (hoff : 0 < cap → o = off * e.esz) (hmax : cap ≤ maxLen) : Rel w cx A (.mso id off n) (.slice (some ⟨e.b, o, none⟩) n cap)
  | mso0 (id : Nat) (e : CxE) (he : cx[id]? = some e) (hnn : e.isnil = true) : Rel w cx A (.mso id 0 0) (.slice none 0 0)
  | mp (id i off : Nat) (e : CxE) (he : cx[id]? = some e) (hnn : e.isnil = false) (hi : i < e.len) : Rel w cx A (.mp id i off) (.pointer (some ⟨e.b, i * e.esz + off, none⟩))
  | mpn0 (id i off : Nat) : Rel w cx A (.mpn id i off false) (.pointer none)
  | mpn1 (id i off : Nat) (e : CxE) (he : cx[id]? = some e) (hnn : e.isnil = false) (hi : i < e.len) : Rel w cx A (.mpn id i off true) (.pointer (some ⟨e.b, i * e.esz + off, none⟩))
  | sd (id n : Nat) (a : Option Addr) (h : 0 < n → ∃ e, cx[id]? = some e ∧ e.isnil = false ∧ n ≤ e.len ∧ a = some ⟨e.b, 0, none⟩) : Rel w cx A (.sd id n) (.pointer a)
  | agg (cs : List AV) (vs : List Value) (hl : cs.length = vs.length) (h1 : ∀ v ∈ vs, v.oneCell' = true)
      (hrel : ∀ (c : Nat) (x : AV) (v : Value), cs[c]? = some x → vs[c]? = some v → Rel w cx A x v) : Rel w cx A (.agg cs) (.agg vs.toArray)
  | aggi (k : IntKind) (l : List Int) : Rel w cx A (.aggi k l) (.agg (l.map (Value.int k)).toArray)
  | tup (cs : List AV) (vs : List Value) (hl : cs.length = vs.length)
      (hrel : ∀ (c : Nat) (x : AV) (v : Value), cs[c]? = some x → vs[c]? = some v → Rel w cx A x v) : Rel w cx A (.tup cs) (.tuple vs.toArray)
  | fn (f : Fn) (first cap : List AV) (first' cap' : List Value) (hl : first.length = first'.length) (hl' : cap.length = cap'.length)
      (hrel : ∀ (c : Nat) (x : AV) (v : Value), first[c]? = some x → first'[c]? = some v → Rel w cx A x v)
      (hrel' : ∀ (c : Nat) (x : AV) (v : Value), cap[c]? = some x → cap'[c]? = some v → Rel w cx A x v) : Rel w cx A (.fn f first cap) (.func f first'.toArray cap'.toArray)
  | iface (t : TypeId) (x : AV) (v : Value) (hrel : Rel w cx A x v) : Rel w cx A (.iface t x) (.iface t v)
  | err0 : Rel w cx A (.err .nil) .nilIface
  | errS (g : Nat) (t : TypeId) (a : Addr) (hA : ¬ A g) (hb : g < w.heap.size) (hm : w.cell? ⟨g, 0, none⟩ = some (.iface t (.pointer (some a)))) : Rel w cx A (.err (.sent g)) (.iface t (.pointer (some a)))
  | errB (t : TypeId) (n : Int) (e : Er) (b o : Nat) (v : Value) (hA : ¬ A b) (hb : b < w.heap.size) (h0 : w.cell? ⟨b, o, none⟩ = some (.int .i64 n)) (h1 : w.cell? ⟨b, o + 1, none⟩ = some v) (hrel : Rel w cx A (.err e) v) :
      Rel w cx A (.err (.box t n e)) (.iface t (.pointer (some ⟨b, o, none⟩)))

/-- What start-up code lays lies there, and is written no more. -/
structure Glob (L : Laid) (w : World) (A : Nat → Prop) : Prop where
  sent : ∀ g, g ∈ L.gs → ¬ A g ∧ g < w.heap.size ∧ ∃ a, w.cell? ⟨g, 0, none⟩ = some (.iface L.te (.pointer (some a))) ∧ ¬ A a.block ∧ ∃ cur t, w.heap[a.block]? = some (.cells cur t (0, 0))
  apart : ∀ g g' a, g ∈ L.gs → g' ∈ L.gs → w.cell? ⟨g, 0, none⟩ = some (.iface L.te (.pointer (some a))) → w.cell? ⟨g', 0, none⟩ = some (.iface L.te (.pointer (some a))) → g = g'
  cst : ∀ x, x ∈ L.cs → ¬ A x.1 ∧ x.1 < w.heap.size ∧ w.cell? ⟨x.1, 0, none⟩ = some x.2

structure RelObj (w : World) (cx : Cx) (A : Nat → Prop) (e : CxE) (o : MObj) (cur : Array Value) : Prop where
  hp : ∃ fz, w.heap[e.b]? = some (.cells cur o.ety fz) ∧ (o.ro = false → fz = (0, 0))
  tot : cur.size = e.tot
  esz : e.esz = o.esz
  len : e.len = o.row.len
  ok : o.row.ok
  fits : e.len * e.esz ≤ e.tot
  size : ∀ (i : Nat), i < e.len → (o.row.get i).ncells = o.esz
  cells : ∀ (i c : Nat) (x : AV), i < e.len → (o.row.get i).cells[c]? = some x → ∃ v, cur[i * e.esz + c]? = some v ∧ v.oneCell' = true ∧ Rel w cx A x v
theorem RelObj.heap {w : World} {cx : Cx} {A : Nat → Prop} {e : CxE} {o : MObj} {cur : Array Value} (R : RelObj w cx A e o cur) (hr : o.ro = false) : w.heap[e.b]? = some (.cells cur o.ety (0, 0)) := by
  obtain ⟨fz, h, h'⟩ := R.hp
  rw [h' hr] at h
  exact h
theorem RelObj.lt {w : World} {cx : Cx} {A : Nat → Prop} {e : CxE} {o : MObj} {cur : Array Value} (R : RelObj w cx A e o cur) : e.b < w.heap.size := by
  obtain ⟨fz, h, _⟩ := R.hp
  exact (Array.getElem?_eq_some_iff.1 h).1
theorem RelObj.cel {w : World} {cx : Cx} {A : Nat → Prop} {e : CxE} {o : MObj} {cur : Array Value} (R : RelObj w cx A e o cur) : Cel w e.b := by
  obtain ⟨fz, h, _⟩ := R.hp
  exact ⟨cur, _, fz, h⟩
theorem RelObj.shape {w : World} {cx : Cx} {A : Nat → Prop} {e : CxE} {o : MObj} {cur : Array Value} (R : RelObj w cx A e o cur) : w.shape? e.b = some (o.ety, cur.size) := by
  obtain ⟨fz, h, _⟩ := R.hp
  simp [World.shape?, h]
theorem RelObj.cell {w : World} {cx : Cx} {A : Nat → Prop} {e : CxE} {o : MObj} {cur : Array Value} (R : RelObj w cx A e o cur) (j : Nat) : w.cell? ⟨e.b, j, none⟩ = cur[j]? := by
  obtain ⟨fz, h, _⟩ := R.hp
  simp [World.cell?, h]
structure RelSt (L : Laid) (V : Nat → Prop) (w : World) (cx : Cx) (s : Store) : Prop where
  low : ∀ b, V b → b < w.heap.size
  len : cx.length = s.length
  obj : ∀ (i : Nat) (e : CxE) (o : MObj), cx[i]? = some e → s[i]? = some (some o) → e.isnil = false → ∃ cur, RelObj w cx (Av V cx s) e o cur
  vir : ∀ (i : Nat) (e : CxE) (o : MObj), cx[i]? = some e → s[i]? = some (some o) → e.isnil = true → o.row.len = 0 ∧ o.row.ok ∧ o.mb = true ∧ o.esz = e.esz
  may : ∀ (i : Nat) (e : CxE) (o : MObj), cx[i]? = some e → s[i]? = some (some o) → o.mb = false → e.isnil = false
  apart : ∀ (i : Nat) (e : CxE) (o : MObj), cx[i]? = some e → s[i]? = some (some o) → e.isnil = false → ¬ V e.b
  inj : ∀ (i j : Nat) (ei ej : CxE) (oi oj : MObj), cx[i]? = some ei → cx[j]? = some ej → s[i]? = some (some oi) → s[j]? = some (some oj) → ei.isnil = false → ej.isnil = false → i ≠ j → (oi.ro = false ∨ oj.ro = false) → ei.b ≠ ej.b
  glob : Glob L w (Av V cx s)
/-- What a step may do to the world; objects below number m keep their places. -/
structure Ext (m : Nat) (V : Nat → Prop) (w w' : World) (cx cx' : Cx) (s s' : Store) : Prop where
  os : w'.os = w.os
  tape : w'.tape = w.tape
  output : w'.output = w.output
  size : w.heap.size ≤ w'.heap.size
  keep : ∀ b, b < w.heap.size → ¬ Wr cx s b → w'.heap[b]? = w.heap[b]?
  now : ∀ b, b < w.heap.size → ¬ Av V cx s b → ¬ Av V cx' s' b
  grow : ∀ b, b < w.heap.size → ¬ Wr cx s b → ¬ Wr cx' s' b
  cx : ∀ (i : Nat) (e : CxE), i < m → cx[i]? = some e → cx'[i]? = some e

/-- 'Called with such arguments, over such objects, function f hands back r, and leaves these objects.' -/
def Contract (P : PL) (f : FuncId) (args : List AV) (objs : Store) (r : AV) (objs' : Store) : Prop :=
  (∃ fn, P.funcs[f]? = some fn ∧ fn.body.isNone = false ∧ (fn.name == "runtime.NumGoroutine") = false) ∧
  ∀ (V : Nat → Prop) (w : World) (cx : Cx) (vs : List Value), RelSt P.laid V w cx objs → args.length = vs.length →
    (∀ (i : Nat) (x : AV) (v : Value), args[i]? = some x → vs[i]? = some v → Rel w cx (Av V cx objs) x v) →
    Calls P f vs.toArray w fun e w' => ∃ v cx', e = .returned v ∧ Ext objs.length V w w' cx cx' objs objs' ∧ RelSt P.laid V w' cx' objs' ∧ Rel w' cx' (Av V cx' objs') r v

/-- The same, but of the objects that come in the first m alone keep their places. -/
def ContractM (m : Nat) (P : PL) (f : FuncId) (args : List AV) (objs : Store) (r : AV) (objs' : Store) : Prop :=
  (∃ fn, P.funcs[f]? = some fn ∧ fn.body.isNone = false ∧ (fn.name == "runtime.NumGoroutine") = false) ∧
  ∀ (V : Nat → Prop) (w : World) (cx : Cx) (vs : List Value), RelSt P.laid V w cx objs → args.length = vs.length →
    (∀ (i : Nat) (x : AV) (v : Value), args[i]? = some x → vs[i]? = some v → Rel w cx (Av V cx objs) x v) →
    Calls P f vs.toArray w fun e w' => ∃ v cx', e = .returned v ∧ Ext m V w w' cx cx' objs objs' ∧ RelSt P.laid V w' cx' objs' ∧ Rel w' cx' (Av V cx' objs') r v

/-! ### Calls and builtins -/
/-- The callee sees values alone. -/
def callPure (P : PL) (g : FuncId) (args : List AV) (s : Store) (K : AV → Store → Prop) : Prop :=
  match optMap (snap 6 s) args with
  | some args' => ∃ r, Contract P g args' [] r [] ∧ r.imm = true ∧ K r (bif r.scalar then s else roAll s (args.flatMap (snapIds 6 s)))
  | none => False
/-- The callee is given objects of ours. -/
def callOwn (P : PL) (g : FuncId) (args : List AV) (s : Store) (K : AV → Store → Prop) : Prop :=
  ∃ r s', Contract P g args s r s' ∧ K r s'
def callAny (P : PL) (g : FuncId) (args : List AV) (s : Store) (K : AV → Store → Prop) : Prop :=
  match optMap (snap 6 s) args with
  | some args' => (∃ r, Contract P g args' [] r [] ∧ r.imm = true ∧ K r (bif r.scalar then s else roAll s (args.flatMap (snapIds 6 s)))) ∨ callOwn P g args s K
  | none => callOwn P g args s K
mutual
def AV.ren (f : Nat → Nat) : AV → AV
  | .ms id n => .ms (f id) n
  | .mso id off n => .mso (f id) off n
  | .mp id i off => .mp (f id) i off
  | .mpn id i off b => .mpn (f id) i off b
  | .sd id n => .sd (f id) n
  | .agg cs => .agg (renL f cs)
  | .tup cs => .tup (renL f cs)
  | .fn g a b => .fn g (renL f a) (renL f b)
  | .iface t v => .iface t (v.ren f)
  | v => v
def renL (f : Nat → Nat) : List AV → List AV
  | [] => []
  | v :: vs => v.ren f :: renL f vs
end
mutual
/-- All references of a value fulfil p. -/
def AV.refs (p : Nat → Bool) : AV → Bool
  | .ms id _ => p id
  | .mso id _ _ => p id
  | .mp id _ _ => p id
  | .mpn id _ _ _ => p id
  | .sd id _ => p id
  | .agg cs => refsL p cs
  | .tup cs => refsL p cs
  | .fn g a b => refsL p a && refsL p b
  | .iface t v => v.refs p
  | _ => true
def refsL (p : Nat → Bool) : List AV → Bool
  | [] => true
  | v :: vs => v.refs p && refsL p vs
end
def Row.ren (f : Nat → Nat) : Row → Row
  | .vals l => .vals (renL f l)
  | r => r
def Row.refs (p : Nat → Bool) : Row → Bool
  | .vals l => refsL p l
  | _ => true
def okRefs (p : Nat → Bool) : Store → Bool
  | [] => true
  | some o :: os => o.row.refs p && okRefs p os
  | none :: os => okRefs p os
/-- append(x0, x1...) at slice type t; 'ids': objects that are written no more from here on. -/
def appendQ (P : PL) (s0 : Store) (ts : List TypeId) (x0 x1 : AV) (K : AV → Store → Prop) : Prop :=
  match ts with
  | [t, t'] =>
    match P.underlying t with
    | some (.slice e) =>
      need (t == t' && Nat.blt 0 (P.cellsOf e) && (match zeroAV P e with | some z => z.ncells == P.cellsOf e | none => false))
      (∃ ids n r2, RowOf (roAll s0 ids) x1 n r2 ∧ r2.ok ∧ (∀ j, j < n → (r2.get j).ncells = P.cellsOf e) ∧
        match x0 with
        | .sl (some true) 0 _ => n * P.bytesOf e ≤ 140737488355328 ∧ n ≤ 9223372036854775807 ∧ K (.ms s0.length n) (roAll s0 ids ++ [some ⟨P.cellsOf e, e, r2, false, true⟩])
        | .ms id n0 =>
          match (roAll s0 ids)[id]? with
          | some (some o) =>
            need (!o.ro && o.ety == e && o.esz == P.cellsOf e)
              (n0 ≤ o.row.len ∧ (n0 + n) * P.bytesOf e ≤ 140737488355328 ∧ n0 + n ≤ 9223372036854775807 ∧
                rowCat o.row n0 r2 fun row => K (.ms s0.length (n0 + n)) ((roAll s0 ids).set id none ++ [some { o with row := row }]))
          | _ => False
        | _ => False)
    | _ => False
  | _ => False
/-- A text's bytes. -/
def numsOf (s : ByteArray) : List Int := s.data.toList.map fun b => (b.toNat : Int)
def appendStrQ (P : PL) (s : Store) (ts : List TypeId) (x0 : AV) (b : ByteArray) (K : AV → Store → Prop) : Prop :=
  match ts with
  | [t, t'] =>
    match P.underlying t, P.underlying t' with
    | some (.slice e), some .string =>
      need (P.cellsOf e == 1 && P.bytesOf e == 1 && (match zeroAV P e with | some (.int .u8 z) => decide (z = 0) | _ => false))
        (match x0 with
        | .sl (some true) 0 _ => b.size ≤ 140737488355328 ∧ K (.ms s.length b.size) (s ++ [some ⟨1, e, .ints .u8 (numsOf b), false, true⟩])
        | .ms id n0 =>
          match s[id]? with
          | some (some o) =>
            need (!o.ro && o.ety == e && o.esz == 1)
              (n0 ≤ o.row.len ∧ n0 + b.size ≤ 140737488355328 ∧ rowCat o.row n0 (.ints .u8 (numsOf b)) fun row => K (.ms s.length (n0 + b.size)) (s.set id none ++ [some { o with row := row }]))
          | _ => False
        | _ => False)
    | _, _ => False
  | _ => False
/-- The first k elements of the second laid over the first. -/
def rowOver (k : Nat) (r r2 : Row) (K : Row → Prop) : Prop :=
  match r, r2 with
  | .ints q l, .ints q' l2 => need (decide (q = q')) (K (.ints q (l2.take k ++ l.drop k)))
  | .strs l, .strs l2 => K (.strs (l2.take k ++ l.drop k))
  | .bools l, .bools l2 => K (.bools (l2.take k ++ l.drop k))
  | .imf n g, .imf _ g2 => K (.imf n fun j => bif Nat.blt j k then g2 j else g j)
  | _, _ => False
def copyQ (P : PL) (s : Store) (ts : List TypeId) (x0 x1 : AV) (K : AV → Store → Prop) : Prop :=
  match ts with
  | [t, _] =>
    match P.underlying t with
    | some (.slice e) =>
      match x0 with
      | .ms id n0 =>
        match s[id]? with
        | some (some o) =>
          need (!o.ro && o.esz == P.cellsOf e && Nat.blt 0 (P.cellsOf e) && !o.mb)
            (n0 ≤ o.row.len ∧ ∃ n r2, RowOf s x1 n r2 ∧ r2.ok ∧ (∀ j, j < n → (r2.get j).ncells = P.cellsOf e) ∧
              rowOver (min n n0) o.row r2 fun row => K (.int .i64 ((min n n0 : Nat) : Int)) (s.set id (some { o with row := row })))
        | _ => False
      | _ => False
    | _ => False
  | _ => False
def clearQ (P : PL) (s : Store) (ts : List TypeId) (x : AV) (K : AV → Store → Prop) : Prop :=
  match ts with
  | [t] =>
    match P.underlying t with
    | some (.slice e) =>
      match x with
      | .mso id off n =>
        match s[id]? with
        | some (some o) =>
          match o.row with
          | .ints k l =>
            need (!o.ro && o.esz == 1 && P.cellsOf e == 1 && (match zeroAV P e with | some (.int k' z) => decide (k = k') && decide (z = 0) | _ => false))
              (off + n ≤ l.length ∧ K .unk (s.set id (some { o with row := .ints k (l.take off ++ (List.replicate n 0 ++ l.drop (off + n))) })))
          | _ => False
        | _ => False
      | _ => False
    | _ => False
  | _ => False
def lenQ (P : PL) (s : Store) (ts : List TypeId) (x : AV) (K : AV → Prop) : Prop :=
  match ts with
  | [t] =>
    match P.underlying t, x with
    | some .string, .str b => K (.int .i64 b.size)
    | some (.slice _), .sl _ n _ => K (.int .i64 n)
    | some (.slice _), .ms _ n => K (.int .i64 n)
    | some (.slice _), .mso _ _ n => K (.int .i64 n)
    | some (.array n _), _ => K (.int .i64 n)
    | _, _ => False
  | _ => False
def intMinMax (mx : Bool) : List AV → Option (IntKind × Int)
  | [.int k a] => some (k, a)
  | .int k a :: vs =>
    match intMinMax mx vs with
    | some (k', b) => match decide (k = k') with | true => some (k, bif mx then max a b else min a b) | false => none
    | none => none
  | _ => none
/-- Where own memory begins, as unsafe.SliceData tells it. -/
def dataQ (P : PL) (s : Store) (ty : TypeId) (x : AV) (K : AV → Prop) : Prop :=
  match x with
  | .ms id n => (match s[id]?, P.underlying ty with | some (some o), some (.pointer _) => n ≤ o.row.len ∧ K (.sd id n) | _, _ => False)
  | _ => False
/-- Bytes of own memory as a text; they are written no more. -/
def textQ (P : PL) (s : Store) (ts : List TypeId) (x n : AV) (K : AV → Store → Prop) : Prop :=
  match ts, x, n with
  | [pt, _], .sd id n, .int .i64 m =>
    match s[id]?, P.underlying pt with
    | some (some o), some (.pointer e) =>
      need (P.cellsOf e == 1 && (!o.ro && (o.esz == 1 && o.ety == e)))
        (match o.row with
        | .ints .u8 l => m = (n : Int) ∧ n ≤ l.length ∧ n ≤ 9223372036854775807 ∧ K (.str (strOfNums (l.take n))) (s.set id (some { o with ro := true }))
        | _ => False)
    | _, _ => False
  | _, _, _ => False
def builtinQ (P : PL) (s : Store) (ty : TypeId) (b : Builtin) (ts : List TypeId) (args : List AV) (K : AV → Store → Prop) : Prop :=
  match b, args with
  | .len, [x] => lenQ P s ts x fun v => K v s
  | .append, [x0, .str b] => appendStrQ P s ts x0 b K
  | .append, [x0, x1] => appendQ P s ts x0 x1 K
  | .copy, [x0, x1] => copyQ P s ts x0 x1 K
  | .clear, [x] => clearQ P s ts x K
  | .min, [.int k a, .int k' b] => need (decide (k = k')) (K (.int k (min a b)) s)
  | .max, [.int k a, .int k' b] => need (decide (k = k')) (K (.int k (max a b)) s)
  | .unsafeSliceData, [x] => dataQ P s ty x fun v => K v s
  | .unsafeString, [x, n] => textQ P s ts x n K
  | _, _ => False
/-- A function without a body, that hands back what it is given. -/
def Same (P : PL) (g : FuncId) : Prop := ∃ fn, P.funcs[g]? = some fn ∧ (fn.name == "runtime.NumGoroutine") = false ∧ fn.body.isNone = true ∧ (Extern.findNext fn = none) ∧ Extern.find fn = some Extern.AbiNoEscape.same
def bodyless (P : PL) (g : FuncId) : Bool := match P.funcs[g]? with | some fn => fn.body.isNone | none => false
/-- A call of a function whose value is known: its values alone, or with objects of ours. -/
def callQ (P : PL) (s : Store) (f : AV) (args : List AV) (K : AV → Store → Prop) : Prop :=
  match f with
  | .fn (.func g) first cap =>
    match bodyless P g with
    | false => callAny P g (first ++ args ++ cap) s K
    | true => (match first ++ args ++ cap with | [x] => Same P g ∧ K x s | _ => False)
  | _ => False

/-! ### One operation -/
def indexAddrQ (P : PL) (s : Store) (t : TypeId) (x i : AV) (K : AV → Prop) : Prop :=
  match P.underlying t, i with
  | some (.slice e), .int _ i =>
    match x with
    | .sl _ n get => 0 ≤ i ∧ i < n ∧ need ((get i.toNat).ncells == P.cellsOf e && Nat.blt 0 (P.cellsOf e)) (K (.ip (get i.toNat) 0))
    | .ms id n => (match s[id]? with | some (some o) => need (o.esz == P.cellsOf e && Nat.blt 0 (P.cellsOf e)) (0 ≤ i ∧ i < n ∧ K (.mp id i.toNat 0)) | _ => False)
    | .mso id off n => (match s[id]? with | some (some o) => need (o.esz == P.cellsOf e && Nat.blt 0 (P.cellsOf e)) (0 ≤ i ∧ i < n ∧ K (.mp id (off + i.toNat) 0)) | _ => False)
    | _ => False
  | some (.array n e), .int _ i =>
    need (Nat.blt 0 (P.cellsOf e))
    (match x with
    | .ip v off => 0 ≤ i ∧ i < n ∧ K (.ip v (off + i.toNat * P.cellsOf e))
    | .mp id j off =>
      match s[id]? with
      | some (some o) =>
        match j == 0 && off == 0 && o.esz == P.cellsOf e && n == o.row.len && P.cellsOf t == n * o.esz with
        | true => 0 ≤ i ∧ i < n ∧ K (.mp id i.toNat 0)
        | false => 0 ≤ i ∧ i < n ∧ K (.mp id j (off + i.toNat * P.cellsOf e))
      | _ => False
    | _ => False)
  | _, _ => False
def fieldAddrQ (P : PL) (t : TypeId) (x : AV) (f : Nat) (K : AV → Prop) : Prop :=
  match P.underlying t with
  | some (.struct fs) =>
    match fs[f]? with
    | some fd => need (Nat.blt 0 (P.cellsOf fd.type))
      (match x with
      | .ip e off => K (.ip e (off + fd.offset))
      | .mp id i off => K (.mp id i (off + fd.offset))
      | _ => False)
    | none => False
  | _ => False
def fieldQ (P : PL) (t : TypeId) (x : AV) (f : Nat) (K : AV → Prop) : Prop :=
  match P.underlying t with
  | some (.struct fs) =>
    match fs[f]?, x with
    | some fd, .agg cs => loadE P fd.type (.agg cs) fd.offset K
    | _, _ => False
  | _ => False
def indexQ (P : PL) (t : TypeId) (x i : AV) (K : AV → Prop) : Prop :=
  match P.underlying t, x, i with
  | some .string, .str s, .int _ i => 0 ≤ i ∧ i < s.size ∧ K (.int .u8 (bt s i))
  | some (.array n e), .aggi k l, .int _ i => need (P.cellsOf e == 1 && (match P.underlying e with | some d => !isAggD d | none => false)) (0 ≤ i ∧ i < n ∧ i < l.length ∧ K (.int k (l.getD i.toNat 0)))
  | some (.array n e), .agg cs, .int _ i => need (P.cellsOf e == 1 && (match P.underlying e with | some d => !isAggD d | none => false)) (0 ≤ i ∧ i < n ∧ i < cs.length ∧ K (cs.getD i.toNat .unk))
  | _, _, _ => False
def boundOf (x : Option AV) (d : Int) (K : Int → Prop) : Prop :=
  match x with
  | none => K d
  | some (.int _ i) => K i
  | some _ => False
def sliceQ (P : PL) (s : Store) (t : TypeId) (x : AV) (lo hi mx : Option AV) (K : AV → Prop) : Prop :=
  need mx.isNone
  (match P.underlying t, x with
  | some .string, .str s => boundOf lo 0 fun l => boundOf hi s.size fun h => 0 ≤ l ∧ l ≤ h ∧ h ≤ s.size ∧ K (.str (s.extract l.toNat h.toNat))
  | some (.slice e), .sl nl n get => boundOf lo 0 fun l => boundOf hi n fun h => 0 ≤ l ∧ l ≤ h ∧ h ≤ n ∧ need ((get l.toNat).ncells == P.cellsOf e && Nat.blt 0 (P.cellsOf e)) (K (.sl nl (h.toNat - l.toNat) fun j => get (l.toNat + j)))
  | some (.slice e), .ms id n =>
    match lo with
    | none => boundOf hi n fun h => need (Nat.blt 0 (P.cellsOf e)) (0 ≤ h ∧ h ≤ n ∧ K (.ms id h.toNat))
    | lo => boundOf lo 0 fun l => boundOf hi n fun h => need (Nat.blt 0 (P.cellsOf e)) (match s[id]? with | some (some o) => need (o.esz == P.cellsOf e) (0 ≤ l ∧ l ≤ h ∧ h ≤ n ∧ K (.mso id l.toNat (h.toNat - l.toNat))) | _ => False)
  | some (.slice e), .mso id off n => boundOf lo 0 fun l => boundOf hi n fun h => need (Nat.blt 0 (P.cellsOf e)) (match s[id]? with | some (some o) => need (o.esz == P.cellsOf e) (0 ≤ l ∧ l ≤ h ∧ h ≤ n ∧ K (.mso id (off + l.toNat) (h.toNat - l.toNat))) | _ => False)
  | _, _ => False)
/-- A row of bytes, read as a text. -/
def bytesQ (P : PL) (s : Store) (e : TypeId) (x : AV) (K : AV → Prop) : Prop :=
  match P.underlying e, snap 6 s x with
  | some (.int .u8), some (.sl _ n get) => ∃ l : List Int, l.length = n ∧ (∀ j, j < n → get j = .int .u8 (l.getD j 0)) ∧ K (.str (strOfNums l))
  | _, _ => False
/-- A value of a type lies at a place of a value of another one. -/
def liesQ (P : PL) (e : TypeId) (off : Nat) (u : TypeId) : Prop := liesAt P.toProgram P.toProgram.depth e 1 off u 1 = true
attribute [irreducible] liesQ
theorem liesQ_of {P : PL} {e u : TypeId} {off : Nat} (h : liesAt P.toProgram P.toProgram.depth e 1 off u 1 = true) : liesQ P e off u := by unfold liesQ; exact h
theorem liesQ_out {P : PL} {e u : TypeId} {off : Nat} (h : liesQ P e off u) : liesAt P.toProgram P.toProgram.depth e 1 off u 1 = true := by unfold liesQ at h; exact h
def convertQ (P : PL) (s : Store) (src dst : TypeId) (x : AV) (K : AV → Prop) : Prop :=
  match P.underlying src, P.underlying dst, x with
  | some _, some (.int k), .int _ n => K (.int k (k.wrap n))
  | some _, some .string, .str t => K (.str t)
  | some (.slice e), some .string, x => bytesQ P s e x K
  | some (.pointer t), some .unsafePointer, .mp id i off => (match s[id]? with | some (some o) => need ((P.info? t).isSome && (Nat.blt 0 (P.cellsOf t) && Nat.blt off o.esz)) (K (.mp id i off)) | _ => False)
  | some .unsafePointer, some (.pointer u), .mp id i off => (match s[id]? with
    | some (some o) => need (Nat.beq i 0 && (o.esz == P.cellsOf o.ety && (Nat.blt 0 (P.cellsOf o.ety) && (P.info? u).isSome)))
      (match Nat.beq off 0 && (o.ety == u) with
        | true => K (.mp id i off)
        | false => liesQ P o.ety off u ∧ K (.mp id i off))
    | _ => False)
  | _, _, _ => False
/-- A text's runes. -/
def runesL (t : ByteArray) : List Int := (Conv.runesFrom t t.size 0 #[]).toList.map fun v => match v with | .int _ n => n | _ => 0
def runesQ (P : PL) (s : Store) (e : TypeId) (t : ByteArray) (K : AV → Store → Prop) : Prop :=
  match P.underlying e with
  | some (.int .i32) => need (P.cellsOf e == 1) (t.size ≤ 70368744177664 ∧ K (.ms s.length (runesL t).length) (s ++ [some ⟨1, e, .ints .i32 (runesL t), false, false⟩]))
  | _ => False
def convQ (P : PL) (s : Store) (src dst : TypeId) (x : AV) (K : AV → Store → Prop) : Prop :=
  match P.underlying src, P.underlying dst, x with
  | some .string, some (.slice e), .str t => runesQ P s e t K
  | _, _, _ => convertQ P s src dst x fun v => K v s
def aop (P : PL) (s : Store) (ev : Operand → AV) (o : Oper) (K : AV → Store → Prop) : Prop :=
  match o.op with
  | .move x => K (ev x) s
  | .assign x => K (ev x) s
  | .pick c a b => (match ev c with | .bool c => brP c (K (ev a) s) (K (ev b) s) | _ => False)
  | .alloc t => (match zeroAV P t with | some z => (match newObj P t z with | some ob => K (.mp s.length 0 0) (s ++ [some ob]) | none => False) | none => False)
  | .box t x => need ((ev x).storable && (ev x).ncells == P.cellsOf t) (match newObj P t (ev x) with | some ob => K (.mp s.length 0 0) (s ++ [some ob]) | none => False)
  | .build t parts => (match buildQ P ev t parts.toList with | some v => K v s | none => False)
  | .buildSlice t len parts =>
    match P.underlying t with
    | some (.slice e) =>
      match litElems ev (P.cellsOf e) 0 parts.toList with
      | some vs => need (vs.length == len && Nat.ble (len * P.cellsOf e) 16777216 && Nat.blt 0 (P.cellsOf e) && (zeroAV P e).isSome) (match mkRow P e vs with | some row => K (.ms s.length len) (s ++ [some ⟨P.cellsOf e, e, row, false, false⟩]) | none => False)
      | none => False
    | _ => False
  | .load t a => loadQ P s t (ev a) fun v => K v s
  | .store t a x => storeAny P s t (ev a) (ev x) fun s' => K .unk s'
  | .nilCheck x => (match ev x with | .adr a => K (.adr a) s | .ip e off => K (.ip e off) s | .mp id i off => K (.mp id i off) s | _ => False)
  | .binOp op t x y _ => binQ P op t (isConstOp x || isConstOp y) (ev x) (ev y) fun v => K v s
  | .unOp op _ x => unQ op (ev x) fun v => K v s
  | .convert a b x => convQ P s a b (ev x) K
  | .makeInterface t x => (match P.underlying t with | some (.interface _) => False | some _ => K (.iface t (ev x)) s | none => False)
  | .makeFunc f first cap => K (.fn f (first.toList.map ev) (cap.toList.map ev)) s
  | .makeSlice t l c =>
    match P.underlying t, ev l, ev c with
    | some (.slice e), .int _ n, .int _ m =>
      (n = m ∧ 0 ≤ n ∧ (P.bytesOf e : Int) * n ≤ 281474976710656 ∧ n ≤ 9223372036854775807 ∧
        need (Nat.blt 0 (P.cellsOf e)) (match zeroRow P e n.toNat with | some row => K (.ms s.length n.toNat) (s ++ [some ⟨P.cellsOf e, e, row, false, false⟩]) | none => False))
    | _, _, _ => False
  | .slice t x lo hi mx => sliceQ P s t (ev x) (lo.map ev) (hi.map ev) (mx.map ev) fun v => K v s
  | .fieldAddr t x f => fieldAddrQ P t (ev x) f fun v => K v s
  | .field t x f => fieldQ P t (ev x) f fun v => K v s
  | .indexAddr t x i => indexAddrQ P s t (ev x) (ev i) fun v => K v s
  | .index t x i => indexQ P t (ev x) (ev i) fun v => K v s
  | .extract x i => (match ev x with | .tup vs => need (Nat.blt i vs.length) (K (vs.getD i .unk) s) | _ => False)
  | .call c =>
    match c.callee with
    | .builtin b => builtinQ P s o.type b c.argTypes.toList (c.args.toList.map ev) K
    | .value f => callQ P s (ev f) (c.args.toList.map ev) K
    | .invoke _ _ => False
  | _ => False

/-! ### Values made plain before the next step (each of these hands on just what it is given) -/
def forceL : List AV → (List AV → Prop) → Prop
  | [], K => K []
  | x :: xs, K => forceL xs fun ys => K (x :: ys)
def forceV1 (v : AV) (K : AV → Prop) : Prop :=
  match v with
  | .unk => K .unk
  | .bool b => K (.bool b)
  | .int k n => K (.int k n)
  | .str s => K (.str s)
  | .nilp => K .nilp
  | .nilf => K .nilf
  | .nili => K .nili
  | .mapr b => K (.mapr b)
  | .adr a => K (.adr a)
  | .sl a b c => K (.sl a b c)
  | .ip e off => K (.ip e off)
  | .ms id n => K (.ms id n)
  | .mso id off n => K (.mso id off n)
  | .mp id i off => K (.mp id i off)
  | .mpn id i off b => K (.mpn id i off b)
  | .sd id n => K (.sd id n)
  | .agg cs => forceL cs fun cs => K (.agg cs)
  | .aggi k l => K (.aggi k l)
  | .tup vs => forceL vs fun vs => K (.tup vs)
  | .fn f a b => forceL a fun a => forceL b fun b => K (.fn f a b)
  | .iface t v => K (.iface t v)
  | .err e => K (.err e)
def forceVs : List AV → (List AV → Prop) → Prop
  | [], K => K []
  | x :: xs, K => forceV1 x fun x => forceVs xs fun ys => K (x :: ys)
def forceV (v : AV) (K : AV → Prop) : Prop :=
  match v with
  | .ip e off => forceV1 e fun e => K (.ip e off)
  | .agg cs => forceVs cs fun cs => K (.agg cs)
  | .tup vs => forceVs vs fun vs => K (.tup vs)
  | .fn f a b => forceVs a fun a => forceVs b fun b => K (.fn f a b)
  | .iface t v => forceV1 v fun v => K (.iface t v)
  | v => forceV1 v K
def forceO (o : Option MObj) (K : Option MObj → Prop) : Prop :=
  match o with
  | none => K none
  | some ⟨esz, ety, row, ro, mb⟩ =>
    match row with
    | .vals l => forceVs l fun l => K (some ⟨esz, ety, .vals l, ro, mb⟩)
    | .imms l => K (some ⟨esz, ety, .imms l, ro, mb⟩)
    | .ints k l => K (some ⟨esz, ety, .ints k l, ro, mb⟩)
    | .strs l => K (some ⟨esz, ety, .strs l, ro, mb⟩)
    | .bools l => K (some ⟨esz, ety, .bools l, ro, mb⟩)
    | .imf n g => K (some ⟨esz, ety, .imf n g, ro, mb⟩)
def forceS : Store → (Store → Prop) → Prop
  | [], K => K []
  | o :: os, K => forceO o fun o => forceS os fun os => K (o :: os)
def setK : List AV → Nat → AV → (List AV → Prop) → Prop
  | [], _, _, K => K []
  | _ :: xs, 0, v, K => K (v :: xs)
  | x :: xs, d + 1, v, K => setK xs d v fun ys => K (x :: ys)
def putK (t : List AV) (dst : Option Tmp) (v : AV) (K : List AV → Prop) : Prop :=
  match dst with
  | some d => setK t d v K
  | none => K t
theorem forceL_eq : ∀ (l : List AV) (K : List AV → Prop), forceL l K = K l
  | [], K => rfl
  | x :: xs, K => by simp only [forceL, forceL_eq xs]
theorem forceV1_eq (v : AV) (K : AV → Prop) : forceV1 v K = K v := by cases v <;> simp only [forceV1, forceL_eq]
theorem forceVs_eq : ∀ (l : List AV) (K : List AV → Prop), forceVs l K = K l
  | [], K => rfl
  | x :: xs, K => by simp only [forceVs, forceV1_eq, forceVs_eq xs]
theorem forceV_eq (v : AV) (K : AV → Prop) : forceV v K = K v := by cases v <;> simp only [forceV, forceV1_eq, forceVs_eq]
theorem forceO_eq (o : Option MObj) (K : Option MObj → Prop) : forceO o K = K o := by
  cases o with
  | none => rfl
  | some o => obtain ⟨a, b, r, c, d⟩ := o; cases r <;> simp only [forceO, forceVs_eq]
theorem forceS_eq : ∀ (s : Store) (K : Store → Prop), forceS s K = K s
  | [], K => rfl
  | x :: xs, K => by simp only [forceS, forceO_eq, forceS_eq xs]
theorem setK_eq : ∀ (t : List AV) (d : Nat) (v : AV) (K : List AV → Prop), setK t d v K = K (t.set d v)
  | [], d, v, K => rfl
  | x :: xs, 0, v, K => rfl
  | x :: xs, d + 1, v, K => by simp only [setK, setK_eq xs d v, List.set_cons_succ]
theorem putK_eq (t : List AV) (dst : Option Tmp) (v : AV) (K : List AV → Prop) : putK t dst v K = K (putT t dst v) := by cases dst <;> simp only [putK, putT, setK_eq]
/-- What comes of an operation, made plain. -/
def after (t : List AV) (dst : Option Tmp) (v : AV) (s : Store) (K : List AV → Store → Prop) : Prop := forceV v fun v => putK t dst v fun t => forceS s fun s => K t s
theorem after_eq (t : List AV) (dst : Option Tmp) (v : AV) (s : Store) (K : List AV → Store → Prop) : after t dst v s K = K (putT t dst v) s := by simp only [after, forceV_eq, putK_eq, forceS_eq]

/-! ### Regions and code -/
/-- The slot in which an operation of the region leaves its value. -/
def dstOf (ops : List Oper) (j : Nat) : Option Tmp := (ops[j]?).bind (·.dst)
def awpOps (P : PL) (ops : List Oper) : List Oper → Fr → (Fr → Prop) → Prop
  | [], fr, K => K fr
  | o :: rest, fr, K =>
    match o.guard with
    | none => aop P fr.s (evalT fr.t) o fun v s' => after fr.t o.dst v s' fun t s => awpOps P ops rest ⟨t, s⟩ K
    | some (j, want) =>
      match dstOf ops j with
      | none => False
      | some d =>
        match fr.t.getD d .unk with
        | .bool c =>
          brP c
            (match want with
              | true => setK fr.t d (.bool true) fun t0 => aop P fr.s (evalT t0) o fun v s' => after t0 o.dst v s' fun t s => awpOps P ops rest ⟨t, s⟩ K
              | false => setK fr.t d (.bool true) fun t0 => putK t0 o.dst (.tup []) fun t => awpOps P ops rest ⟨t, fr.s⟩ K)
            (match want with
              | false => setK fr.t d (.bool false) fun t0 => aop P fr.s (evalT t0) o fun v s' => after t0 o.dst v s' fun t s => awpOps P ops rest ⟨t, s⟩ K
              | true => setK fr.t d (.bool false) fun t0 => putK t0 o.dst (.tup []) fun t => awpOps P ops rest ⟨t, fr.s⟩ K)
        | .tup [] => putK fr.t o.dst (.tup []) fun t => awpOps P ops rest ⟨t, fr.s⟩ K
        | _ => False
def predsOf (o : Oper) : List Nat := (o.after.toList.filter (Region.binds .any)).map (·.on)
def readsOf (ops : List Oper) (o : Oper) : List Tmp :=
  (o.op.operands.toList.filterMap fun | .tmp t => some t | _ => none) ++
  (match o.guard with
   | some (g, _) => (dstOf ops g).toList
   | none => [])
/-- May the operations be carried out in every order that their edges allow? (Each slot is written once; whoever reads it stands on one side of the writer.) -/
def regOk (ops : List Oper) : Bool :=
  ops.zipIdx.all fun (o, i) =>
    (predsOf o).all (fun j => Nat.blt j i) &&
    (match o.op with | .select .. => false | .defer _ => false | _ => true) &&
    ops.zipIdx.all fun (o', k) =>
      k == i ||
      (match o'.dst with
      | none => true
      | some d => o.dst != some d && (!(readsOf ops o).contains d || (predsOf o).contains k || (predsOf o').contains i))
/-- A move that waits for nothing. -/
def isMove (o : Oper) : Bool := match o.op with | .move _ => o.guard.isNone && (predsOf o).isEmpty | _ => false
/-- What reads no memory: a constant added or taken away, a pointer looked at, a field's place. -/
def isAddC (o : Oper) : Bool :=
  match o.op with
  | .binOp op _ _ _ _ => o.guard.isNone && (match op with | .add | .sub => true | _ => false)
  | .nilCheck _ => o.guard.isNone
  | .fieldAddr _ _ _ => o.guard.isNone
  | _ => false
/-- Such moves ahead of the cut as some operation behind it doesn't wait for: they may as well be carried out first of all; and such sums of them. -/
def lateMoves (ops : List Oper) (n : Nat) : List Nat := (List.range n).filter fun i => (match ops[i]? with | some o => isMove o | none => false) && ops.zipIdx.any fun (o, j) => Nat.ble n j && !(predsOf o).contains i
def lateAdd (ops : List Oper) (n k : Nat) (acc : List Nat) : List Nat :=
  match (lateMoves ops n).contains k || (match ops[k]? with | some o => isAddC o && (predsOf o).all (fun j => acc.contains j) | none => false) with
  | true => k :: acc
  | false => acc
def lateSet (ops : List Oper) (n : Nat) : Nat → List Nat
  | 0 => []
  | k + 1 => lateAdd ops n k (lateSet ops n k)
def lateOf (ops : List Oper) (n : Nat) : List Nat := (List.range n).filter fun i => (lateSet ops n n).contains i
/-- Is operation i one of these, or one that they wait for (in at most d steps)? -/
def reachQ (ops : List Oper) : Nat → List Nat → Nat → Bool
  | 0, _, _ => false
  | d + 1, ps, i => ps.contains i || ps.any (fun p => match ops[p]? with | some q => reachQ ops d (predsOf q) i | none => false)
def tailOk (ops : List Oper) (n : Nat) : Bool :=
  ops.zipIdx.all fun (o, j) => Nat.blt j n || (List.range j).all fun i => (predsOf o).contains i || ((lateOf ops n).contains i || reachQ ops 8 (predsOf o) i)
def tailFrom (ops : List Oper) : Nat → Nat
  | 0 => 0
  | n + 1 => bif (match ops[n]? with | some o => (List.range n).all fun i => (predsOf o).contains i | none => true) then tailFrom ops n else n + 1
/-- A new variable. -/
def isAlloc (o : Oper) : Bool := match o.op, o.dst with | .alloc _, some _ => true | _, _ => false
def allocOf : List Oper → Option (Tmp × TypeId)
  | [] => none
  | o :: r => match o.op, o.dst with | .alloc t, some d => some (d, t) | _, _ => allocOf r
/-- At most one of them, and that one in any case. -/
def allocsOk : List Oper → Bool
  | [] => true
  | o :: r => match isAlloc o with | true => o.guard.isNone && r.all (fun o => !isAlloc o) | false => allocsOk r
/-- An operation of a region of open order: a slice's literal is told by what it holds. -/
def aopQ (P : PL) (s : Store) (ev : Operand → AV) (o : Oper) (K : AV → Store → Prop) : Prop :=
  match o.op with
  | .buildSlice t len parts =>
    match P.underlying t with
    | some (.slice e) =>
      match litElems ev (P.cellsOf e) 0 parts.toList with
      | some vs => need (vs.length == len && Nat.ble (len * P.cellsOf e) 16777216 && Nat.blt 0 (P.cellsOf e) && (zeroAV P e).isSome)
        (match mkRow P e vs with
        | some row => (match snapRow false row len with | some v => K v s | none => False)
        | none => False)
      | none => False
    | _ => False
  | _ => aop P s ev o K
/-- Operations that leave the store alone (but for one new variable, of which nothing is told yet). -/
def awpQuiet (P : PL) (ops : List Oper) (s : Store) : List Oper → List AV → (List AV → Prop) → Prop
  | [], t, K => K t
  | o :: rest, t, K =>
    match o.guard with
    | none =>
      match isAlloc o with
      | true => putK t o.dst .unk fun t => awpQuiet P ops s rest t K
      | false => aopQ P s (evalT t) o fun v s' => s' = s ∧ after t o.dst v [] fun t _ => awpQuiet P ops s rest t K
    | some (j, want) =>
      match dstOf ops j with
      | none => False
      | some d =>
        match t.getD d .unk with
        | .bool c =>
          brP c
            (match want with
              | true => setK t d (.bool true) fun t0 => aopQ P s (evalT t0) o fun v s' => s' = s ∧ after t0 o.dst v [] fun t _ => awpQuiet P ops s rest t K
              | false => setK t d (.bool true) fun t0 => putK t0 o.dst (.tup []) fun t => awpQuiet P ops s rest t K)
            (match want with
              | false => setK t d (.bool false) fun t0 => aopQ P s (evalT t0) o fun v s' => s' = s ∧ after t0 o.dst v [] fun t _ => awpQuiet P ops s rest t K
              | true => setK t d (.bool false) fun t0 => putK t0 o.dst (.tup []) fun t => awpQuiet P ops s rest t K)
        | .tup [] => putK t o.dst (.tup []) fun t => awpQuiet P ops s rest t K
        | _ => False
/-- Where the operations begin that close a region: each of them waits for all ahead of it. -/
def isPhase (e : Edge) : Bool := match e.ground with | .phase => true | _ => false
def cutOf0 : List Oper → Nat
  | [] => 0
  | o :: r => match o.after.toList.any isPhase with | true => 0 | false => cutOf0 r + 1
def isAsg (o : Oper) : Bool := match o.op with | .assign _ => true | .move _ => true | _ => false
/-- The same; but where only slots are written behind, all operations may come in any order. -/
def cutOf1 (ops : List Oper) : Nat :=
  match (ops.drop (cutOf0 ops)).all isAsg && (allocOf (ops.take (cutOf0 ops))).isNone with
  | true => ops.length
  | false => cutOf0 ops
/-- An operation that changes the store. -/
def isLoud (o : Oper) : Bool :=
  match o.op with
  | .store _ _ _ => true
  | .call c => (match c.callee with | .builtin .append => true | .builtin .copy => true | .builtin .unsafeString => true | _ => false)
  | _ => false
def isCallV (o : Oper) : Bool := match o.op with | .call c => (match c.callee with | .value _ => true | _ => false) | _ => false
/-- Where the operations begin that change the store; a call that comes last may. -/
def loudOf : List Oper → Nat
  | [] => 0
  | o :: r => match isLoud o || (r.isEmpty && isCallV o) with | true => 0 | false => loudOf r + 1
def cutOf2 (ops : List Oper) : Nat := match Nat.blt (loudOf ops) (cutOf1 ops) with | true => loudOf ops | false => cutOf1 ops
/-- Where the calls begin that stand right ahead of n. -/
def callsTo (ops : List Oper) : Nat → Nat
  | 0 => 0
  | k + 1 => match (match ops[k]? with | some o => isCallV o | none => false) with | true => callsTo ops k | false => k + 1
/-- Some calls in a row ahead of what closes the region: each of them waits for all ahead of it. -/
def cutOf (ops : List Oper) : Nat :=
  match Nat.blt (callsTo ops (cutOf1 ops)) (cutOf2 ops) && tailOk ops (callsTo ops (cutOf1 ops)) with
  | true => callsTo ops (cutOf1 ops)
  | false => cutOf2 ops
@[irreducible] def drawOk (ops : List Oper) (n : Nat) : Prop := (regOk ops && tailOk ops n && Nat.ble n ops.length && allocsOk (ops.take n)) = true
def awpDraw (P : PL) (ops : List Oper) (fr : Fr) (K : Fr → Prop) : Prop :=
  drawOk ops (cutOf ops) ∧
    awpQuiet P ops fr.s (ops.take (cutOf ops)) fr.t fun t1 =>
      match allocOf (ops.take (cutOf ops)) with
      | none => awpOps P ops (ops.drop (cutOf ops)) ⟨t1, fr.s⟩ K
      | some (d, ty) =>
        match zeroAV P ty with
        | none => False
        | some z =>
          match newObj P ty z with
          | none => False
          | some ob => setK t1 d (.mp fr.s.length 0 0) fun t => awpOps P ops (ops.drop (cutOf ops)) ⟨t, fr.s ++ [some ob]⟩ K

inductive Ex where
  | normal
  | exit (id : Nat)
  | ret
/-- Nothing waits for the return but the marks of ended loops over functions. -/
def Marks (V : Nat → Prop) (w : World) : List Deferred → Prop
  | [] => True
  | d :: ds => (∃ k, d.target = .collected k ∧ w.heap[k]? = some (.deferred (some [])) ∧ ¬ V k ∧ ∀ d' ∈ ds, d'.target ≠ .collected k) ∧ Marks V w ds
/-- A frame of the machine and an abstract one. -/
structure RelFr (L : Laid) (V : Nat → Prop) (w : World) (cx : Cx) (fr : Fr) (a : Act) : Prop where
  st : RelSt L V w cx fr.s
  size : a.tmps.size = fr.t.length
  defers : Marks V w a.defers
  tmps : ∀ (i : Nat) (x : AV), fr.t[i]? = some x → Rel w cx (Av V cx fr.s) x (a.tmps.getD i undef)
/-- Whatever frame of the machine the first stands for, the second does, too. (Objects below m keep their places.) -/
def Weak (m : Nat) (fr fr' : Fr) : Prop :=
  ∀ L V w cx a, RelFr L V w cx fr a → ∃ cx', Ext m V w w cx cx' fr.s fr'.s ∧ RelFr L V w cx' fr' a
/-- What follows a piece of code: the next piece, if the first ends as usual. -/
def seqK (b : Fr → (Ex → Fr → Prop) → Prop) (K : Ex → Fr → Prop) : Ex → Fr → Prop
  | .normal, fr => b fr K
  | .exit id, fr => K (.exit id) fr
  | .ret, fr => K .ret fr
/-- What follows a block. -/
def blockK (id : Nat) (K : Ex → Fr → Prop) : Ex → Fr → Prop
  | .normal, fr => K .normal fr
  | .exit j, fr => (match j == id with | true => K .normal fr | false => K (.exit j) fr)
  | .ret, fr => K .ret fr
/-- A loop: an invariant, and a measure that each round makes less. -/
@[irreducible] def loopQ (m : Nat) (body : Fr → (Ex → Fr → Prop) → Prop) (fr : Fr) (K : Ex → Fr → Prop) : Prop :=
  ∃ (I : Fr → Prop) (μ : Fr → Nat), (∃ fr0, Weak m fr fr0 ∧ I fr0) ∧
    ∀ fr1, I fr1 → body fr1 (seqK (fun fr2 _ => ∃ fr3, Weak m fr2 fr3 ∧ I fr3 ∧ μ fr3 < μ fr1) K)
/-- No deferred call. -/
def plainOps (ops : List Oper) : Bool := ops.all fun o => match o.op with | .defer _ => false | _ => true
/-- The abstract weakest precondition; m: as many objects came in. -/
def awp (P : PL) (m : Nat) : Code → Fr → (Ex → Fr → Prop) → Prop
  | .skip, fr, K => K .normal fr
  | .label _, fr, K => K .normal fr
  | .region _ ops draw, fr, K =>
    match draw with
    | false => need (plainOps ops.toList) (awpOps P ops.toList ops.toList fr (K .normal))
    | true => awpDraw P ops.toList fr (K .normal)
  | .seq a b, fr, K => awp P m a fr (seqK (fun fr K => awp P m b fr K) K)
  | .cond c a b, fr, K =>
    match evalT fr.t c with
    | .bool c => brP c (awp P m a fr K) (awp P m b fr K)
    | _ => False
  | .block id c, fr, K => awp P m c fr (blockK id K)
  | .loop c, fr, K => loopQ m (fun fr K => awp P m c fr K) fr K
  | .exit id, fr, K => K (.exit id) fr
  | .ret, fr, K => K .ret fr
  | _, _, _ => False

/-! ### A whole function -/
def resultsQ (P : PL) (fr : Fr) : List ResultVar → (List AV → Prop) → Prop
  | [], K => K []
  | .tmp i :: rs, K => resultsQ P fr rs fun vs => K (fr.t.getD i .unk :: vs)
  | .cell a t :: rs, K => loadQ P fr.s t (fr.t.getD a .unk) fun v => resultsQ P fr rs fun vs => K (v :: vs)
def resVal : List AV → AV
  | [v] => v
  | vs => .tup vs
def exportMore (m : Nat) (fr : Fr) (v : AV) (K : AV → Store → Prop) : Prop :=
  ((v.refs (fun i => Nat.blt i m) && okRefs (fun i => Nat.blt i m) (fr.s.take m)) = true ∧ K v (fr.s.take m)) ∨
  (okRefs (fun i => Nat.blt i m) (fr.s.take m) = true ∧ ∃ v', snap 6 fr.s v = some v' ∧ v'.imm = true ∧ K v' (roAll fr.s (snapIds 6 fr.s v) |>.take m)) ∨
  K v fr.s
/-- What goes back: objects of the call's own are told by what they hold. -/
def exportQ (m : Nat) (fr : Fr) (v : AV) (K : AV → Store → Prop) : Prop :=
  match m with
  | 0 => (match snap 6 fr.s v with | some v' => need v'.imm (forceV v' fun v' => K v' []) | none => False)
  | m + 1 => exportMore (m + 1) fr v K
/-- The post-condition of a function's body. -/
def retQ (P : PL) (fn : Func) (m : Nat) (Q : AV → Store → Prop) : Ex → Fr → Prop
  | .exit _, _ => False
  | _, fr => resultsQ P fr fn.results.toList fun vs => exportQ m fr (resVal vs) Q
/-- The same, where new objects may go back as such. -/
def retQM (P : PL) (fn : Func) (m : Nat) (Q : AV → Store → Prop) : Ex → Fr → Prop
  | .exit _, _ => False
  | _, fr => resultsQ P fr fn.results.toList fun vs => exportMore m fr (resVal vs) Q
def frame0 (fn : Func) (args : List AV) (objs : Store) : Fr :=
  ⟨args ++ List.replicate (fn.ntmps - args.length) .unk, objs⟩
end Go.SE
