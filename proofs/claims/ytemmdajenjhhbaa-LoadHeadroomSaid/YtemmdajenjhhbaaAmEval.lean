/- The abstract machine: what one operation does to abstract values and objects. -/
import Derived.Test.YtemmdajenjhhbaaAmCore
namespace Go.AM
open Go Go.RowKit
def mkv (v : Value) : SV := .one (.s (.c (.val v)))
def ofVal : Value → AV
  | .agg cs => .agg (cs.toList.map fun v => .c (.val v))
  | v => .s (.c (.val v))
structure St where
  σ : List (Nat × SV)
  h : List AObj
def look : List (Nat × SV) → Nat → Option SV
  | [], _ => none
  | (i, s) :: r, t => bif Nat.beq i t then some s else look r t
def del : List (Nat × SV) → Nat → List (Nat × SV)
  | [], _ => []
  | (i, s) :: r, t => bif Nat.beq i t then del r t else (i, s) :: del r t
def putD (σ : List (Nat × SV)) (d : Option Nat) (s : SV) : List (Nat × SV) :=
  match d with
  | some t => (t, s) :: del σ t
  | none => σ
def opd (σ : List (Nat × SV)) : Operand → Option SV
  | .tmp t => look σ t
  | .const v => some (.one (ofVal v))
  | .func f => some (mkv (.func (.func f) #[] #[]))
  | .global _ => none
def getO (h : List AObj) (k : Nat) : AObj := (h[k]?).getD .dead
def avCells : AV → List SC
  | .s x => [x]
  | .agg cs => cs
def SC.scalar : SC → Bool
  | .c (.val v) => v.oneCell'
  | .bot => false
  | _ => true
def allCV : List SC → Option (List CV)
  | [] => some []
  | .c x :: r => match allCV r with
    | some xs => some (x :: xs)
    | none => none
  | _ :: _ => none
def splice {α : Type} (cs : List α) (off : Nat) (xs : List α) : List α := cs.take off ++ (xs ++ cs.drop (off + xs.length))
def upd (f : Nat → List CV) (i : Nat) (c : List CV) : Nat → List CV := fun j => if j = i then c else f j
def app (n : Nat) (f g : Nat → List CV) : Nat → List CV := fun i => if i < n then f i else g (i - n)
def cpy (lo n : Nat) (f g : Nat → List CV) : Nat → List CV := fun i => if lo ≤ i ∧ i < lo + n then g (i - lo) else f i
structure Eff where
  r : SV
  ws : List (Nat × AObj) := []
  cs : List Prop := []
def isAggB (P : Program) (t : TypeId) : Bool :=
  match P.underlying t with
  | some (.struct _) => true
  | some (.array _ _) => true
  | _ => false
def loadA (P : Program) (T : TypeId) (cs : List SC) (off : Nat) : Option AV :=
  match P.underlying T with
  | none => none
  | some _ =>
    bif isAggB P T then
      match P.info? T with
      | some i => if off + i.size ≤ cs.length then some (.agg ((cs.drop off).take i.size)) else none
      | none => none
    else
      match cs[off]? with
      | some x => some (.s x)
      | none => none
def evLoad (P : Program) (T : TypeId) (get : Nat → AObj) (p : SC) : Option Eff :=
  match p with
  | .pb k off => match get k with
    | .box cs => match loadA P T cs off with
      | some v => some { r := .one v }
      | none => none
    | _ => none
  | .pe k i off => match get k with
    | .arr _ n f => match loadA P T ((f i).map .c) off with
      | some v => some { r := .one v, cs := [i < n] }
      | none => none
    | _ => none
  | .rp cs => match loadA P T (cs.map .c) 0 with
    | some v => some { r := .one v }
    | none => none
  | _ => none
def evStore (P : Program) (T : TypeId) (get : Nat → AObj) (p : SC) (v : AV) : Option Eff :=
  match P.info? T with
  | none => none
  | some i =>
    bif Nat.beq (avCells v).length i.size && (avCells v).all SC.scalar then
      match p with
      | .pb k off => match get k with
        | .box cs => bif Nat.ble (off + i.size) cs.length then some { r := mkv undef, ws := [(k, .box (splice cs off (avCells v)))] } else none
        | _ => none
      | .pe k j off => match get k, allCV (avCells v) with
        | .arr z n f, some xs => bif Nat.ble (off + i.size) z then some { r := mkv undef, ws := [(k, .arr z n (upd f j (splice (f j) off xs)))], cs := [j < n] } else none
        | _, _ => none
      | _ => none
    else none
def srcC (z : Nat) : CV → Option (Nat × (Nat → List CV) × List Prop)
  | .rd z' n f => bif Nat.beq z z' then some (n, f, []) else none
  | .e0 => some (0, fun _ => [], [])
  | .val (.slice none 0 _) => some (0, fun _ => [], [])
  | _ => none
def dstC : CV → Option (Nat × (Nat → List CV) × List Prop × List (Nat × AObj))
  | .e0 => some (0, fun _ => [], [], [])
  | .val (.slice none 0 0) => some (0, fun _ => [], [], [])
  | _ => none
def srcOf (z : Nat) (get : Nat → AObj) : SC → Option (Nat × (Nat → List CV) × List Prop)
  | .sl k lo len => match get k with
    | .arr z' n f => bif Nat.beq z z' then some (len, fun i => f (lo + i), [lo + len ≤ n]) else none
    | _ => none
  | .c x => srcC z x
  | _ => none
def dstOf (z : Nat) (get : Nat → AObj) : SC → Option (Nat × (Nat → List CV) × List Prop × List (Nat × AObj))
  | .sl k 0 len => match get k with
    | .arr z' n f => bif Nat.beq z z' then some (n, f, [len = n], [(k, .dead)]) else none
    | _ => none
  | .c x => dstC x
  | _ => none
def elemInfo (P : Program) (t : TypeId) : Option (TypeId × TypeInfo × Array Value) :=
  match P.underlying t with
  | some (.slice e) => match P.info? e with
    | some i => match i.zero with
      | some z => bif Nat.beq z.cells.size i.size && (z.cells.all Value.oneCell') && Nat.blt 0 i.size && Nat.blt 0 i.bytes then some (e, i, z.cells) else none
      | none => none
    | none => none
  | _ => none
def evAppend (P : Program) (t : TypeId) (id : Nat) (get : Nat → AObj) (s x : SC) : Option Eff :=
  match elemInfo P t with
  | none => none
  | some (_, i, _) =>
    match dstOf i.size get s, srcOf i.size get x with
    | some (n, f, c1, w1), some (k, g, c2) =>
      some { r := .one (.s (.sl id 0 (n + k))), ws := w1 ++ [(id, .arr i.size (n + k) (app n f g))], cs := c1 ++ (c2 ++ [(n + k) * i.bytes ≤ 140737488355328]) }
    | _, _ => none
def evCopy (P : Program) (t : TypeId) (get : Nat → AObj) (s x : SC) : Option Eff :=
  match elemInfo P t with
  | none => none
  | some (_, i, _) =>
    match s, srcOf i.size get x with
    | .sl k lo len, some (m, g, c2) => match get k with
      | .arr z n f => bif Nat.beq z i.size then some { r := mkv (.int .i64 ((min m len : Nat) : Int)), ws := [(k, .arr z n (cpy lo (min m len) f g))], cs := c2 ++ [lo + len ≤ n] } else none
      | _ => none
    | _, _ => none
def lenOf (x : SC) : Option Nat :=
  match x with
  | .sl _ _ len => some len
  | .c (.rd _ n _) => some n
  | .c .e0 => some 0
  | .c (.val (.slice _ n _)) => some n
  | _ => none
def intBin (op : BinOp) (k : IntKind) (a b : Int) : Option (Value × List Prop) :=
  match op with
  | .add => some (.int k (k.wrap (a + b)), [])
  | .sub => some (.int k (k.wrap (a - b)), [])
  | .mul => some (.int k (k.wrap (a * b)), [])
  | .quo => some (.int k (k.wrap (a.tdiv b)), [b ≠ 0])
  | .rem => some (.int k (a.tmod b), [b ≠ 0])
  | .and => some (.int k (k.wrap ((BitVec.ofInt k.bits a &&& BitVec.ofInt k.bits b).toNat)), [])
  | .or => some (.int k (k.wrap ((BitVec.ofInt k.bits a ||| BitVec.ofInt k.bits b).toNat)), [])
  | .xor => some (.int k (k.wrap ((BitVec.ofInt k.bits a ^^^ BitVec.ofInt k.bits b).toNat)), [])
  | .andNot => some (.int k (k.wrap ((BitVec.ofInt k.bits a &&& ~~~ BitVec.ofInt k.bits b).toNat)), [])
  | .eql => some (.bool (a == b), [])
  | .neq => some (.bool (a != b), [])
  | .lss => some (.bool (decide (a < b)), [])
  | .leq => some (.bool (decide (a ≤ b)), [])
  | .gtr => some (.bool (decide (b < a)), [])
  | .geq => some (.bool (decide (b ≤ a)), [])
  | _ => none
def shiftBin (op : BinOp) (k : IntKind) (a b : Int) : Option (Value × List Prop) :=
  match op with
  | .shl => some (.int k (k.wrap (a * 2 ^ (min b.toNat k.bits))), [0 ≤ b])
  | .shr => some (.int k (a.fdiv (2 ^ (min b.toNat k.bits))), [0 ≤ b])
  | _ => none
def strBin (op : BinOp) (x y : ByteArray) : Option (Value × List Prop) :=
  match op with
  | .add => some (.string (x ++ y), [x.size + y.size ≤ 9223372036854775807])
  | .eql => some (.bool (x.toList == y.toList), [])
  | .neq => some (.bool (!(x.toList == y.toList)), [])
  | .lss => some (.bool (Op.bytesLess x.toList y.toList), [])
  | .leq => some (.bool (Op.bytesLess x.toList y.toList || x.toList == y.toList), [])
  | .gtr => some (.bool (!(Op.bytesLess x.toList y.toList || x.toList == y.toList)), [])
  | .geq => some (.bool (!(Op.bytesLess x.toList y.toList)), [])
  | _ => none
def valBin (P : Program) (op : BinOp) (t : TypeId) (x y : Value) : Option (Value × List Prop) :=
  match x, y with
  | .int k a, .int k' b =>
    match op with
    | .shl => shiftBin .shl k a b
    | .shr => shiftBin .shr k a b
    | _ => if k = k' then intBin op k a b else none
  | .string a, .string b => strBin op a b
  | .bool a, .bool b =>
    match P.underlying t, op with
    | some .bool, .eql => some (.bool (a == b), [])
    | some .bool, .neq => some (.bool (!(a == b)), [])
    | _, _ => none
  | _, _ => none
def eqVal (P : Program) (t : TypeId) (x y : Value) : Option Bool :=
  match P.underlying t, x, y with
  | some .bool, .bool a, .bool b => some (a == b)
  | some (.int _), .int k a, .int k' b => if k = k' then some (a == b) else none
  | some .string, .string a, .string b => some (a.toList == b.toList)
  | _, _, _ => none
def cellV (xs : List SC) (i : Nat) : Option Value :=
  match xs[i]? with
  | some (.c (.val v)) => some v
  | _ => none
def within (P : Program) (n off : Nat) (t : TypeId) : Bool :=
  match P.info? t with
  | some i => Nat.ble (off + i.size) n && Nat.blt 0 i.size
  | none => false
def leaves (P : Program) : Nat → TypeId → Nat → Option (List (Nat × TypeId))
  | 0, _, _ => none
  | d + 1, t, off =>
    match P.underlying t with
    | some (.struct fs) => bif P.stoodInHeld t then none else
      fs.toList.foldr (fun f acc => match leaves P d f.type (off + f.offset), acc with
        | some l, some r => bif f.name == "_" then none else bif within P (P.cellsOf t) f.offset f.type then some (l ++ r) else none
        | _, _ => none) (some [])
    | some (.array _ _) => none
    | some _ => some [(off, t)]
    | none => none
def eqLs (P : Program) (xs ys : List SC) : List (Nat × TypeId) → Option Bool
  | [] => some true
  | (off, t) :: r =>
    match cellV xs off, cellV ys off with
    | some x, some y => match eqVal P t x y, eqLs P xs ys r with
      | some a, some b => some (a && b)
      | _, _ => none
    | _, _ => none
def isPtr : SC → Bool
  | .pb _ _ => true
  | .pe _ _ _ => true
  | .rp _ => true
  | _ => false
def evBin (P : Program) (op : BinOp) (t : TypeId) (x y : SV) : Option Eff :=
  match x, y with
  | .one (.s (.c (.val a))), .one (.s (.c (.val b))) => match valBin P op t a b with
    | some (v, c) => some { r := mkv v, cs := c }
    | none => none
  | .one (.agg xs), .one (.agg ys) =>
    bif P.eqGuardType P.depth t || !(isAggB P t && (P.info? t).isSome && Nat.beq xs.length (P.cellsOf t) && Nat.beq ys.length (P.cellsOf t)) then none else
    match leaves P 100 t 0 with
    | none => none
    | some ls => match eqLs P xs ys ls, op with
      | some b, .eql => some { r := mkv (.bool b) }
      | some b, .neq => some { r := mkv (.bool (!b)) }
      | _, _ => none
  | _, _ => none
def evUn (op : UnOp) (x : Value) : Option Value :=
  match op, x with
  | .not, .bool b => some (.bool (!b))
  | .neg, .int k n => some (.int k (k.wrap (0 - n)))
  | _, _ => none
def placeOf (P : Program) (fs : Array Field) (i : Nat) : Option (Nat × Nat) :=
  match fs[i]? with
  | some f => match P.info? f.type with
    | some j => some (f.offset, j.size)
    | none => none
  | none => none
def fillA (place : Nat → Option (Nat × Nat)) (cells : List SC) : List (Nat × AV) → Option (List SC)
  | [] => some cells
  | (i, v) :: r => match place i with
    | none => none
    | some (off, size) =>
      bif Nat.beq (avCells v).length size && Nat.ble (off + size) cells.length && (avCells v).all SC.scalar then fillA place (splice cells off (avCells v)) r else none
def partsOf (ρ : Operand → Option SV) : List (Nat × Operand) → Option (List (Nat × AV))
  | [] => some []
  | (i, x) :: r => match ρ x, partsOf ρ r with
    | some (.one v), some l => some ((i, v) :: l)
    | _, _ => none
def vals (cs : List Value) : List SC := cs.map fun v => .c (.val v)
def evBuild (P : Program) (t : TypeId) (parts : List (Nat × AV)) : Option Eff :=
  match P.info? t, P.underlying t with
  | some i, some (.struct fs) =>
    match i.zero with
    | some (.agg z) =>
      bif z.all Value.oneCell' && fs.all (fun f => (P.info? f.type).isSome) then
        match fillA (placeOf P fs) (vals z.toList) parts with
        | some cs => some { r := .one (.agg cs) }
        | none => none
      else none
    | _ => none
  | some i, some (.array _ e) =>
    match i.zero, P.info? e with
    | some (.agg z), some j =>
      bif z.all Value.oneCell' then
        match fillA (fun k => some (k * j.size, j.size)) (vals z.toList) parts with
        | some cs => some { r := .one (.agg cs) }
        | none => none
      else none
    | _, _ => none
  | _, _ => none
def rep (z : List SC) : Nat → List SC
  | 0 => []
  | n + 1 => z ++ rep z n
def evBuildSlice (P : Program) (t : TypeId) (id len : Nat) (parts : List (Nat × AV)) : Option Eff :=
  match elemInfo P t with
  | none => none
  | some (_, i, z) =>
    bif Nat.ble (len * i.size) 16777216 then
      match fillA (fun k => some (k * i.size, i.size)) (rep (vals z.toList) len) parts with
      | some cs => match allCV cs with
        | some xs => some { r := .one (.s (.sl id 0 len)), ws := [(id, .arr i.size len (fun j => (xs.drop (j * i.size)).take i.size))] }
        | none => none
      | none => none
    else none
def evMake (P : Program) (t : TypeId) (id : Nat) (l c : Int) : Option Eff :=
  match elemInfo P t with
  | none => none
  | some (_, i, z) =>
    some { r := .one (.s (.sl id 0 l.toNat)), ws := [(id, .arr i.size l.toNat (fun _ => z.toList.map .val))],
           cs := [0 ≤ l ∧ l ≤ c ∧ c ≤ 9223372036854775807 ∧ c * i.bytes ≤ 140737488355328] }
def intOpt (ρ : Operand → Option SV) : Option Operand → Option (Option Int)
  | none => some none
  | some x => match ρ x with
    | some (.one (.s (.c (.val (.int _ n))))) => some (some n)
    | _ => none
def evSlice (P : Program) (t : TypeId) (get : Nat → AObj) (x : SC) (lo hi mx : Option Int) : Option Eff :=
  match P.underlying t with
  | some (.slice e) =>
    match P.info? e with
    | none => none
    | some ie =>
    match mx with
    | some m => match lo, hi, lenOf x with
      | none, some h, some _ => bif (h == 0) && (m == 0) then some { r := .one (.s (.c .e0)) } else none
      | _, _, _ => none
    | none =>
      match x with
      | .sl k l len => match get k with
        | .arr z _ _ => bif Nat.beq z ie.size then
            let b : Int := match hi with | some h => h | none => (len : Int)
            match lo with
            | none => some { r := .one (.s (.sl k l b.toNat)), cs := [0 ≤ b ∧ b ≤ len] }
            | some a => some { r := .one (.s (.sl k (l + a.toNat) (b.toNat - a.toNat))), cs := [0 ≤ a ∧ a ≤ b ∧ b ≤ len] }
          else none
        | _ => none
      | .c (.rd z n f) =>
        bif Nat.beq z ie.size then
        let b : Int := match hi with | some h => h | none => (n : Int)
        match lo with
        | none => some { r := .one (.s (.c (.rd z b.toNat f))), cs := [0 ≤ b ∧ b ≤ n] }
        | some a => some { r := .one (.s (.c (.rd z (b.toNat - a.toNat) (fun i => f (a.toNat + i))))), cs := [0 ≤ a ∧ a ≤ b ∧ b ≤ n] }
        else none
      | _ => none
  | some .string =>
    match x, mx with
    | .c (.val (.string s)), none =>
      let b : Int := match hi with | some h => h | none => (s.size : Int)
      let a : Int := match lo with | some h => h | none => 0
      some { r := mkv (.string (s.extract a.toNat b.toNat)), cs := [0 ≤ a ∧ a ≤ b ∧ b ≤ s.size] }
    | _, _ => none
  | _ => none
def evField (P : Program) (s : TypeId) (f : Nat) : Option (Nat × TypeId) :=
  match P.underlying s with
  | some (.struct fs) => match fs[f]? with
    | some fl => match P.info? fl.type with
      | some i => bif Nat.beq i.size 0 then none else some (fl.offset, fl.type)
      | none => none
    | none => none
  | _ => none
def evFieldAddr (P : Program) (s : TypeId) (x : SC) (f : Nat) : Option Eff :=
  match evField P s f with
  | none => none
  | some (o, _) => match x with
    | .pb k off => some { r := .one (.s (.pb k (off + o))) }
    | .pe k i off => some { r := .one (.s (.pe k i (off + o))) }
    | .rp cs => some { r := .one (.s (.rp (cs.drop o))) }
    | _ => none
def evIndexAddr (P : Program) (t : TypeId) (get : Nat → AObj) (x : SC) (i : Int) : Option Eff :=
  match P.underlying t with
  | some (.slice e) => match P.info? e with
    | none => none
    | some ie => match x with
      | .sl k lo len => match get k with
        | .arr z _ _ => bif Nat.beq z ie.size then some { r := .one (.s (.pe k (lo + i.toNat) 0)), cs := [0 ≤ i ∧ i < len] } else none
        | _ => none
      | .c (.rd z n f) => bif Nat.beq z ie.size then some { r := .one (.s (.rp (f i.toNat))), cs := [0 ≤ i ∧ i < n] } else none
      | _ => none
  | some (.array len e) => match P.info? e with
    | none => none
    | some ie => match x with
      | .pb k off => some { r := .one (.s (.pb k (off + i.toNat * ie.size))), cs := [0 ≤ i ∧ i < len] }
      | .pe k j off => some { r := .one (.s (.pe k j (off + i.toNat * ie.size))), cs := [0 ≤ i ∧ i < len] }
      | .rp cs => some { r := .one (.s (.rp (cs.drop (i.toNat * ie.size)))), cs := [0 ≤ i ∧ i < len] }
      | _ => none
  | _ => none
def minI : List Value → Option Value
  | [] => none
  | .int k x :: r => r.foldl (fun acc v => match acc, v with
    | some (.int k x), .int _ y => some (.int k (if y < x then y else x))
    | _, _ => none) (some (.int k x))
  | _ => none
def maxI : List Value → Option Value
  | [] => none
  | .int k x :: r => r.foldl (fun acc v => match acc, v with
    | some (.int k x), .int _ y => some (.int k (if x < y then y else x))
    | _, _ => none) (some (.int k x))
  | _ => none
def allVals (ρ : Operand → Option SV) : List Operand → Option (List Value)
  | [] => some []
  | x :: r => match ρ x, allVals ρ r with
    | some (.one (.s (.c (.val v)))), some l => some (v :: l)
    | _, _ => none
def strLen : SV → Option Nat
  | .one (.s (.c (.val (.string s)))) => some s.size
  | _ => none
def evLen (P : Program) (t : TypeId) (x : SV) : Option Eff :=
  match P.underlying t with
  | some .string => match strLen x with
    | some n => some { r := mkv (.int .i64 (n : Int)) }
    | none => none
  | some (.slice _) => match x with
    | .one (.s y) => match lenOf y with
      | some n => some { r := mkv (.int .i64 (n : Int)) }
      | none => none
    | _ => none
  | some (.array n _) => some { r := mkv (.int .i64 (n : Int)) }
  | _ => none
def evBuiltin (P : Program) (id : Nat) (get : Nat → AObj) (ρ : Operand → Option SV) (b : Builtin) (args : List Operand) (ts : List TypeId) : Option Eff :=
  match b, args, ts with
  | .len, [x], t :: _ => match ρ x with
    | some v => evLen P t v
    | none => none
  | .append, [s, x], [t, u] => match ρ s, ρ x, P.underlying u with
    | some (.one (.s s)), some (.one (.s x)), some (.slice _) => evAppend P t id get s x
    | _, _, _ => none
  | .copy, [s, x], t :: _ => match ρ s, ρ x with
    | some (.one (.s s)), some (.one (.s x)) => evCopy P t get s x
    | _, _ => none
  | .min, args, _ => match allVals ρ args with
    | some vs => match minI vs with
      | some v => some { r := mkv v }
      | none => none
    | none => none
  | .max, args, _ => match allVals ρ args with
    | some vs => match maxI vs with
      | some v => some { r := mkv v }
      | none => none
    | none => none
  | _, _, _ => none
def capsOf (ρ : Operand → Option SV) : List Operand → Option (List Nat)
  | [] => some []
  | x :: r => match ρ x, capsOf ρ r with
    | some (.one (.s (.pb k 0))), some l => some (k :: l)
    | _, _ => none
def evalOp (P : Program) (id : Nat) (ρ : Operand → Option SV) (get : Nat → AObj) : Op → Option Eff
  | .move x => match ρ x with
    | some v => some { r := v }
    | none => none
  | .assign x => match ρ x with
    | some v => some { r := v }
    | none => none
  | .pick c a b => match ρ c with
    | some (.one (.s (.c (.val (.bool true))))) => match ρ a with
      | some v => some { r := v }
      | none => none
    | some (.one (.s (.c (.val (.bool false))))) => match ρ b with
      | some v => some { r := v }
      | none => none
    | _ => none
  | .alloc T => match P.info? T with
    | some i => match i.zero with
      | some z => bif z.cells.all Value.oneCell' then some { r := .one (.s (.pb id 0)), ws := [(id, .box (vals z.cells.toList))] } else none
      | none => none
    | none => none
  | .box _ x => match ρ x with
    | some (.one v) => bif (avCells v).all SC.scalar then some { r := .one (.s (.pb id 0)), ws := [(id, .box (avCells v))] } else none
    | _ => none
  | .build t ps => match partsOf ρ ps.toList with
    | some l => evBuild P t l
    | none => none
  | .buildSlice t n ps => match partsOf ρ ps.toList with
    | some l => evBuildSlice P t id n l
    | none => none
  | .load T a => match ρ a with
    | some (.one (.s p)) => evLoad P T get p
    | _ => none
  | .store T a v => match ρ a, ρ v with
    | some (.one (.s p)), some (.one v) => evStore P T get p v
    | _, _ => none
  | .nilCheck x => match ρ x with
    | some (.one (.s p)) => bif isPtr p then some { r := .one (.s p) } else none
    | _ => none
  | .binOp op t x y _ => match ρ x, ρ y with
    | some x, some y => evBin P op t x y
    | _, _ => none
  | .unOp op _ x => match ρ x with
    | some (.one (.s (.c (.val v)))) => match evUn op v with
      | some u => some { r := mkv u }
      | none => none
    | _ => none
  | .convert s d x => match P.underlying s, P.underlying d, ρ x with
    | some (.int _), some (.int k), some (.one (.s (.c (.val (.int _ n))))) => some { r := mkv (.int k (k.wrap n)) }
    | some .string, some .string, some (.one (.s (.c (.val (.string b))))) => some { r := mkv (.string b) }
    | _, _, _ => none
  | .makeFunc fn first caps => match fn, capsOf ρ caps.toList with
    | .func f, some ks => bif Nat.beq first.size 0 then some { r := .one (.s (.fn f ks)) } else none
    | _, _ => none
  | .makeSlice t l c => match ρ l, ρ c with
    | some (.one (.s (.c (.val (.int _ l))))), some (.one (.s (.c (.val (.int _ c))))) => evMake P t id l c
    | _, _ => none
  | .slice t x lo hi mx => match ρ x, intOpt ρ lo, intOpt ρ hi, intOpt ρ mx with
    | some (.one (.s x)), some lo, some hi, some mx => evSlice P t get x lo hi mx
    | _, _, _, _ => none
  | .fieldAddr s x f => match ρ x with
    | some (.one (.s p)) => evFieldAddr P s p f
    | _ => none
  | .field s x f => match ρ x, evField P s f with
    | some (.one (.agg cs)), some (o, t) => match loadA P t cs o with
      | some v => some { r := .one v }
      | none => none
    | _, _ => none
  | .indexAddr t x i => match ρ x, ρ i with
    | some (.one (.s p)), some (.one (.s (.c (.val (.int _ n))))) => evIndexAddr P t get p n
    | _, _ => none
  | .index t x i => match P.underlying t, ρ x, ρ i with
    | some .string, some (.one (.s (.c (.val (.string s))))), some (.one (.s (.c (.val (.int _ n))))) => some { r := mkv (.int .u8 (((s.data.toList.getD n.toNat 0).toNat : Nat) : Int)), cs := [0 ≤ n ∧ n < s.size] }
    | _, _, _ => none
  | .extract x i => match ρ x with
    | some (.tup vs) => match vs[i]? with
      | some v => some { r := .one v }
      | none => none
    | _ => none
  | .call c => match c.callee with
    | .builtin b => evBuiltin P id get ρ b c.args.toList c.argTypes.toList
    | _ => none
  | _ => none
end Go.AM
