/-
  The abstract machine, part B: what an operation does to abstract values.
  Conditions: none; definitions alone.
-/
import Derived.Test.YtgjjcdjcpbjdgaaGreatDoorPvA
namespace Go.Proofs.Pv
set_option linter.unusedVariables false
set_option linter.unusedSimpArgs false
open Go

/-! ### Types, as the abstract machine asks them -/
def sz (P : Program) (t : TypeId) : Option Nat :=
  match P.info? t, P.underlying t with
  | some i, some _ => some i.size
  | _, _ => none
def byt (P : Program) (t : TypeId) : Option Nat := (P.info? t).map (·.bytes)
def ag (P : Program) (t : TypeId) : Bool :=
  match P.underlying t with
  | some (.struct _) | some (.array _ _) => true
  | _ => false
def elt (P : Program) (t : TypeId) : Option TypeId :=
  match P.underlying t with
  | some (.slice e) => some e
  | _ => none
def arr (P : Program) (t : TypeId) : Option (Nat × TypeId) :=
  match P.underlying t with
  | some (.array n e) => some (n, e)
  | _ => none
/-- The cells' kinds of a type: of a slice how many cells an element has. -/
def cellKs (P : Program) : Nat → TypeId → List Nat
  | 0, _ => []
  | d + 1, t =>
    match P.underlying t with
    | some (.slice e) => [(sz P e).getD 0]
    | some (.struct fs) => fs.toList.flatMap fun f => cellKs P d f.type
    | some (.array n e) => (List.replicate n (cellKs P d e)).flatten
    | _ => [0]
def kOf (P : Program) (t : TypeId) : Nat := ((elt P t).bind (sz P)).getD 0
/-- A field: where it begins, how many cells, its type. -/
def fld (P : Program) (t : TypeId) (i : Nat) : Option (Nat × Nat × TypeId) :=
  match P.underlying t with
  | some (.struct fs) => match fs[i]? with
    | some f => match sz P f.type with
      | some n => some (f.offset, n, f.type)
      | none => none
    | none => none
  | _ => none

def ofV1 (k : Nat) : Value → AV
  | .bool b => .bool b
  | .int q n => .int q n
  | .string s => .str s
  | .pointer none => .nilp
  | .slice none 0 0 => .sl k [] .full
  | .map none => .nilm
  | .nilFunc => .nilf
  | .nilIface => .nili
  | _ => .undef
def ofVs : List Nat → List Value → List AV
  | _, [] => []
  | [], v :: vs => ofV1 0 v :: ofVs [] vs
  | k :: ks, v :: vs => ofV1 k v :: ofVs ks vs
def zro (P : Program) (t : TypeId) : Option (List AV) :=
  match P.info? t with
  | some i => match i.zero with
    | some z => some (ofVs (cellKs P 8 t) z.cells.toList)
    | none => none
  | none => none

def evC (P : Program) (ty : TypeId) : Value → AV
  | .agg cs => .agg (ofVs (cellKs P 8 ty) cs.toList)
  | v => ofV1 (kOf P ty) v
/-- Of which empty slices append makes such as may change: of types that a mark stands for. -/
def mutOf (G : Nat → Option (List AV)) (ty : TypeId) : Tk := match G (ty + 1000000) with
  | some _ => .mut
  | none => .full
def evK (P : Program) (G : Nat → Option (List AV)) (ty : TypeId) : Value → AV
  | .slice none 0 0 => .sl (kOf P ty) [] (mutOf G ty)
  | v => evC P ty v
def ev (P : Program) (G : Nat → Option (List AV)) (s : List AV) (ty : TypeId) : Operand → AV
  | .tmp t => s.getD t .undef
  | .const v => evK P G ty v
  | .global g => match G g with
    | some cs => .vp cs
    | none => .undef
  | .func f => .fn f [] []

/-! ### Numbers, bools, strings -/
def AV.isUndef : AV → Bool
  | .undef => true
  | _ => false
def AV.isNil : AV → Option Bool
  | .nilp | .nilf | .nilm => some true
  | .ptr _ _ | .vp _ | .fn _ _ _ | .map _ => some false
  | _ => none
def aarith (op : BinOp) (k : IntKind) (a b : Int) : Option AV :=
  match op with
  | .add => some (.int k (k.wrap (a + b)))
  | .sub => some (.int k (k.wrap (a - b)))
  | .mul => some (.int k (k.wrap (a * b)))
  | .quo => if b = 0 then none else some (.int k (k.wrap (a.tdiv b)))
  | .rem => if b = 0 then none else some (.int k (a.tmod b))
  | .and => some (.int k (k.wrap (BitVec.ofInt k.bits a &&& BitVec.ofInt k.bits b).toNat))
  | .or => some (.int k (k.wrap (BitVec.ofInt k.bits a ||| BitVec.ofInt k.bits b).toNat))
  | .xor => some (.int k (k.wrap (BitVec.ofInt k.bits a ^^^ BitVec.ofInt k.bits b).toNat))
  | .andNot => some (.int k (k.wrap (BitVec.ofInt k.bits a &&& ~~~(BitVec.ofInt k.bits b)).toNat))
  | .eql => some (.bool (a == b))
  | .neq => some (.bool (a != b))
  | .lss => some (.bool (a < b))
  | .leq => some (.bool (a ≤ b))
  | .gtr => some (.bool (a > b))
  | .geq => some (.bool (a ≥ b))
  | _ => none
def astr (op : BinOp) (x y : ByteArray) : Option AV :=
  match op with
  | .add => if ((x.size + y.size : Nat) : Int) > IntKind.i64.max then none else some (.str (x ++ y))
  | .eql => some (.bool (x.toList == y.toList))
  | .neq => some (.bool (!(x.toList == y.toList)))
  | .lss => some (.bool (Op.bytesLess x.toList y.toList))
  | .leq => some (.bool (Op.bytesLess x.toList y.toList || x.toList == y.toList))
  | .gtr => some (.bool (!(Op.bytesLess x.toList y.toList || x.toList == y.toList)))
  | .geq => some (.bool (!Op.bytesLess x.toList y.toList))
  | _ => none
/-- '==' of two values of a type without interfaces. -/
def partA (P : Program) (t : TypeId) (cs : List AV) (off : Nat) : Option AV :=
  match sz P t with
  | none => none
  | some n => if ag P t then (if off + n ≤ cs.length then some (.agg ((cs.drop off).take n)) else none) else cs[off]?
def aeqF (P : Program) (eq : TypeId → AV → AV → Option Bool) : List Field → List AV → List AV → Option Bool
  | [], _, _ => some true
  | f :: fs, xs, ys =>
    if f.name = "_" then none else
    match partA P f.type xs f.offset, partA P f.type ys f.offset with
    | some a, some b => match eq f.type a b, aeqF P eq fs xs ys with
      | some r, some r' => some (r && r')
      | _, _ => none
    | _, _ => none
def aeq (P : Program) : Nat → TypeId → AV → AV → Option Bool
  | 0, _, _, _ => none
  | d + 1, t, x, y =>
    match P.underlying t, x, y with
    | some .bool, .bool a, .bool b => some (a == b)
    | some (.int _), .int k a, .int k' b => if k = k' then some (a == b) else none
    | some .string, .str a, .str b => some (a == b)
    | some (.struct fs), .agg xs, .agg ys => if P.stoodInHeld t then none else aeqF P (aeq P d) fs.toList xs ys
    | _, _, _ => none
def abin (P : Program) (op : BinOp) (t : TypeId) (x y : AV) : Option AV :=
  match x, y with
  | .int k a, .int k' b =>
    match op with
    | .shl => if b < 0 then none else some (.int k (k.wrap (a * 2 ^ (min b.toNat k.bits))))
    | .shr => if b < 0 then none else some (.int k (a.fdiv (2 ^ (min b.toNat k.bits))))
    | _ => if k = k' then aarith op k a b else none
  | .str a, .str b => astr op a b
  | .bool a, .bool b =>
    match op, P.underlying t with
    | .eql, some .bool => some (.bool (a == b))
    | .neq, some .bool => some (.bool (!(a == b)))
    | _, _ => none
  | .agg xs, .agg ys =>
    match op with
    | .eql => if P.eqGuardType P.depth t then none else (aeq P 9 t (.agg xs) (.agg ys)).map .bool
    | .neq => if P.eqGuardType P.depth t then none else (aeq P 9 t (.agg xs) (.agg ys)).map fun b => .bool (!b)
    | _ => none
  | x, .nilp =>
    match op, x, P.underlying t with
    | .eql, .nilp, some (.pointer _) => some (.bool true)
    | .neq, .nilp, some (.pointer _) => some (.bool false)
    | .eql, .ptr _ _, some (.pointer _) | .eql, .vp _, some (.pointer _) => some (.bool false)
    | .neq, .ptr _ _, some (.pointer _) | .neq, .vp _, some (.pointer _) => some (.bool true)
    | _, _, _ => none
  | _, _ => none
def aun (op : UnOp) (x : AV) : Option AV :=
  match op, x with
  | .neg, .int k n => some (.int k (k.wrap (0 - n)))
  | .not, .bool b => some (.bool (!b))
  | .xor, .int k n => some (.int k (k.wrap (BitVec.ofInt k.bits (if k.signed then -1 else k.max) ^^^ BitVec.ofInt k.bits n).toNat))
  | _, _ => none
def AV.ite (c : Bool) (x y : AV) : AV :=
  match x, y with
  | .bool a, .bool b => .bool (if c then a else b)
  | x, y => if c then x else y

/-! ### Memory -/
inductive Res where
  | val (v : AV) (u : List (Nat × Option Blk))
  | skip (u : List (Nat × Option Blk))
  | call (f : FuncId) (args : List AV)
  | yield (key : Nat) (args : List AV)
  | branch (l : List (AV × List (Nat × Option Blk)))
  deriving Inhabited

def mkv (a : Bool) (n : Nat) (cs : List AV) : Option AV :=
  if n ≤ cs.length then (if a then some (.agg (cs.take n)) else cs.head?) else none
def aload (P : Program) (g : Hp) (t : TypeId) (a : AV) : Option AV :=
  match sz P t, a with
  | some n, .ptr key off => match g key with
    | some (.cells cs) => if off ≤ cs.length then mkv (ag P t) n (cs.drop off) else none
    | _ => none
  | some n, .vp cs => mkv (ag P t) n cs
  | _, _ => none
def splice (cs : List AV) (off : Nat) (vs : List AV) : List AV := cs.take off ++ vs ++ cs.drop (off + vs.length)
def astore (P : Program) (g : Hp) (t : TypeId) (a v : AV) : Option (List (Nat × Option Blk)) :=
  match a with
  | .ptr key off => match g key, sz P t with
    | some (.cells cs), some n =>
      if v.isUndef = false ∧ v.cells.length = n ∧ v.cells.all AV.one ∧ off + n ≤ cs.length then some [(key, some (.cells (splice cs off v.cells)))] else none
    | _, _ => none
  | _ => none
/-- The parts of a value that is built, laid over its zero value. -/
def fillA (place : Nat → Option (Nat × Nat)) : List AV → List (Nat × AV) → Option (List AV)
  | cs, [] => some cs
  | cs, (i, v) :: rest =>
    match place i with
    | some (off, n) => if v.isUndef = false ∧ v.cells.length = n ∧ off + n ≤ cs.length then fillA place (splice cs off v.cells) rest else none
    | none => none
/-- Where the parts of a struct, or an array, begin, and how many cells they have. -/
def places (P : Program) (t : TypeId) : Option (List (Nat × Nat)) :=
  match P.underlying t with
  | some (.struct fs) => fs.toList.mapM fun f => (P.info? f.type).map fun i => (f.offset, i.size)
  | some (.array n e) => (P.info? e).map fun i => (List.range n).map fun j => (j * i.size, i.size)
  | _ => none
def ptOf (P : Program) (t : TypeId) (i : Nat) : TypeId :=
  match P.underlying t with
  | some (.struct fs) => match fs[i]? with
    | some f => f.type
    | none => 0
  | some (.array _ e) => e
  | some (.slice e) => e
  | _ => 0
def rowsOf (a : Bool) : List AV → List AV
  | cs => if a then [.agg cs] else cs.take 1
def chunks (a : Bool) (k : Nat) : Nat → List AV → List AV
  | 0, _ => []
  | n + 1, cs => (if a then AV.agg (cs.take k) else cs.headD .undef) :: chunks a k n (cs.drop k)
def alen (P : Program) (g : Hp) (t : TypeId) (x : AV) : Option AV :=
  match P.underlying t, x with
  | some .string, .str s => some (.int .i64 s.size)
  | some (.slice _), .sl _ rows _ => some (.int .i64 rows.length)
  | some (.slice _), .msl _ _ n _ => some (.int .i64 n)
  | some (.map _ _), .nilm => some (.int .i64 0)
  | some (.map _ _), .map key => match g key with
    | some (.map es _) => some (.int .i64 es.length)
    | _ => none
  | some (.array n _), _ => some (.int .i64 n)
  | _, _ => none
def bnd (x : Option AV) (d : Nat) : Option Int :=
  match x with
  | none => some d
  | some (.int _ n) => some n
  | _ => none
def aslice (P : Program) (t : TypeId) (x : AV) (lo hi mx : Option AV) : Option AV :=
  match P.underlying t, x with
  | some .string, .str s =>
    match mx, bnd lo 0, bnd hi s.size with
    | none, some l, some h => if 0 ≤ l ∧ l ≤ h ∧ h ≤ s.size then some (.str (s.extract l.toNat h.toNat)) else none
    | _, _, _ => none
  | some (.slice e), .sl k rows tk =>
    match bnd lo 0, bnd hi rows.length with
    | some l, some h =>
      if 0 ≤ l ∧ l ≤ h ∧ h ≤ rows.length ∧ sz P e = some k then
        match mx with
        | none => some (.sl k ((rows.take h.toNat).drop l.toNat) (if l = 0 ∧ h = rows.length then tk else if tk = .full ∧ h = rows.length then .full else .none))
        | some (.int _ m) => if hi.isSome ∧ h ≤ m ∧ m ≤ rows.length then some (.sl k ((rows.take h.toNat).drop l.toNat) (if m = h then .full else .none)) else none
        | _ => none
      else none
    | _, _ => none
  | some (.slice e), .msl key off n k =>
    match bnd lo 0, bnd hi n, mx with
    | some l, some h, none => if 0 ≤ l ∧ l ≤ h ∧ h ≤ n ∧ l < n ∧ sz P e = some k then some (.msl key (off + l.toNat * k) (h.toNat - l.toNat) k) else none
    | _, _, _ => none
  | _, _ => none
def afield (P : Program) (t : TypeId) (x : AV) (f : Nat) : Option AV :=
  match fld P t f, x with
  | some (off, _, ft), .agg cs => partA P ft cs off
  | _, _ => none
def afaddr (P : Program) (t : TypeId) (x : AV) (f : Nat) : Option AV :=
  match fld P t f, x with
  | some (off, n, _), .ptr key o => if n = 0 then none else some (.ptr key (o + off))
  | some (off, n, _), .vp cs => if n = 0 ∨ cs.length < off then none else some (.vp (cs.drop off))
  | _, _ => none
def aiaddr (P : Program) (t : TypeId) (x i : AV) : Option AV :=
  match i with
  | .int _ i =>
    match P.underlying t, x with
    | some (.slice e), .sl k rows _ =>
      match sz P e with
      | some n => if n = k ∧ 0 ≤ i then match rows[i.toNat]? with
          | some r => some (.vp r.cells)
          | none => none
        else none
      | none => none
    | some (.slice e), .msl key off n k => if sz P e = some k ∧ 0 ≤ i ∧ i < n then some (.ptr key (off + i.toNat * k)) else none
    | some (.array n e), .ptr key off => match sz P e with
      | some k => if 0 ≤ i ∧ i < n then some (.ptr key (off + i.toNat * k)) else none
      | none => none
    | some (.array n e), .vp cs => match sz P e with
      | some k => if 0 ≤ i ∧ i < n ∧ i.toNat * k ≤ cs.length then some (.vp (cs.drop (i.toNat * k))) else none
      | none => none
    | _, _ => none
  | _ => none
def aindex (P : Program) (t : TypeId) (x i : AV) : Option AV :=
  match i with
  | .int _ i =>
    match P.underlying t, x with
    | some (.array n e), .agg cs => match sz P e with
      | some k => if 0 ≤ i ∧ i < n then partA P e cs (i.toNat * k) else none
      | none => none
    | some .string, .str s => if 0 ≤ i then match s[i.toNat]? with
        | some b => some (.int .u8 b.toNat)
        | none => none
      else none
    | _, _ => none
  | _ => none
/-- append(s, x...). -/
def aappend (P : Program) (g : Hp) (nx : Nat) (t : TypeId) (s x : AV) : Option (AV × List (Nat × Option Blk)) :=
  match elt P t with
  | none => none
  | some e =>
    match sz P e, byt P e, s, x with
    | some n, some by_, .sl k rows tk, .sl k' ys _ =>
      if ys.isEmpty then some (.sl k rows tk, []) else
      if k = n ∧ k' = n ∧ 0 < n ∧ 0 < by_ ∧ (rows.length + ys.length) * by_ ≤ 140737488355328 ∧ (zro P e).map List.length = some n then
        match tk with
        | .none | .mut => none
        | .full => some (.sl n (rows ++ ys) (.tok nx), [(nx, some .tok)])
        | .tok q => match g q with
          | some .tok => some (.sl n (rows ++ ys) (.tok nx), [(q, none), (nx, some .tok)])
          | _ => none
      else none
    | _, _, _, _ => none
/-- The cells that append adds, and how many elements they are. -/
def xcells (g : Hp) (n : Nat) : AV → Option (List AV × Nat)
  | .sl k ys _ => if k = n then some (ys.flatMap AV.cells, ys.length) else none
  | .msl key off m k => match g key with
    | some (.cells cs) => if k = n ∧ off + m * n ≤ cs.length then some ((cs.drop off).take (m * n), m) else none
    | _ => none
  | _ => none
def AV.isMsl : AV → Bool
  | .msl _ _ _ _ => true
  | _ => false
/-- append that makes a slice that may change, or goes on with one. -/
def aappM (P : Program) (g : Hp) (nx : Nat) (t : TypeId) (s x : AV) : Option (AV × List (Nat × Option Blk)) :=
  match elt P t with
  | none => none
  | some e =>
    match sz P e, byt P e with
    | some n, some by_ =>
      match xcells g n x with
      | none => none
      | some (ys, m) =>
        if 0 < m ∧ 0 < n ∧ 0 < by_ ∧ (zro P e).map List.length = some n ∧ ys.all AV.one = true then
          match s with
          | .sl k rows tk => if k = n ∧ (tk = .mut ∨ tk = .full ∧ x.isMsl = true) ∧ (rows.length + m) * by_ ≤ 140737488355328 then
              some (.msl nx 0 (rows.length + m) n, [(nx, some (.cells (rows.flatMap AV.cells ++ ys)))]) else none
          | .msl key off c k => match g key with
            | some (.cells cs) => if off = 0 ∧ k = n ∧ cs.length = c * n ∧ (c + m) * by_ ≤ 140737488355328 then
                some (.msl nx 0 (c + m) n, [(key, none), (nx, some (.cells (cs ++ ys)))]) else none
            | _ => none
          | _ => none
        else none
    | _, _ => none
/-- copy(d, x...). -/
def acopy (P : Program) (g : Hp) (t : TypeId) (d x : AV) : Option (AV × List (Nat × Option Blk)) :=
  match elt P t, d with
  | some e, .msl key off m k => (match sz P e with
    | some n => (match g key, xcells g n x with
      | some (.cells cs), some (ys, l) => if k = n ∧ off + m * n ≤ cs.length ∧ 0 < l ∧ ys.all AV.one = true then
          some (.int .i64 (min l m : Nat), [(key, some (.cells (splice cs off (ys.take (min l m * n)))))]) else none
      | _, _ => none)
    | none => none)
  | _, _ => none
def amax (lt : Int → Int → Bool) : AV → List AV → Option AV
  | x, [] => some x
  | .int k a, .int k' b :: rest => if k = k' then amax lt (.int k (if lt a b then b else a)) rest else none
  | _, _ => none
def abuiltin (P : Program) (g : Hp) (nx : Nat) (b : Builtin) (ts : Array TypeId) (args : List AV) : Option (AV × List (Nat × Option Blk)) :=
  match b, args with
  | .len, [x] => (alen P g (ts.getD 0 0) x).map fun v => (v, [])
  | .append, [s, x] => if ts.getD 1 0 = ts.getD 0 0 then (match aappend P g nx (ts.getD 0 0) s x with
      | some r => some r
      | none => aappM P g nx (ts.getD 0 0) s x) else none
  | .max, x :: rest => (amax (fun a b => a < b) x rest).map fun v => (v, [])
  | .min, x :: rest => (amax (fun a b => b < a) x rest).map fun v => (v, [])
  | .copy, [d, x] => acopy P g (ts.getD 0 0) d x
  | _, _ => none
def evs (P : Program) (G : Nat → Option (List AV)) (s : List AV) (ts : Array TypeId) : Nat → List Operand → List AV
  | _, [] => []
  | i, x :: rest => ev P G s (ts.getD i 0) x :: evs P G s ts (i + 1) rest
def acall (f : AV) (args : List AV) : Option Res :=
  match f with
  | .fn f first cap => some (.call f (first ++ args ++ cap))
  | .yld key => some (.yield key args)
  | _ => none
def evo (P : Program) (G : Nat → Option (List AV)) (s : List AV) (x : Option Operand) : Option AV := x.map (ev P G s 0)

def zeroRow (P : Program) (e : TypeId) : Option (Nat × AV) :=
  match sz P e, zro P e with
  | some n, some z =>
    if ag P e then (if z.length = n ∧ 0 < n then some (n, .agg z) else none)
    else match z with
      | [x] => if n = 1 ∧ x.one then some (1, x) else none
      | _ => none
  | _, _ => none
def setRows (n : Nat) : List AV → List (Nat × AV) → Option (List AV)
  | rows, [] => some rows
  | rows, (i, v) :: rest => if v.isUndef = false ∧ v.cells.length = n ∧ i < rows.length then setRows n (rows.set i v) rest else none
def abslice (P : Program) (nx : Nat) (t : TypeId) (len : Nat) (parts : List (Nat × AV)) : Option Res :=
  match elt P t with
  | none => none
  | some e => match zeroRow P e with
    | none => none
    | some (n, z) =>
      if len * n ≤ 16777216 then
        match setRows n (List.replicate len z) (parts.map fun p => (p.1, p.2.strip)) with
        | none => none
        | some rows =>
          if rows.all AV.pureV then some (.val (.sl n rows .full) [])
          else if rows.all fun r => (r.cells.all AV.one) then some (.val (.msl nx 0 len n) [(nx, some (.cells (rows.flatMap AV.cells)))]) else none
      else none

abbrev Gl := Nat → Option (List AV)
def oPick (P : Program) (G : Gl) (s : List AV) (ty : TypeId) (c a b : Operand) : Option Res :=
  match ev P G s ty c with
  | .bool q => some (.val (AV.ite q (ev P G s ty a) (ev P G s ty b)) [])
  | _ => none
def oAlloc (P : Program) (nx : Nat) (e : TypeId) : Option Res :=
  match zro P e with
  | some z => some (.val (.ptr nx 0) [(nx, some (.cells z))])
  | none => none
def oBox (P : Program) (G : Gl) (s : List AV) (nx : Nat) (e : TypeId) (x : Operand) : Option Res :=
  let v := ev P G s e x
  if v.isUndef then none else some (.val (.ptr nx 0) [(nx, some (.cells v.cells))])
def oBuild (P : Program) (G : Gl) (s : List AV) (t : TypeId) (ps : Array (Nat × Operand)) : Option Res :=
  match zro P t, places P t with
  | some z, some pl => ((fillA (fun i => pl[i]?) z (ps.toList.map fun p => (p.1, ev P G s (ptOf P t p.1) p.2))).map .agg).map fun v => .val v []
  | _, _ => none
def oBuildSlice (P : Program) (G : Gl) (s : List AV) (nx : Nat) (t : TypeId) (len : Nat) (ps : Array (Nat × Operand)) : Option Res :=
  abslice P nx t len (ps.toList.map fun p => (p.1, ev P G s (ptOf P t 0) p.2))
def oNil (P : Program) (G : Gl) (s : List AV) (ty : TypeId) (x : Operand) : Option Res :=
  let v := ev P G s ty x
  match v with
  | .ptr _ _ | .vp _ | .fn _ _ _ => some (.val v [])
  | _ => none
def oConv (P : Program) (G : Gl) (s : List AV) (a b : TypeId) (x : Operand) : Option Res :=
  match P.underlying a, P.underlying b, ev P G s a x with
  | some _, some (.int k), .int _ n => some (.val (.int k (k.wrap n)) [])
  | some _, some .string, .str q => some (.val (.str q) [])
  | _, _, _ => none
def oFunc (P : Program) (G : Gl) (s : List AV) (f : Fn) (first cap : Array Operand) : Option Res :=
  match f with
  | .func f => some (.val (.fn f (first.toList.map (ev P G s 0)) (cap.toList.map (ev P G s 0))) [])
  | _ => none
def oExtract (P : Program) (G : Gl) (s : List AV) (x : Operand) (i : Nat) : Option Res :=
  match ev P G s 0 x with
  | .tup vs => (vs[i]?).map fun v => .val v []
  | _ => none
def oCall (P : Program) (G : Gl) (s : List AV) (g : Hp) (nx : Nat) (c : Call) : Option Res :=
  match c.callee with
  | .builtin b => if c.argTypes.size = c.args.size then (abuiltin P g nx b c.argTypes (evs P G s c.argTypes 0 c.args.toList)).map fun r => .val r.1 r.2 else none
  | .value f => acall (ev P G s 0 f) (evs P G s c.argTypes 0 c.args.toList)
  | .invoke _ _ => none

def aop1 (P : Program) (G : Nat → Option (List AV)) (s : List AV) (g : Hp) (nx : Nat) (o : Oper) : Option Res :=
  match o.op with
  | .move x => some (.val (ev P G s o.type x) [])
  | .assign x => some (.val (ev P G s o.type x) [])
  | .pick c a b => oPick P G s o.type c a b
  | .alloc e => oAlloc P nx e
  | .box e x => oBox P G s nx e x
  | .build t ps => oBuild P G s t ps
  | .buildSlice t len ps => oBuildSlice P G s nx t len ps
  | .load t a => (aload P g t (ev P G s o.type a)).map fun v => .val v []
  | .store t a x => (astore P g t (ev P G s 0 a) (ev P G s t x)).map .skip
  | .nilCheck x => oNil P G s o.type x
  | .binOp op t x y _ => (abin P op t (ev P G s t x) (ev P G s t y)).map fun v => .val v []
  | .unOp op t x => (aun op (ev P G s t x)).map fun v => .val v []
  | .convert a b x => oConv P G s a b x
  | .makeFunc f first cap => oFunc P G s f first cap
  | .slice t x lo hi mx => (aslice P t (ev P G s t x) (evo P G s lo) (evo P G s hi) (evo P G s mx)).map fun v => .val v []
  | .fieldAddr t x f => (afaddr P t (ev P G s 0 x) f).map fun v => .val v []
  | .field t x f => (afield P t (ev P G s t x) f).map fun v => .val v []
  | .indexAddr t x i => (aiaddr P t (ev P G s t x) (ev P G s 0 i)).map fun v => .val v []
  | .index t x i => (aindex P t (ev P G s t x) (ev P G s 0 i)).map fun v => .val v []
  | .extract x i => oExtract P G s x i
  | .call c => oCall P G s g nx c
  | _ => none

end Go.Proofs.Pv
