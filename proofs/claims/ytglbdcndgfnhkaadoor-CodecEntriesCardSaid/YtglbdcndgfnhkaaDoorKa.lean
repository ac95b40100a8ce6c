/- The virtual machine: a virtual heap, a monad, one function per operation, and 'exec' over the model's own code. Definitions alone. -/
import GoSem.Dispatch
import Derived.WalkKit
import Derived.Lib.ConvBytes
import Derived.Laws.BytesArg
import Derived.Laws.StructEq
import Derived.MapKept
section
namespace Go.Vm
open Go

inductive VObj where
  | cells (own : Bool) (cs : List Value) (ty : TypeId)
  | map (es : List (Value × Value))
  | dead

/-- A store: numbers (as_ bits, the least first) to objects. -/
inductive Tree where
  | leaf
  | node (l : Tree) (v : Option VObj) (r : Tree)
def Tree.get : List Bool → Tree → Option VObj
  | _, .leaf => none
  | [], .node _ v _ => v
  | b :: p, .node l _ r => cond b (Tree.get p r) (Tree.get p l)
def Tree.put : List Bool → Option VObj → Tree → Tree
  | [], o, .leaf => .node .leaf o .leaf
  | [], o, .node l _ r => .node l o r
  | b :: p, o, .leaf => cond b (.node .leaf none (Tree.put p o .leaf)) (.node (Tree.put p o .leaf) none .leaf)
  | b :: p, o, .node l v r => cond b (.node l v (Tree.put p o r)) (.node (Tree.put p o l) v r)
def bitsF : Nat → Nat → List Bool
  | 0, _ => []
  | n + 1, i => cond (Nat.beq i 0) [] (Nat.beq (i % 2) 1 :: bitsF n (i / 2))
def bits (i : Nat) : List Bool := bitsF i i

structure VS where
  next : Nat
  tree : Tree
def VS.mem (V : VS) (i : Nat) : Option VObj := V.tree.get (bits i)
def VS.set (V : VS) (i : Nat) (o : VObj) : VS := ⟨V.next, V.tree.put (bits i) (some o)⟩

inductive Res (α : Type) where
  | ok (a : α) (V : VS)
  | panic (v : Value) (V : VS)
  | stuck

def M (α : Type) : Type := VS → Res α
def M.pure {α : Type} (a : α) : M α := fun V => .ok a V
def M.bind {α β : Type} (m : M α) (f : α → M β) : M β := fun V =>
  match m V with
  | .ok a V' => f a V'
  | .panic v V' => .panic v V'
  | .stuck => .stuck
def M.stuck {α : Type} : M α := fun _ => .stuck
def M.raise {α : Type} (v : Value) : M α := fun V => .panic v V

/-- A capacity that is not known: the real one is at least the length. The rest says how many cells an element has. -/
def unk : Nat := 18446744073709551616
def isUnk (c : Nat) : Bool := Nat.ble unk c

/-! ### The type table -/
inductive TK where
  | bool | int (k : IntKind) | string | ptr | slice (e : TypeId) | array (n : Nat) (e : TypeId) | map (k e : TypeId)
  | struct (fs : List (Nat × TypeId)) | func | iface | other
structure TI where
  kind : TK
  size : Nat
  bytes : Nat
  zero : List Value
structure TT where
  types : List (Nat × TI)
  globals : Nat
def getT : List (Nat × TI) → Nat → Option TI
  | [], _ => none
  | (t, i) :: r, n => cond (Nat.beq t n) (some i) (getT r n)
def TT.get (T : TT) (n : Nat) : Option TI := getT T.types n
def TK.isAgg : TK → Bool
  | .struct _ | .array _ _ => true
  | _ => false
def TI.zeroVal (i : TI) : Value := cond i.kind.isAgg (.agg i.zero.toArray) (i.zero.headD (.tuple #[]))

/-! ### Operations -/
def addOff (n : Nat) (x : Value) : M Value :=
  match x with
  | .pointer (some ⟨b, o, none⟩) => M.pure (.pointer (some ⟨b, o + n, none⟩))
  | _ => M.stuck
def nilChk (x : Value) : M Value :=
  match x with
  | .pointer (some a) => M.pure (.pointer (some a))
  | .func (.func f) a b => M.pure (.func (.func f) a b)
  | _ => M.stuck
def ld1 (x : Value) : M Value := fun V =>
  match x with
  | .pointer (some ⟨b, o, none⟩) =>
    match V.mem b with
    | some (.cells _ cs _) => match cs[o]? with
      | some v => .ok v V
      | none => .stuck
    | _ => .stuck
  | _ => .stuck
def ldN (n : Nat) (x : Value) : M Value := fun V =>
  match x with
  | .pointer (some ⟨b, o, none⟩) =>
    match V.mem b with
    | some (.cells _ cs _) => if o + n ≤ cs.length then .ok (.agg ((cs.drop o).take n).toArray) V else .stuck
    | _ => .stuck
  | _ => .stuck
def one : Value → Bool
  | .agg _ | .tuple _ => false
  | _ => true
def st1 (x v : Value) : M Value := fun V =>
  match x with
  | .pointer (some ⟨b, o, none⟩) =>
    match V.mem b with
    | some (.cells true cs ty) => if o < cs.length ∧ one v = true then .ok (.tuple #[]) (V.set b (.cells true (cs.set o v) ty)) else .stuck
    | _ => .stuck
  | _ => .stuck
def splice (cs : List Value) (o : Nat) (vs : List Value) : List Value := cs.take o ++ vs ++ cs.drop (o + vs.length)
def stN (n : Nat) (x v : Value) : M Value := fun V =>
  match x, v with
  | .pointer (some ⟨b, o, none⟩), .agg vs =>
    match V.mem b with
    | some (.cells true cs ty) =>
      if vs.toList.length = n ∧ o + n ≤ cs.length ∧ vs.toList.all one = true then .ok (.tuple #[]) (V.set b (.cells true (splice cs o vs.toList) ty)) else .stuck
    | _ => .stuck
  | _, _ => .stuck
def newCells (id : Nat) (cs : List Value) (ty : TypeId) : M Value := fun V => .ok (.pointer (some ⟨id, 0, none⟩)) (V.set id (.cells true cs ty))
def idxSl (es : Nat) (x i : Value) : M Value :=
  match x, i with
  | .slice (some ⟨b, o, none⟩) len _, .int _ n => if 0 ≤ n ∧ n < (len : Int) then M.pure (.pointer (some ⟨b, o + n.toNat * es, none⟩)) else M.stuck
  | _, _ => M.stuck
def idxArr (es len : Nat) (x i : Value) : M Value :=
  match x, i with
  | .pointer (some ⟨b, o, none⟩), .int _ n => if 0 ≤ n ∧ n < (len : Int) then M.pure (.pointer (some ⟨b, o + n.toNat * es, none⟩)) else M.stuck
  | _, _ => M.stuck
def idxStr (x i : Value) : M Value :=
  match x, i with
  | .string s, .int _ n => if 0 ≤ n then (match s[n.toNat]? with | some b => M.pure (.int .u8 b.toNat) | none => M.stuck) else M.stuck
  | _, _ => M.stuck
def partV (agg : Bool) (off n : Nat) (x : Value) : M Value :=
  match x with
  | .agg cs => cond agg (if off + n ≤ cs.size then M.pure (.agg (((cs.toList.drop off).take n).toArray)) else M.stuck)
      (match cs[off]? with | some v => M.pure v | none => M.stuck)
  | _ => M.stuck
def idxAgg (agg : Bool) (es len : Nat) (x i : Value) : M Value :=
  match i with
  | .int _ n => if 0 ≤ n ∧ n < (len : Int) then partV agg (n.toNat * es) es x else M.stuck
  | _ => M.stuck
/-- A bound of a slice expression, at most 'most'. -/
def bnd (x : Option Value) (dflt most : Nat) : Option Nat :=
  match x with
  | none => some dflt
  | some (.int _ n) => if 0 ≤ n ∧ n ≤ (most : Int) then some n.toNat else none
  | some _ => none
def slSl (es : Nat) (x : Value) (lo hi mx : Option Value) : M Value :=
  cond (mx.isSome && hi.isNone) M.stuck <|
  match x with
  | .slice base len cap =>
    let top := cond (isUnk cap) len cap
    match bnd mx cap top with
    | none => M.stuck
    | some m =>
      match bnd hi len (cond mx.isSome m top) with
      | none => M.stuck
      | some h =>
        match bnd lo 0 h with
        | none => M.stuck
        | some l =>
          match base with
          | none => cond (isUnk cap) M.stuck (M.pure (.slice none (h - l) (m - l)))
          | some ⟨b, o, none⟩ =>
            cond (isUnk m) (if m = unk + es ∧ 0 < es then M.pure (.slice (some ⟨b, o + l * es, none⟩) (h - l) m) else M.stuck)
              (M.pure (.slice (some (if m = l then ⟨b, o, none⟩ else ⟨b, o + l * es, none⟩)) (h - l) (m - l)))
          | _ => M.stuck
  | _ => M.stuck
def slArr (es n : Nat) (x : Value) (lo hi mx : Option Value) : M Value :=
  cond ((mx.isSome && hi.isNone) || !Nat.ble n 9223372036854775807) M.stuck <|
  match x with
  | .pointer (some ⟨b, o, none⟩) =>
    match bnd mx n n with
    | none => M.stuck
    | some m =>
      match bnd hi n m with
      | none => M.stuck
      | some h =>
        match bnd lo 0 h with
        | none => M.stuck
        | some l => M.pure (.slice (some (if m = l then ⟨b, o, none⟩ else ⟨b, o + l * es, none⟩)) (h - l) (m - l))
  | _ => M.stuck
def slStr (x : Value) (lo hi : Option Value) : M Value :=
  match x with
  | .string s =>
    match bnd hi s.size s.size with
    | none => M.stuck
    | some h =>
      match bnd lo 0 h with
      | none => M.stuck
      | some l => M.pure (.string (s.extract l h))
  | _ => M.stuck
def zerosOf (zero : List Value) (n : Nat) : List Value := (List.replicate n zero).flatten
def mkSl (id : Nat) (e : TypeId) (zero : List Value) (bytes : Nat) (l c : Value) : M Value := fun V =>
  match l, c with
  | .int _ l, .int _ c =>
    if 0 ≤ l ∧ l ≤ c ∧ c.toNat * bytes ≤ 140737488355328 ∧ c ≤ 9223372036854775807 then
      .ok (.slice (some ⟨id, 0, none⟩) l.toNat c.toNat) (V.set id (.cells true (zerosOf zero c.toNat) e))
    else .stuck
  | _, _ => .stuck
/-- Parts laid into a row: (offset, size, value). -/
def fillL (cells : List Value) : List (Nat × Nat × Value) → Option (List Value)
  | [] => some cells
  | (off, size, v) :: rest =>
    if v.cells.toList.length = size ∧ off + size ≤ cells.length then fillL (splice cells off v.cells.toList) rest else none
def mkAgg (zero : List Value) (parts : List (Nat × Nat × Value)) : M Value :=
  match fillL zero parts with
  | some cs => M.pure (.agg cs.toArray)
  | none => M.stuck
def mkLitSl (id : Nat) (e : TypeId) (zero : List Value) (len : Nat) (parts : List (Nat × Nat × Value)) : M Value :=
  fun V => cond (Nat.ble (len * zero.length) 16777216 && Nat.ble len 9223372036854775807) (match fillL (zerosOf zero len) parts with
  | some cs => .ok (.slice (some ⟨id, 0, none⟩) len len) (V.set id (.cells true cs e))
  | none => .stuck) .stuck
def extr (n : Nat) (x : Value) : M Value :=
  match x with
  | .tuple vs => match vs[n]? with
    | some v => M.pure v
    | none => M.stuck
  | _ => M.stuck
def pick (c a b : Value) : M Value :=
  match c with
  | .bool t => M.pure (cond t a b)
  | _ => M.stuck

def arithV (op : BinOp) (k : IntKind) (a b : Int) : Option Value :=
  match op with
  | .add => some (.int k (k.wrap (a + b)))
  | .sub => some (.int k (k.wrap (a - b)))
  | .mul => some (.int k (k.wrap (a * b)))
  | .quo => if b = 0 then none else some (.int k (k.wrap (a.tdiv b)))
  | .rem => if b = 0 then none else some (.int k (a.tmod b))
  | .and => some (.int k (k.wrap (BitVec.ofInt k.bits a &&& BitVec.ofInt k.bits b).toNat))
  | .or => some (.int k (k.wrap (BitVec.ofInt k.bits a ||| BitVec.ofInt k.bits b).toNat))
  | .xor => some (.int k (k.wrap (BitVec.ofInt k.bits a ^^^ BitVec.ofInt k.bits b).toNat))
  | .andNot => some (.int k (k.wrap (BitVec.ofInt k.bits a &&& ~~~ BitVec.ofInt k.bits b).toNat))
  | .eql => some (.bool (a == b))
  | .neq => some (.bool (a != b))
  | .lss => some (.bool (a < b))
  | .leq => some (.bool (a ≤ b))
  | .gtr => some (.bool (a > b))
  | .geq => some (.bool (a ≥ b))
  | _ => none
def shiftV (op : BinOp) (k : IntKind) (a b : Int) : Option Value :=
  if b < 0 then none else
  match op with
  | .shl => some (.int k (k.wrap (a * 2 ^ (min b.toNat k.bits))))
  | .shr => some (.int k (a.fdiv (2 ^ (min b.toNat k.bits))))
  | _ => none
def strV (op : BinOp) (x y : ByteArray) : Option Value :=
  match op with
  | .add => if x.size + y.size ≤ 9223372036854775807 then some (.string (x ++ y)) else none
  | .eql => some (.bool (x.toList == y.toList))
  | .neq => some (.bool !(x.toList == y.toList))
  | .lss => some (.bool (Op.bytesLess x.toList y.toList))
  | .leq => some (.bool (Op.bytesLess x.toList y.toList || x.toList == y.toList))
  | .gtr => some (.bool !(Op.bytesLess x.toList y.toList || x.toList == y.toList))
  | .geq => some (.bool !(Op.bytesLess x.toList y.toList))
  | _ => none
/-- What a plain cell holds. -/
inductive CK where
  | bool | int | str
/-- '==' at one cell. -/
def eq1 (c : CK) (x y : Value) : Option Bool :=
  match c, x, y with
  | .bool, .bool a, .bool b => some (a == b)
  | .int, .int k a, .int k' b => if k = k' then some (a == b) else none
  | .str, .string a, .string b => some (a == b)
  | _, _, _ => none
/-- '==' of structs whose cells are all plain, one a field. -/
def eqCells : List CK → List Value → List Value → Option Bool
  | [], [], [] => some true
  | c :: cs, x :: xs, y :: ys => match eq1 c x y, eqCells cs xs ys with
    | some a, some b => some (a && b)
    | _, _ => none
  | _, _, _ => none
/-- By what a type's values are held against each other; 'plain': a struct whose cells are all bools, numbers, strings, one a field. -/
inductive EK where
  | cell (c : CK) | ptr | slice | map | func | plain (cs : List CK) | none
/-- '==' against nil, and of plain values. -/
def eqV (k : EK) (x y : Value) : Option Bool :=
  match k, x, y with
  | .cell c, x, y => eq1 c x y
  | .ptr, .pointer none, .pointer b => some b.isNone
  | .ptr, .pointer (some _), .pointer none => some false
  | .slice, .slice none _ _, .slice b _ _ => some b.isNone
  | .slice, .slice (some _) _ _, .slice none _ _ => some false
  | .map, .map none, .map b => some b.isNone
  | .map, .map (some _), .map none => some false
  | .func, .nilFunc, .nilFunc => some true
  | .func, .nilFunc, .func _ _ _ => some false
  | .func, .func _ _ _, .nilFunc => some false
  | .plain cs, .agg xs, .agg ys => eqCells cs xs.toList ys.toList
  | _, _, _ => none
def optM (o : Option Value) : M Value :=
  match o with
  | some v => M.pure v
  | none => M.stuck
def bin (q : EK) (op : BinOp) (x y : Value) : M Value :=
  match x, y with
  | .int k a, .int k' b =>
    match op with
    | .shl | .shr => optM (shiftV op k a b)
    | _ => if k = k' then optM (arithV op k a b) else M.stuck
  | .string a, .string b => optM (strV op a b)
  | x, y =>
    match op with
    | .eql => optM ((eqV q x y).map fun b => .bool b)
    | .neq => optM ((eqV q x y).map fun b => .bool !b)
    | _ => M.stuck
/-- '== nil' of an interface's value, the other side being the literal. -/
def isNilI (neg : Bool) (x : Value) : M Value :=
  match x with
  | .nilIface => M.pure (.bool !neg)
  | .iface _ _ => M.pure (.bool neg)
  | _ => M.stuck
def un (op : UnOp) (x : Value) : M Value :=
  match op, x with
  | .neg, .int k n => M.pure (.int k (k.wrap (0 - n)))
  | .xor, .int k n => M.pure (.int k (k.wrap (BitVec.ofInt k.bits (if k.signed then -1 else k.max) ^^^ BitVec.ofInt k.bits n).toNat))
  | .not, .bool b => M.pure (.bool !b)
  | _, _ => M.stuck
def cvInt (k : IntKind) (x : Value) : M Value :=
  match x with
  | .int _ n => M.pure (.int k (k.wrap n))
  | _ => M.stuck
def cvStr (x : Value) : M Value :=
  match x with
  | .string s => M.pure (.string s)
  | _ => M.stuck
def byteCells (s : ByteArray) : List Value := s.data.toList.map fun b => .int .u8 b.toNat
/-- '[]byte(s)'. -/
def cvBytes (id : Nat) (e : TypeId) (x : Value) : M Value := fun V =>
  match x with
  | .string s => if s.size ≤ 9223372036854775807 then .ok (.slice (some ⟨id, 0, none⟩) s.size (unk + 1)) (V.set id (.cells true (byteCells s) e)) else .stuck
  | _ => .stuck
def bytesOf : List Value → Option (List UInt8)
  | [] => some []
  | .int .u8 n :: r => (bytesOf r).map fun l => UInt8.ofNat n.toNat :: l
  | _ => none
/-- 'string(b)'. -/
def cvString (x : Value) : M Value := fun V =>
  match x with
  | .slice none _ _ => .ok (.string .empty) V
  | .slice (some ⟨b, o, none⟩) len _ =>
    if len = 0 then .ok (.string .empty) V else
    match V.mem b with
    | some (.cells _ cs _) =>
      if o + len ≤ cs.length then
        (match bytesOf ((cs.drop o).take len) with
        | some l => .ok (.string ⟨l.toArray⟩) V
        | none => .stuck)
      else .stuck
    | _ => .stuck
  | _ => .stuck
def mkIface (t : TypeId) (x : Value) : M Value := M.pure (.iface t x)
def assertOk (t : TypeId) (zero : Value) (x : Value) : M Value :=
  match x with
  | .iface u v => M.pure (if u = t then .tuple #[v, .bool true] else .tuple #[zero, .bool false])
  | .nilIface => M.pure (.tuple #[zero, .bool false])
  | _ => M.stuck
def lenStr (x : Value) : M Value :=
  match x with
  | .string s => M.pure (.int .i64 s.size)
  | _ => M.stuck
def lenSl (x : Value) : M Value :=
  match x with
  | .slice _ n _ => M.pure (.int .i64 n)
  | _ => M.stuck
def lenMap (x : Value) : M Value := fun V =>
  match x with
  | .map none => .ok (.int .i64 0) V
  | .map (some r) =>
    match V.mem r with
    | some (.map es) => .ok (.int .i64 es.length) V
    | _ => .stuck
  | _ => .stuck
def capV (x : Value) : M Value :=
  match x with
  | .slice _ _ c => cond (isUnk c) M.stuck (M.pure (.int .i64 c))
  | _ => M.stuck
def most (x y : Value) : M Value :=
  match x, y with
  | .int k a, .int _ b => M.pure (.int k (if b > a then b else a))
  | _, _ => M.stuck
def least (x y : Value) : M Value :=
  match x, y with
  | .int k a, .int _ b => M.pure (.int k (if b < a then b else a))
  | _, _ => M.stuck
/-- The first cells of a slice or a string. -/
def cellsOf (es : Nat) (x : Value) (V : VS) : Option (List Value) :=
  match x with
  | .slice none _ _ => some []
  | .slice (some ⟨b, o, none⟩) n _ =>
    if n * es = 0 then some [] else
    match V.mem b with
    | some (.cells _ cs _) => if o + n * es ≤ cs.length then some ((cs.drop o).take (n * es)) else none
    | _ => none
  | .string s => cond (Nat.beq es 1) (some (byteCells s)) none
  | _ => none
def lenOfV (x : Value) : Nat :=
  match x with
  | .slice _ n _ => n
  | .string s => s.size
  | _ => 0
/-- append(s, x..), elements of 'es' cells and 'bytes' bytes. -/
def app (id : Nat) (e : TypeId) (es bytes : Nat) (s x : Value) : M Value := fun V =>
  match s with
  | .slice base n c =>
    match cellsOf es x V with
    | none => .stuck
    | some new =>
      let m := lenOfV x
      if m = 0 then .ok s V else
      if (n + m) * bytes ≤ 140737488355328 ∧ n + m ≤ 9223372036854775807 ∧ 0 < es ∧ new.all one = true then
        match cellsOf es s V with
        | none => .stuck
        | some old =>
          match base with
          | none => .ok (.slice (some ⟨id, 0, none⟩) (n + m) (unk + es)) (V.set id (.cells true (old ++ new) e))
          | some ⟨b, o, none⟩ =>
            cond (isUnk c)
              (if c = unk + es then
                match V.mem b with
                | some (.cells true _ _) => .ok (.slice (some ⟨id, 0, none⟩) (n + m) (unk + es)) ((V.set b .dead).set id (.cells true (old ++ new) e))
                | _ => .stuck
              else .stuck)
              (if n + m ≤ c then
                match V.mem b with
                | some (.cells true cs ty) =>
                  if o + (n + m) * es ≤ cs.length then .ok (.slice (some ⟨b, o, none⟩) (n + m) c) (V.set b (.cells true (splice cs (o + n * es) new) ty)) else .stuck
                | _ => .stuck
              else .ok (.slice (some ⟨id, 0, none⟩) (n + m) (unk + es)) (V.set id (.cells true (old ++ new) e)))
          | _ => .stuck
      else .stuck
  | _ => .stuck
/-- copy(d, x). -/
def cpy (es : Nat) (d x : Value) : M Value := fun V =>
  match d with
  | .slice base n _ =>
    let m := min (lenOfV x) n
    match cellsOf es x V with
    | none => .stuck
    | some src =>
      if m * es = 0 then .ok (.int .i64 m) V else
      match base with
      | some ⟨b, o, none⟩ =>
        match V.mem b with
        | some (.cells true cs ty) =>
          if o + m * es ≤ cs.length ∧ src.all one = true then .ok (.int .i64 m) (V.set b (.cells true (splice cs o (src.take (m * es))) ty)) else .stuck
        | _ => .stuck
      | _ => .stuck
  | _ => .stuck
/-! maps -/
def keq (q : EK) (x y : Value) : Option Bool :=
  match q, x, y with
  | .cell c, x, y => eq1 c x y
  | .plain cs, .agg xs, .agg ys => eqCells cs xs.toList ys.toList
  | _, _, _ => none
def findK (q : EK) (k : Value) : List (Value × Value) → Nat → Option (Option (Nat × Value))
  | [], _ => some none
  | (k', v) :: r, i => match keq q k k' with
    | some true => some (some (i, v))
    | some false => findK q k r (i + 1)
    | none => none
def newMap (id : Nat) : M Value := fun V => .ok (.map (some id)) (V.set id (.map []))
def look (q : EK) (zero : Value) (ok : Bool) (m k : Value) : M Value := fun V =>
  match keq q k k with
  | none => .stuck
  | some _ =>
    match m with
    | .map none => .ok (cond ok (.tuple #[zero, .bool false]) zero) V
    | .map (some r) =>
      match V.mem r with
      | some (.map es) =>
        match findK q k es 0 with
        | some (some (_, v)) => .ok (cond ok (.tuple #[v, .bool true]) v) V
        | some none => .ok (cond ok (.tuple #[zero, .bool false]) zero) V
        | none => .stuck
      | _ => .stuck
    | _ => .stuck
def upd (q : EK) (m k v : Value) : M Value := fun V =>
  match keq q k k with
  | none => .stuck
  | some _ =>
    match m with
    | .map (some r) =>
      match V.mem r with
      | some (.map es) =>
        match findK q k es 0 with
        | some (some (i, _)) => .ok (.tuple #[]) (V.set r (.map (es.set i (k, v))))
        | some none => .ok (.tuple #[]) (V.set r (.map (es ++ [(k, v)])))
        | none => .stuck
      | _ => .stuck
    | _ => .stuck
def del (q : EK) (m k : Value) : M Value := fun V =>
  match keq q k k with
  | none => .stuck
  | some _ =>
    match m with
    | .map none => .ok (.tuple #[]) V
    | .map (some r) =>
      match V.mem r with
      | some (.map es) =>
        match findK q k es 0 with
        | some (some (i, _)) => .ok (.tuple #[]) (V.set r (.map (es.eraseIdx i)))
        | some none => .ok (.tuple #[]) V
        | none => .stuck
      | _ => .stuck
    | _ => .stuck
def throwV (x : Value) : M Value :=
  match x with
  | .iface t v => M.raise (.iface t v)
  | _ => M.stuck

/-! ### Calls -/
abbrev FT := List (Nat × (List Value → M Value))
def FT.get : FT → Nat → Option (List Value → M Value)
  | [], _ => none
  | (t, i) :: r, n => cond (Nat.beq t n) (some i) (FT.get r n)
def callV (G : FT) (f : Value) (args : List Value) : M Value :=
  match f with
  | .func (.func g) first cap =>
    match G.get g with
    | some F => F (first.toList ++ args ++ cap.toList)
    | none => M.stuck
  | _ => M.stuck

/-! ### Frames and operations -/
abbrev Env := List (Nat × Value)
def Env.get : Env → Nat → Option Value
  | [], _ => none
  | (t, v) :: r, n => cond (Nat.beq t n) (some v) (Env.get r n)
/-- Plain values, nil, and what is made of them: they bear no address. -/
def flat : Value → Bool
  | .bool _ | .int _ _ | .string _ | .pointer none | .slice none 0 0 | .map none | .nilFunc | .nilIface => true
  | _ => false
def constOk : Value → Bool
  | .agg cs => cs.toList.all flat
  | .tuple cs => cs.toList.all flat
  | .iface _ v => flat v
  | v => flat v
def ev (T : TT) (e : Env) : Operand → Option Value
  | .tmp t => e.get t
  | .const v => cond (constOk v) (some v) none
  | .global g => cond (Nat.blt g T.globals) (some (.pointer (some ⟨g, 0, none⟩))) none
  | .func f => some (.func (.func f) #[] #[])
def withV {β : Type} (o : Option Value) (k : Value → M β) : M β :=
  match o with
  | some v => k v
  | none => M.stuck
def withT {β : Type} (o : Option TI) (k : TI → M β) : M β :=
  match o with
  | some v => k v
  | none => M.stuck
def evL (T : TT) (e : Env) : List Operand → Option (List Value)
  | [] => some []
  | x :: r => match ev T e x, evL T e r with
    | some v, some l => some (v :: l)
    | _, _ => none
def withL {β : Type} (o : Option (List Value)) (k : List Value → M β) : M β :=
  match o with
  | some v => k v
  | none => M.stuck
/-- An operand that may not be there. -/
def withO {β : Type} (T : TT) (e : Env) (o : Option Operand) (k : Option Value → M β) : M β :=
  match o with
  | none => k none
  | some x => withV (ev T e x) fun v => k (some v)
def partsOf (T : TT) (e : Env) (place : Nat → Option (Nat × Nat)) : List (Nat × Operand) → Option (List (Nat × Nat × Value))
  | [] => some []
  | (i, x) :: r => match place i, ev T e x, partsOf T e place r with
    | some (off, size), some v, some l => some ((off, size, v) :: l)
    | _, _, _ => none
def withP {β : Type} (o : Option (List (Nat × Nat × Value))) (k : List (Nat × Nat × Value) → M β) : M β :=
  match o with
  | some v => k v
  | none => M.stuck
def placeS (T : TT) (fs : List (Nat × TypeId)) (i : Nat) : Option (Nat × Nat) :=
  match fs[i]? with
  | some (off, t) => match T.get t with
    | some ti => some (off, ti.size)
    | none => none
  | none => none
def plainCell (T : TT) (t : TypeId) : Option CK :=
  match T.get t with
  | some ⟨.bool, _, _, _⟩ => some .bool
  | some ⟨.int _, _, _, _⟩ => some .int
  | some ⟨.string, _, _, _⟩ => some .str
  | _ => none
/-- A struct of plain cells, one a field, at the places n, n + 1, .. -/
def plainT (T : TT) : List (Nat × TypeId) → Nat → Option (List CK)
  | [], _ => some []
  | f :: r, n => cond (Nat.beq f.1 n) (match plainCell T f.2, plainT T r (n + 1) with
    | some c, some cs => some (c :: cs)
    | _, _ => none) none
def eqKind (T : TT) (t : TypeId) : EK :=
  match T.get t with
  | some ⟨.bool, _, _, _⟩ => .cell .bool
  | some ⟨.int _, _, _, _⟩ => .cell .int
  | some ⟨.string, _, _, _⟩ => .cell .str
  | some ⟨.ptr, _, _, _⟩ => .ptr
  | some ⟨.slice _, _, _, _⟩ => .slice
  | some ⟨.map _ _, _, _, _⟩ => .map
  | some ⟨.func, _, _, _⟩ => .func
  | some ⟨.struct fs, _, _, _⟩ => (match plainT T fs 0 with | some cs => .plain cs | none => .none)
  | _ => .none
def isNilConst : Operand → Bool
  | .const .nilIface => true
  | _ => false
def isIfaceT (T : TT) (t : TypeId) : Bool :=
  match T.get t with
  | some ⟨.iface, _, _, _⟩ => true
  | _ => false

/-- One operation's answer; 'id': the number of the block that it may make. -/
def prim (T : TT) (G : FT) (id : Nat) (e : Env) (o : Oper) : M Value :=
  match o.op with
  | .move x | .assign x => withV (ev T e x) M.pure
  | .pick c a b => withV (ev T e c) fun c => withV (ev T e a) fun a => withV (ev T e b) fun b => pick c a b
  | .alloc t => withT (T.get t) fun i => newCells id i.zero t
  | .box t x => withV (ev T e x) fun v => newCells id v.cells.toList t
  | .build t parts => withT (T.get t) fun i =>
    match i.kind with
    | .struct fs => withP (partsOf T e (placeS T fs) parts.toList) fun ps => mkAgg i.zero ps
    | .array _ el => withT (T.get el) fun j => withP (partsOf T e (fun n => some (n * j.size, j.size)) parts.toList) fun ps => mkAgg i.zero ps
    | _ => M.stuck
  | .buildSlice t len parts => withT (T.get t) fun i =>
    match i.kind with
    | .slice el => withT (T.get el) fun j => withP (partsOf T e (fun n => some (n * j.size, j.size)) parts.toList) fun ps => mkLitSl id el j.zero len ps
    | _ => M.stuck
  | .load t a => withT (T.get t) fun i => withV (ev T e a) fun a => cond i.kind.isAgg (ldN i.size a) (ld1 a)
  | .store t a x => withT (T.get t) fun i => withV (ev T e a) fun a => withV (ev T e x) fun x => cond i.kind.isAgg (stN i.size a x) (st1 a x)
  | .nilCheck x => withV (ev T e x) nilChk
  | .binOp op t x y _ => withV (ev T e x) fun v => withV (ev T e y) fun u =>
    cond (isIfaceT T t)
      (cond (isNilConst y) (match op with | .eql => isNilI false v | .neq => isNilI true v | _ => M.stuck) M.stuck)
      (bin (eqKind T t) op v u)
  | .unOp op _ x => withV (ev T e x) (un op)
  | .convert s d x => withT (T.get s) fun i => withT (T.get d) fun j => withV (ev T e x) fun v =>
    match i.kind, j.kind with
    | .int _, .int k => cvInt k v
    | .string, .string => cvStr v
    | .string, .slice el => withT (T.get el) fun ti => match ti.kind with | .int .u8 => cvBytes id el v | _ => M.stuck
    | .slice el, .string => withT (T.get el) fun ti => match ti.kind with | .int .u8 => cvString v | _ => M.stuck
    | _, _ => M.stuck
  | .makeInterface t x => withT (T.get t) fun i => match i.kind with
    | .iface => M.stuck
    | _ => withV (ev T e x) (mkIface t)
  | .makeFunc fn first cap => withL (evL T e first.toList) fun a => withL (evL T e cap.toList) fun b => M.pure (.func fn a.toArray b.toArray)
  | .makeMap _ none => newMap id
  | .makeSlice t l c => withT (T.get t) fun i =>
    match i.kind with
    | .slice el => withT (T.get el) fun j => withV (ev T e l) fun l => withV (ev T e c) fun c => mkSl id el j.zero j.bytes l c
    | _ => M.stuck
  | .slice t x lo hi mx => withT (T.get t) fun i => withV (ev T e x) fun x => withO T e lo fun lo => withO T e hi fun hi => withO T e mx fun mx =>
    match i.kind with
    | .slice el => withT (T.get el) fun j => slSl j.size x lo hi mx
    | .array n el => withT (T.get el) fun j => slArr j.size n x lo hi mx
    | .string => match mx with
      | none => slStr x lo hi
      | some _ => M.stuck
    | _ => M.stuck
  | .fieldAddr s x f => withT (T.get s) fun i =>
    match i.kind with
    | .struct fs => match fs[f]? with
      | some (off, t) => withT (T.get t) fun j => cond (Nat.beq j.size 0) M.stuck (withV (ev T e x) (addOff off))
      | none => M.stuck
    | _ => M.stuck
  | .field s x f => withT (T.get s) fun i =>
    match i.kind with
    | .struct fs => match fs[f]? with
      | some (off, t) => withT (T.get t) fun j => withV (ev T e x) (partV j.kind.isAgg off j.size)
      | none => M.stuck
    | _ => M.stuck
  | .indexAddr t x ix => withT (T.get t) fun i => withV (ev T e x) fun x => withV (ev T e ix) fun ix =>
    match i.kind with
    | .slice el => withT (T.get el) fun j => idxSl j.size x ix
    | .array n el => withT (T.get el) fun j => idxArr j.size n x ix
    | _ => M.stuck
  | .index t x ix => withT (T.get t) fun i => withV (ev T e x) fun x => withV (ev T e ix) fun ix =>
    match i.kind with
    | .string => idxStr x ix
    | .array n el => withT (T.get el) fun j => idxAgg j.kind.isAgg j.size n x ix
    | _ => M.stuck
  | .lookup t m k ok => withT (T.get t) fun i =>
    match i.kind with
    | .map kt el => withT (T.get el) fun j => withV (ev T e m) fun m => withV (ev T e k) fun k => look (eqKind T kt) j.zeroVal ok m k
    | _ => M.stuck
  | .mapUpdate t m k x => withT (T.get t) fun i =>
    match i.kind with
    | .map kt _ => withV (ev T e m) fun m => withV (ev T e k) fun k => withV (ev T e x) fun x => upd (eqKind T kt) m k x
    | _ => M.stuck
  | .typeAssert x _ t true => withT (T.get t) fun i =>
    match i.kind with
    | .iface => M.stuck
    | _ => withV (ev T e x) (assertOk t i.zeroVal)
  | .extract x n => withV (ev T e x) (extr n)
  | .panic x => withV (ev T e x) throwV
  | .call ⟨.value f, args, _⟩ => withV (ev T e f) fun f => withL (evL T e args.toList) fun args => callV G f args
  | .call ⟨.builtin b, args, tys⟩ =>
    match b, args.toList, tys.toList with
    | .len, [x], [t] => withT (T.get t) fun i =>
      match i.kind with
      | .array n _ => M.pure (.int .i64 n)
      | .slice _ => withV (ev T e x) lenSl
      | .string => withV (ev T e x) lenStr
      | .map _ _ => withV (ev T e x) lenMap
      | _ => M.stuck
    | .cap, [x], [t] => withT (T.get t) fun i =>
      match i.kind with
      | .array n _ => M.pure (.int .i64 n)
      | .slice _ => withV (ev T e x) capV
      | _ => M.stuck
    | .append, [s, x], [t, u] => withT (T.get t) fun i => withT (T.get u) fun iu =>
      match i.kind, iu.kind with
      | .slice _, .int _ => M.stuck
      | .slice el, _ => withT (T.get el) fun j => withV (ev T e s) fun s => withV (ev T e x) fun x => app id el j.size j.bytes s x
      | _, _ => M.stuck
    | .copy, [d, x], [t, _] => withT (T.get t) fun i =>
      match i.kind with
      | .slice el => withT (T.get el) fun j => withV (ev T e d) fun d => withV (ev T e x) fun x => cpy j.size d x
      | _ => M.stuck
    | .delete, [m, k], [t, _] => withT (T.get t) fun i =>
      match i.kind with
      | .map kt _ => withV (ev T e m) fun m => withV (ev T e k) fun k => del (eqKind T kt) m k
      | _ => M.stuck
    | .max, [x, y], _ => withV (ev T e x) fun x => withV (ev T e y) fun y => most x y
    | .min, [x, y], _ => withV (ev T e x) fun x => withV (ev T e y) fun y => least x y
    | _, _, _ => M.stuck
  | _ => M.stuck

/-- Does it make a block of its own? -/
def makes (o : Oper) : Nat :=
  match o.op with
  | .alloc _ | .box _ _ | .buildSlice _ _ _ | .makeMap _ _ | .makeSlice _ _ _ | .convert _ _ _ => 1
  | .call ⟨.builtin .append, _, _⟩ => 1
  | _ => 0
def makesAll : List Oper → Nat
  | [] => 0
  | o :: r => makes o + makesAll r
def bump (n : Nat) : M Nat := fun V => .ok V.next { V with next := V.next + n }
/-- The same; what is not there yet is cleared. -/
def clearT (base : Nat) : Nat → Tree → Tree
  | 0, t => t
  | n + 1, t => clearT base n (t.put (bits (base + n)) none)
def bumpC (n : Nat) : M Nat := fun V => .ok V.next ⟨V.next + n, clearT V.next n V.tree⟩
def undefV : Value := .tuple #[]
def guardM (want : Bool) (b : Value) (m : M Value) : M Value :=
  match b with
  | .bool c => cond (c == want) m (M.pure undefV)
  | _ => M.stuck
def put (e : Env) (dst : Option Nat) (v : Value) : Env :=
  match dst with
  | some d => (d, v) :: e
  | none => e
/-- The slot that operation g of a region writes. -/
def dstOf (ops : List Oper) (g : Nat) : Option Nat :=
  match ops[g]? with
  | some o => o.dst
  | none => none
def guarded (T : TT) (G : FT) (ops : List Oper) (id : Nat) (e : Env) (o : Oper) : M Value :=
  match o.guard with
  | none => prim T G id e o
  | some (g, want) =>
    match dstOf ops g with
    | some d => withV (e.get d) fun b => guardM want b (prim T G id e o)
    | none => M.stuck
def dstOk (nt : Nat) (d : Option Nat) : Bool := match d with | some d => Nat.blt d nt | none => true
def stepOp {β : Type} (T : TT) (G : FT) (nt : Nat) (ops : List Oper) (id : Nat) (e : Env) (o : Oper) (k : Env → M β) : M β :=
  cond (dstOk nt o.dst)
    (match o.guard, o.op with
    | none, .move x | none, .assign x => withV (ev T e x) fun v => k (put e o.dst v)
    | _, _ => M.bind (guarded T G ops id e o) fun v => k (put e o.dst v))
    M.stuck
def runOps {β : Type} (T : TT) (G : FT) (nt : Nat) (ops : List Oper) (base : Nat) : List Oper → Nat → Env → (Env → M β) → M β
  | [], _, e, k => k e
  | o :: r, n, e, k => stepOp T G nt ops (base + n) e o fun e' => runOps T G nt ops base r (n + makes o) e' k
def region {β : Type} (T : TT) (G : FT) (nt : Nat) (ops : List Oper) (e : Env) (k : Env → M β) : M β :=
  cond (Nat.beq (makesAll ops) 0) (runOps T G nt ops 0 ops 0 e k)
    (M.bind (bump (makesAll ops)) fun base => runOps T G nt ops base ops 0 e k)

/-! ### A region that draws its order -/
inductive Cls where
  | pure | read | make | eff
  deriving DecidableEq
def clsB (T : TT) (b : Builtin) (tys : List TypeId) : Cls :=
  match b with
  | .len => (match tys with
    | [t] => (match T.get t with | some ⟨.map _ _, _, _, _⟩ => .read | _ => .pure)
    | _ => .pure)
  | .cap | .max | .min => .pure
  | _ => .eff
def clsOf (T : TT) (o : Oper) : Cls :=
  match o.op with
  | .load _ _ | .lookup _ _ _ _ => .read
  | .alloc _ | .box _ _ | .buildSlice _ _ _ | .makeMap _ _ | .makeSlice _ _ _ => .make
  | .convert s d _ =>
    (match T.get s, T.get d with
    | some ⟨.string, _, _, _⟩, some ⟨.slice _, _, _, _⟩ => .make
    | some ⟨.slice _, _, _, _⟩, _ => .read
    | _, _ => .pure)
  | .call ⟨.builtin b, _, tys⟩ => clsB T b tys.toList
  | .store _ _ _ | .mapUpdate _ _ _ _ | .panic _ | .call _ => .eff
  | _ => .pure
/-- Which operations must come ahead of each, as bits. -/
def masks : List Oper → List Nat → List Nat
  | [], acc => acc
  | o :: r, acc => masks r (acc ++ [o.after.toList.foldl (fun s e => cond (Region.binds .any e) (s ||| 2 ^ e.on ||| acc.getD e.on 0) s) 0])
def ahead (ms : List Nat) (j i : Nat) : Bool := (ms.getD j 0).testBit i


/-- The slots that an operation looks at. -/
def opTmps (o : Oper) : List Nat := o.op.operands.toList.filterMap fun x => match x with | .tmp t => some t | _ => none
def idAt (ops : List Oper) (j : Nat) : Nat := makesAll (ops.take j)
def allUpto (n : Nat) (f : Nat → Bool) : Bool := (List.range n).all f
def earlier (l : List Nat) (j : Nat) : List Nat := l.takeWhile fun i => !Nat.beq i j
def nodupB : List Nat → Bool
  | [] => true
  | x :: r => !r.contains x && nodupB r
/-- Is 'perm' an order in which nothing that may run ahead of an effect stands behind it, and do the effects stand in one row? -/
def drawOk (T : TT) (ops : List Oper) (perm : List Nat) : Bool :=
  let ms := masks ops []
  let n := ops.length
  let isE : Nat → Bool := fun j => match ops[j]? with | some o => (match clsOf T o with | .eff => true | _ => false) | none => false
  nodupB perm && allUpto n (fun j => perm.contains j) &&
  allUpto n (fun j => match ops[j]? with
    | none => false
    | some o =>
      (o.after.toList.all fun e => cond (Region.binds .any e) ((earlier perm j).contains e.on && Nat.blt e.on j) true) &&
      ((earlier perm j).all fun i => cond (isE i) (ahead ms j i) true) &&
      (allUpto n fun i => match ops[i]? with
        | none => false
        | some p => Nat.beq i j || ((match p.dst, o.dst with | some a, some b => !Nat.beq a b | _, _ => true) &&
          (match p.dst with | some d => cond ((opTmps o).contains d) (ahead ms j i || ahead ms i j) true | none => true))) &&
      (match o.guard with | none => true | some (g, _) => ahead ms j g && (match dstOf ops g with | some _ => true | none => false)))
def eqFlat : Value → Value → Bool
  | .bool a, .bool b => a == b
  | .int k a, .int k' b => k == k' && a == b
  | .string a, .string b => a == b
  | .pointer none, .pointer none => true
  | .pointer (some ⟨a, b, none⟩), .pointer (some ⟨c, d, none⟩) => Nat.beq a c && Nat.beq b d
  | .slice none a b, .slice none c d => Nat.beq a c && Nat.beq b d
  | .slice (some ⟨a, b, none⟩) x y, .slice (some ⟨c, d, none⟩) z w => Nat.beq a c && Nat.beq b d && Nat.beq x z && Nat.beq y w
  | .map none, .map none => true
  | .map (some a), .map (some b) => Nat.beq a b
  | .nilFunc, .nilFunc => true
  | .nilIface, .nilIface => true
  | _, _ => false
def eqFlats : List Value → List Value → Bool
  | [], [] => true
  | x :: xs, y :: ys => eqFlat x y && eqFlats xs ys
  | _, _ => false
/-- Are two values alike? (false: not seen) -/
def eqVal : Value → Value → Bool
  | .agg a, .agg b => eqFlats a.toList b.toList
  | .tuple a, .tuple b => eqFlats a.toList b.toList
  | .iface t a, .iface u b => Nat.beq t u && eqFlat a b
  | a, b => eqFlat a b
/-- 'm' still answers 'u'. -/
def same {β : Type} (m : M Value) (u : Value) (k : M β) : M β := fun V =>
  match m V with
  | .ok v _ => cond (eqVal v u) (k V) .stuck
  | _ => .stuck
/-- What has been read, and may be read as late as here. -/
def still {β : Type} (ms : List Nat) (j : Nat) (k : M β) : List (Nat × M Value × Value) → M β
  | [] => k
  | (i, m, u) :: r => cond (ahead ms j i) (still ms j k r) (same m u (still ms j k r))
def drawOps {β : Type} (T : TT) (G : FT) (nt : Nat) (ops : List Oper) (ms : List Nat) (base : Nat) : List Nat → Env → List (Nat × M Value × Value) → (Env → M β) → M β
  | [], e, _, k => k e
  | j :: r, e, act, k =>
    match ops[j]? with
    | none => M.stuck
    | some o =>
      match clsOf T o with
      | .pure | .make => stepOp T G nt ops (base + idAt ops j) e o fun e' => drawOps T G nt ops ms base r e' act k
      | .read => cond (dstOk nt o.dst)
          (M.bind (guarded T G ops (base + idAt ops j) e o) fun v => drawOps T G nt ops ms base r (put e o.dst v) ((j, guarded T G ops (base + idAt ops j) e o, v) :: act) k) M.stuck
      | .eff => cond (dstOk nt o.dst)
          (M.bind (guarded T G ops (base + idAt ops j) e o) fun v => still ms j (drawOps T G nt ops ms base r (put e o.dst v) act k) act) M.stuck
def draw {β : Type} (T : TT) (G : FT) (nt : Nat) (ops : List Oper) (perm : List Nat) (e : Env) (k : Env → M β) : M β :=
  cond (drawOk T ops perm)
    (M.bind (bumpC (makesAll ops)) fun base => drawOps T G nt ops (masks ops []) base perm e [] k)
    M.stuck

/-! ### Code -/
inductive Hint where
  | nil
  | seq (a b : Hint)
  | cond (a b : Hint)
  | condJ (n ids e : List Nat) (r : Option (List Nat)) (a b : Hint)
  | block (a : Hint)
  | blockJ (n ids e : List Nat) (r : Option (List Nat)) (a : Hint)
  | loop (n ids e : List Nat) (r : Option (List Nat)) (a : Hint)
  | draw (perm : List Nat)
inductive J where
  | norm (vs : List Value)
  | exit (id : Nat) (vs : List Value)
  | ret (vs : List Value)
def sel (e : Env) : List Nat → Option (List Value)
  | [] => some []
  | t :: r => match e.get t, sel e r with
    | some v, some l => some (v :: l)
    | _, _ => none
def nth (vs : List Value) (i : Nat) : Value := vs.getD i undefV
def zipE : List Nat → List Value → Nat → Env → Env
  | [], _, _, e => e
  | t :: r, vs, i, e => (t, nth vs i) :: zipE r vs (i + 1) e
def writes : Code → List Nat
  | .region _ ops _ => ops.toList.filterMap (·.dst)
  | .seq a b | .cond _ a b => writes a ++ writes b
  | .block _ a | .loop a => writes a
  | _ => []
def keepE (ws : List Nat) (e : Env) : Env := e.filter fun p => !ws.contains p.1
def condM {β : Type} (v : Value) (a b : M β) : M β :=
  match v with
  | .bool t => cond t a b
  | _ => M.stuck
def FUEL : Nat := 1180591620717411303424
def iter (body : List Value → M J) : Nat → List Value → M J
  | 0, _ => M.stuck
  | n + 1, vs => M.bind (body vs) fun s => match s with
    | .norm vs' => iter body n vs'
    | s => M.pure s
def loopM (body : List Value → M J) (vs : List Value) : M J := iter body FUEL vs
def onExit {β : Type} (id : Nat) (k : Nat → M β) : List Nat → M β
  | [] => M.stuck
  | q :: r => cond (Nat.beq id q) (k q) (onExit id k r)
def onJ {β : Type} (f : List Value → M β) (g : Nat → List Value → M β) (h : List Value → M β) (j : J) : M β :=
  match j with
  | .norm vs => f vs
  | .exit id vs => g id vs
  | .ret vs => h vs
def joinK {β : Type} (ws n ids e : List Nat) (r : Option (List Nat)) (env : Env) (kN : Env → M β) (kE : Nat → Env → M β) (kR : Env → M β) : J → M β :=
  onJ (fun vs => kN (zipE n vs 0 (keepE ws env))) (fun id vs => onExit id (fun q => kE q (zipE e vs 0 (keepE ws env))) ids)
    (match r with | some r => fun vs => kR (zipE r vs 0 (keepE ws env)) | none => fun _ => M.stuck)
def selJ (mk : List Value → J) (l : List Nat) (e : Env) : M J := withL (sel e l) fun vs => M.pure (mk vs)
def selR (r : Option (List Nat)) (e : Env) : M J :=
  match r with
  | some l => selJ .ret l e
  | none => M.stuck
def exec {β : Type} (T : TT) (G : FT) (nt : Nat) : Code → Hint → Env → (Env → M β) → (Nat → Env → M β) → (Env → M β) → M β
  | .skip, _, e, kN, _, _ => kN e
  | .region _ ops false, _, e, kN, _, _ => region T G nt ops.toList e kN
  | .region _ ops true, .draw perm, e, kN, _, _ => draw T G nt ops.toList perm e kN
  | .seq a b, .seq h g, e, kN, kE, kR => exec T G nt a h e (fun e' => exec T G nt b g e' kN kE kR) kE kR
  | .cond c a b, .cond h g, e, kN, kE, kR => withV (ev T e c) fun v => condM v (exec T G nt a h e kN kE kR) (exec T G nt b g e kN kE kR)
  | .cond c a b, .condJ n ids x r h g, e, kN, kE, kR => withV (ev T e c) fun v =>
    M.bind (condM v (exec T G nt a h e (selJ .norm n) (fun id => selJ (.exit id) x) (selR r)) (exec T G nt b g e (selJ .norm n) (fun id => selJ (.exit id) x) (selR r)))
      (joinK (writes a ++ writes b) n ids x r e kN kE kR)
  | .block id c, .block h, e, kN, kE, kR => exec T G nt c h e kN (fun id' e' => cond (Nat.beq id' id) (kN e') (kE id' e')) kR
  | .block id c, .blockJ n ids x r h, e, kN, kE, kR =>
    M.bind (exec T G nt c h e (selJ .norm n) (fun id' => cond (Nat.beq id' id) (selJ .norm n) (selJ (.exit id') x)) (selR r))
      (joinK (writes c) n ids x r e kN kE kR)
  | .loop c, .loop n ids x r h, e, _, kE, kR => withL (sel e n) fun vs =>
    M.bind (loopM (fun vs => exec T G nt c h (zipE n vs 0 (keepE (writes c) e)) (selJ .norm n) (fun id => selJ (.exit id) x) (selR r)) vs)
      (joinK (writes c) n ids x r e (fun _ => M.stuck) kE kR)
  | .exit id, _, e, _, kE, _ => kE id e
  | .ret, _, e, _, _, kR => kR e
  | _, _, _, _, _, _ => M.stuck

def resOne (T : TT) (e : Env) (r : ResultVar) (k : Value → M Value) : M Value :=
  match r with
  | .tmp t => withV (e.get t) k
  | .cell a t => withT (T.get t) fun i => withV (e.get a) fun a => M.bind (cond i.kind.isAgg (ldN i.size a) (ld1 a)) k
def resAll (T : TT) (e : Env) : List ResultVar → (List Value → M Value) → M Value
  | [], k => k []
  | r :: rs, k => resOne T e r fun v => resAll T e rs fun vs => k (v :: vs)
def resK (T : TT) (rs : List ResultVar) (e : Env) : M Value :=
  resAll T e rs fun vs => match vs with
    | [v] => M.pure v
    | vs => M.pure (.tuple vs.toArray)
def argE : List Value → Nat → Env
  | [], _ => []
  | v :: r, i => (i, v) :: argE r (i + 1)
def execFn (T : TT) (G : FT) (fn : Func) (h : Hint) (args : List Value) : M Value :=
  match fn.body with
  | some c => cond (Nat.ble args.length fn.ntmps) (exec T G fn.ntmps c h (argE args 0) (resK T fn.results.toList) (fun _ _ => M.stuck) (resK T fn.results.toList)) M.stuck
  | none => M.stuck

end Go.Vm
end
section
/- The relation between the virtual heap and the real world; what memory operations do to it. -/
set_option linter.unusedVariables false
set_option linter.unusedSimpArgs false
namespace Go.Vm
open Go Go.RowKit

/-- Where a virtual block lies: its block, from which cell on, and how many cells there are from there to the block's end. -/
structure Loc where
  b : Nat
  s : Nat
  n : Nat
abbrev Ren := Nat → Option Loc

inductive VR (ρ : Ren) : Value → Value → Prop where
  | bool (b : Bool) : VR ρ (.bool b) (.bool b)
  | int (k : IntKind) (n : Int) : VR ρ (.int k n) (.int k n)
  | string (s : ByteArray) : VR ρ (.string s) (.string s)
  | pnil : VR ρ (.pointer none) (.pointer none)
  | ptr {v o : Nat} {L : Loc} (h : ρ v = some L) : VR ρ (.pointer (some ⟨v, o, none⟩)) (.pointer (some ⟨L.b, L.s + o, none⟩))
  | snil : VR ρ (.slice none 0 0) (.slice none 0 0)
  | sl {v o len cv cr : Nat} {L : Loc} (h : ρ v = some L) (h1 : len ≤ cr) (h2 : cr ≤ 9223372036854775807)
      (h3 : cv = cr ∨ ∃ es, 0 < es ∧ cv = unk + es ∧ o + cr * es ≤ L.n) : VR ρ (.slice (some ⟨v, o, none⟩) len cv) (.slice (some ⟨L.b, L.s + o, none⟩) len cr)
  | sl0 {v o cv : Nat} {a' : Addr} {L : Loc} (hL : ρ v = some L) (h : cv = 0 ∨ isUnk cv = true) : VR ρ (.slice (some ⟨v, o, none⟩) 0 cv) (.slice (some a') 0 0)
  | mnil : VR ρ (.map none) (.map none)
  | map {v : Nat} {L : Loc} (h : ρ v = some L) : VR ρ (.map (some v)) (.map (some L.b))
  | func {fn : Fn} {f c f' c' : Array Value} (hf : f.size = f'.size) (h1 : ∀ (i : Nat) x y, f[i]? = some x → f'[i]? = some y → VR ρ x y)
      (hc : c.size = c'.size) (h2 : ∀ (i : Nat) x y, c[i]? = some x → c'[i]? = some y → VR ρ x y) : VR ρ (.func fn f c) (.func fn f' c')
  | nilFunc : VR ρ .nilFunc .nilFunc
  | iface {t : TypeId} {v r : Value} (h : VR ρ v r) : VR ρ (.iface t v) (.iface t r)
  | nilIface : VR ρ .nilIface .nilIface
  | agg {c c' : Array Value} (hc : c.size = c'.size) (h : ∀ (i : Nat) x y, c[i]? = some x → c'[i]? = some y → VR ρ x y) : VR ρ (.agg c) (.agg c')
  | tuple {c c' : Array Value} (hc : c.size = c'.size) (h : ∀ (i : Nat) x y, c[i]? = some x → c'[i]? = some y → VR ρ x y) : VR ρ (.tuple c) (.tuple c')

def Grows (ρ ρ' : Ren) : Prop := ∀ i L, ρ i = some L → ρ' i = some L
theorem Grows.refl (ρ : Ren) : Grows ρ ρ := fun _ _ h => h
theorem Grows.trans {a b c : Ren} (h : Grows a b) (k : Grows b c) : Grows a c := fun i L x => k i L (h i L x)

theorem VR.mono {ρ ρ' : Ren} (hg : Grows ρ ρ') {v r : Value} (h : VR ρ v r) : VR ρ' v r := by
  induction h with
  | bool b => exact .bool b
  | int k n => exact .int k n
  | string s => exact .string s
  | pnil => exact .pnil
  | ptr h => exact .ptr (hg _ _ h)
  | snil => exact .snil
  | sl h h1 h2 h3 => exact .sl (hg _ _ h) h1 h2 h3
  | sl0 hL h => exact .sl0 (hg _ _ hL) h
  | mnil => exact .mnil
  | map h => exact .map (hg _ _ h)
  | func hf _ hc _ i1 i2 => exact .func hf i1 hc i2
  | nilFunc => exact .nilFunc
  | iface _ ih => exact .iface ih
  | nilIface => exact .nilIface
  | agg hc _ ih => exact .agg hc ih
  | tuple hc _ ih => exact .tuple hc ih

inductive LR (ρ : Ren) : List Value → List Value → Prop where
  | nil : LR ρ [] []
  | cons {x y : Value} {xs ys : List Value} (h : VR ρ x y) (t : LR ρ xs ys) : LR ρ (x :: xs) (y :: ys)
theorem LR.mono {ρ ρ' : Ren} (hg : Grows ρ ρ') {a b : List Value} (h : LR ρ a b) : LR ρ' a b := by
  induction h with
  | nil => exact .nil
  | cons h _ ih => exact .cons (h.mono hg) ih
theorem LR.length {ρ : Ren} {a b : List Value} (h : LR ρ a b) : a.length = b.length := by
  induction h with
  | nil => rfl
  | cons _ _ ih => simp [ih]
theorem LR.get {ρ : Ren} {a b : List Value} (h : LR ρ a b) : ∀ (i : Nat) x, a[i]? = some x → ∃ y, b[i]? = some y ∧ VR ρ x y := by
  induction h with
  | nil => intro i x hx; simp at hx
  | cons hv _ ih =>
    intro i x hx
    cases i with
    | zero => simp at hx; subst hx; exact ⟨_, rfl, hv⟩
    | succ i => simp at hx; obtain ⟨y, hy, hr⟩ := ih i x hx; exact ⟨y, by simpa using hy, hr⟩
theorem LR.of_get {ρ : Ren} : ∀ {a b : List Value}, a.length = b.length → (∀ (i : Nat) x y, a[i]? = some x → b[i]? = some y → VR ρ x y) → LR ρ a b
  | [], [], _, _ => .nil
  | x :: xs, y :: ys, hl, h => .cons (h 0 x y rfl rfl) (LR.of_get (by simpa using hl) fun i u v hu hv => h (i + 1) u v (by simpa using hu) (by simpa using hv))
  | [], _ :: _, hl, _ => by simp at hl
  | _ :: _, [], hl, _ => by simp at hl
theorem LR.append {ρ : Ren} {a b c d : List Value} (h : LR ρ a b) (k : LR ρ c d) : LR ρ (a ++ c) (b ++ d) := by
  induction h with
  | nil => exact k
  | cons h _ ih => exact .cons h ih
theorem LR.take {ρ : Ren} {a b : List Value} (h : LR ρ a b) (n : Nat) : LR ρ (a.take n) (b.take n) := by
  induction h generalizing n with
  | nil => simp; exact .nil
  | cons h _ ih => cases n with
    | zero => exact .nil
    | succ n => exact .cons h (ih n)
theorem LR.drop {ρ : Ren} {a b : List Value} (h : LR ρ a b) (n : Nat) : LR ρ (a.drop n) (b.drop n) := by
  induction h generalizing n with
  | nil => simp; exact .nil
  | cons h t ih => cases n with
    | zero => exact .cons h t
    | succ n => exact ih n
theorem LR.agg {ρ : Ren} {a b : List Value} (h : LR ρ a b) : VR ρ (.agg a.toArray) (.agg b.toArray) :=
  .agg (by simpa using h.length) fun i x y hx hy => by
    obtain ⟨y', hy', hr⟩ := h.get i x (by simpa using hx)
    have : y = y' := by simpa [hy'] using hy.symm
    exact this ▸ hr
theorem LR.tuple {ρ : Ren} {a b : List Value} (h : LR ρ a b) : VR ρ (.tuple a.toArray) (.tuple b.toArray) :=
  .tuple (by simpa using h.length) fun i x y hx hy => by
    obtain ⟨y', hy', hr⟩ := h.get i x (by simpa using hx)
    have : y = y' := by simpa [hy'] using hy.symm
    exact this ▸ hr
theorem LR.of_arr {ρ : Ren} {c c' : Array Value} (hc : c.size = c'.size) (h : ∀ (i : Nat) x y, c[i]? = some x → c'[i]? = some y → VR ρ x y) : LR ρ c.toList c'.toList :=
  LR.of_get (by simpa using hc) fun i x y hx hy => h i x y (by simpa using hx) (by simpa using hy)

/-- The cells of related values are related. -/
theorem VR.cells {ρ : Ren} {v r : Value} (h : VR ρ v r) : LR ρ v.cells.toList r.cells.toList := by
  cases h with
  | agg hc h => exact LR.of_arr hc h
  | bool => exact .cons (.bool _) .nil
  | int => exact .cons (.int _ _) .nil
  | string => exact .cons (.string _) .nil
  | pnil => exact .cons .pnil .nil
  | ptr h => exact .cons (.ptr h) .nil
  | snil => exact .cons .snil .nil
  | sl h h1 h2 h3 => exact .cons (.sl h h1 h2 h3) .nil
  | sl0 hL h => exact .cons (.sl0 hL h) .nil
  | mnil => exact .cons .mnil .nil
  | map h => exact .cons (.map h) .nil
  | func hf h1 hc h2 => exact .cons (.func hf h1 hc h2) .nil
  | nilFunc => exact .cons .nilFunc .nil
  | iface h => exact .cons (.iface h) .nil
  | nilIface => exact .cons .nilIface .nil
  | tuple hc h => exact .cons (.tuple hc h) .nil
theorem VR.one {ρ : Ren} {v r : Value} (h : VR ρ v r) (h1 : one v = true) : r.oneCell' = true := by
  cases h <;> first | rfl | (simp [Vm.one] at h1)
theorem LR.ones {ρ : Ren} {a b : List Value} (h : LR ρ a b) (h1 : a.all Vm.one = true) : ∀ u ∈ b, u.oneCell' = true := by
  induction h with
  | nil => intro u hu; cases hu
  | cons hv _ ih =>
    simp only [List.all_cons, Bool.and_eq_true] at h1
    intro u hu
    rcases List.mem_cons.1 hu with rfl | hu
    · exact hv.one h1.1
    · exact ih h1.2 u hu
theorem flat_vr {ρ : Ren} {v : Value} (h : flat v = true) : VR ρ v v := by
  unfold flat at h
  split at h <;> first | exact .bool _ | exact .int _ _ | exact .string _ | exact .pnil | exact .snil | exact .mnil | exact .nilFunc | exact .nilIface | cases h
theorem flats_lr {ρ : Ren} : ∀ {l : List Value}, l.all flat = true → LR ρ l l
  | [], _ => .nil
  | x :: r, h => by
    simp only [List.all_cons, Bool.and_eq_true] at h
    exact .cons (flat_vr h.1) (flats_lr h.2)
theorem const_vr {ρ : Ren} {v : Value} (h : constOk v = true) : VR ρ v v := by
  unfold constOk at h
  split at h
  · rename_i cs; have := (flats_lr (ρ := ρ) h).agg; simpa using this
  · rename_i cs; have := (flats_lr (ρ := ρ) h).tuple; simpa using this
  · exact .iface (flat_vr h)
  · exact flat_vr h

/-! ### Worlds -/
theorem add_none (b o n : Nat) : (⟨b, o, none⟩ : Addr).add n = ⟨b, o + n, none⟩ := by unfold Addr.add; split <;> simp_all
/-- The world with another object in a block. -/
def setO (w : World) (b : Nat) (o : Obj) : World := { w with heap := w.heap.setIfInBounds b o }
theorem setO_same {w : World} {b : Nat} {o o' : Obj} (h : w.heap[b]? = some o') : (setO w b o).heap[b]? = some o := by
  have := (Array.getElem?_eq_some_iff.1 h).1
  simp [setO, this]
theorem setO_other {w : World} {b c : Nat} {o : Obj} (h : b ≠ c) : (setO w b o).heap[c]? = w.heap[c]? := by simp [setO, Array.getElem?_setIfInBounds_ne h]
theorem setO_setO (w : World) (b : Nat) (o o' : Obj) : setO (setO w b o) b o' = setO w b o' := by simp [setO]
theorem setCell_setO {w : World} {b o : Nat} {cs : Array Value} {ty : TypeId} {fr : Nat × Nat} (h : w.heap[b]? = some (.cells cs ty fr)) (v : Value) :
    w.setCell ⟨b, o, none⟩ v = setO w b (.cells (cs.setIfInBounds o v) ty fr) := by
  have hb := (Array.getElem?_eq_some_iff.1 h).1
  have he := (Array.getElem?_eq_some_iff.1 h).2
  unfold World.setCell setO
  congr 1
  apply Array.ext
  · simp
  · intro i h1 h2
    simp only [Array.size_modify] at h1
    rw [Array.getElem_modify, Array.getElem_setIfInBounds h1]
    by_cases hi : b = i
    · subst hi; simp [he]
    · simp [hi]
theorem cell_of {w : World} {b o : Nat} {cs : Array Value} {ty : TypeId} {fr : Nat × Nat} (h : w.heap[b]? = some (.cells cs ty fr)) : w.cell? ⟨b, o, none⟩ = cs[o]? := by
  simp [World.cell?, h]
theorem frozen_of {w : World} {b o : Nat} {cs : Array Value} {ty : TypeId} {lo hi : Nat} (h : w.heap[b]? = some (.cells cs ty (lo, hi))) (hf : ¬ (lo ≤ o ∧ o < hi)) : w.frozen? ⟨b, o, none⟩ = false := by
  simp [World.frozen?, h]; omega
/-- One world behind another one: apart from some blocks all is as it was. -/
structure Turns (S : Nat → Prop) (w w' : World) : Prop where
  os : w'.os = w.os
  tape : w'.tape = w.tape
  output : w'.output = w.output
  size : w.heap.size ≤ w'.heap.size
  block : ∀ b, b < w.heap.size → ¬ S b → w'.heap[b]? = w.heap[b]?
theorem Turns.refl (S : Nat → Prop) (w : World) : Turns S w w := ⟨rfl, rfl, rfl, Nat.le_refl _, fun _ _ _ => rfl⟩
theorem Turns.setO (w : World) (b : Nat) (o : Obj) : Turns (· = b) w (setO w b o) :=
  ⟨rfl, rfl, rfl, by simp [Vm.setO], fun c _ hc => setO_other fun h => hc h.symm⟩
theorem Turns.alloc (w : World) (o : Obj) : Turns (fun _ => False) w (w.alloc o) :=
  ⟨rfl, rfl, rfl, by simp, fun c hc _ => by show (w.heap.push o)[c]? = _; rw [Array.getElem?_push, if_neg (by omega)]⟩
theorem Turns.drew {S : Nat → Prop} {w w' : World} (h : Turns S w w') : Turns S w w'.drew := ⟨h.os, h.tape, h.output, h.size, h.block⟩
theorem Turns.trans {S S' : Nat → Prop} {a b c : World} (h : Turns S a b) (k : Turns S' b c) : Turns (fun x => S x ∨ S' x) a c :=
  ⟨k.os.trans h.os, k.tape.trans h.tape, k.output.trans h.output, Nat.le_trans h.size k.size, fun x hx hs =>
    (k.block x (Nat.lt_of_lt_of_le hx h.size) fun q => hs (.inr q)).trans (h.block x hx fun q => hs (.inl q))⟩
theorem Turns.mono {S S' : Nat → Prop} {a b : World} (h : Turns S a b) (k : ∀ x, S x → S' x) : Turns S' a b :=
  ⟨h.os, h.tape, h.output, h.size, fun x hx hs => h.block x hx fun q => hs (k x q)⟩

/-! ### Storing a row of cells -/
theorem splice_cons (cs : List Value) (k : Nat) (v : Value) (vs : List Value) (h : k < cs.length) : splice (cs.set k v) (k + 1) vs = splice cs k (v :: vs) := by
  unfold splice
  have hs : cs.set k v = cs.take k ++ v :: cs.drop (k + 1) := by rw [List.set_eq_take_append_cons_drop, if_pos h]
  have hl : (cs.take k).length = k := by simp; omega
  have h1 : (cs.set k v).take (k + 1) = cs.take k ++ [v] := by
    rw [hs, List.take_append, hl, List.take_of_length_le (by omega)]; simp
  have h2 : (cs.set k v).drop (k + 1 + vs.length) = cs.drop (k + (v :: vs).length) := by
    rw [hs, List.drop_append, hl, List.drop_of_length_le (by omega)]
    rw [show k + 1 + vs.length - k = vs.length + 1 by omega]
    simp only [List.drop_succ_cons, List.drop_drop, List.nil_append, List.length_cons]
    congr 1
    omega
  rw [h1, h2]
  simp
theorem run_storeCells {P : Program} {b s : Nat} {ty : TypeId} {lo hi : Nat} : ∀ (vs : List Value) (i : Nat) (w : World) (cs : Array Value),
    w.heap[b]? = some (.cells cs ty (lo, hi)) → (∀ off, off < cs.size → ¬ (lo ≤ off ∧ off < hi)) → s + i + vs.length ≤ cs.size → (∀ u ∈ vs, u.oneCell' = true) →
    (storeCells ⟨b, s, none⟩ vs i).run P w = .ok () (setO w b (.cells (splice cs.toList (s + i) vs).toArray ty (lo, hi)))
  | [], i, w, cs, h, _, _, _ => by
    have hb := (Array.getElem?_eq_some_iff.1 h).1
    have he := (Array.getElem?_eq_some_iff.1 h).2
    have : setO w b (.cells cs ty (lo, hi)) = w := by
      unfold setO
      have : w.heap.setIfInBounds b (.cells cs ty (lo, hi)) = w.heap := by
        apply Array.ext
        · simp
        · intro j h1 h2
          simp only [Array.size_setIfInBounds] at h1
          rw [Array.getElem_setIfInBounds h1]
          split
          · rename_i q; subst q; exact he.symm
          · rfl
      rw [this]
    simp [storeCells, splice, this]
  | v :: vs, i, w, cs, h, hf, hfit, h1 => by
    have hlen : s + i < cs.size := by simp at hfit; omega
    have hc : w.cell? ⟨b, s + i, none⟩ = some cs[s + i] := by rw [cell_of h]; simp [hlen]
    have hfz : w.frozen? ⟨b, s + i, none⟩ = false := frozen_of h (hf _ hlen)
    have hst : (store ⟨b, s + i, none⟩ v).run P w = .ok () (w.setCell ⟨b, s + i, none⟩ v) := by
      rw [run_store _ _ _ _ _ (h1 v (by simp))]; simp [hc, hfz]
    have hw := setCell_setO (o := s + i) h v
    have ih := run_storeCells (P := P) (b := b) (s := s) (ty := ty) (lo := lo) (hi := hi) vs (i + 1) (setO w b (.cells (cs.setIfInBounds (s + i) v) ty (lo, hi))) (cs.setIfInBounds (s + i) v)
      (setO_same h) (by simpa using hf) (by simp at hfit ⊢; omega) (fun u hu => h1 u (by simp [hu]))
    unfold storeCells
    simp only [add_none, Sem.run_bind, hst, Result.andThen_ok, hw, ih, setO_setO]
    rw [show s + (i + 1) = s + i + 1 by omega, show (cs.setIfInBounds (s + i) v).toList = cs.toList.set (s + i) v by simp, splice_cons _ _ _ _ (by simpa using hlen)]

/-! ### Loading a row of cells -/
theorem run_loadCellsFrom {P : Program} {w : World} {b s : Nat} : ∀ (rs : List Value) (i : Nat) (acc : Array Value),
    (∀ (j : Nat) r, rs[j]? = some r → w.cell? ⟨b, s + (i + j), none⟩ = some r) →
    (loadCellsFrom ⟨b, s, none⟩ i rs.length acc).run P w = .ok (acc ++ rs.toArray) w
  | [], i, acc, _ => by simp [loadCellsFrom]
  | r :: rs, i, acc, h => by
    have h0 := h 0 r rfl
    have hl : (load ⟨b, s + i, none⟩).run P w = .ok r w := by simp only [run_load]; simp only [Nat.add_zero] at h0; rw [h0]
    have ih := run_loadCellsFrom (P := P) (w := w) (b := b) (s := s) rs (i + 1) (acc.push r) (fun j q hq => by
      have := h (j + 1) q (by simpa using hq)
      rwa [show i + (j + 1) = i + 1 + j by omega] at this)
    simp only [List.length_cons, loadCellsFrom, add_none, Sem.run_bind, hl, Result.andThen_ok, ih]
    congr 1
    apply Array.ext'
    simp
theorem run_loadCells {P : Program} {w : World} {b s : Nat} (rs : List Value) (h : ∀ (j : Nat) r, rs[j]? = some r → w.cell? ⟨b, s + j, none⟩ = some r) :
    (loadCells ⟨b, s, none⟩ rs.length).run P w = .ok rs.toArray w := by
  have := run_loadCellsFrom (P := P) (w := w) (b := b) (s := s) rs 0 #[] (by simpa using h)
  simpa [loadCells] using this

/-! ### Stores -/
theorem Tree.get_put_same : ∀ (p : List Bool) (o : Option VObj) (t : Tree), (t.put p o).get p = o
  | [], o, .leaf => rfl
  | [], o, .node _ _ _ => rfl
  | true :: p, o, .leaf => Tree.get_put_same p o .leaf
  | false :: p, o, .leaf => Tree.get_put_same p o .leaf
  | true :: p, o, .node l v r => Tree.get_put_same p o r
  | false :: p, o, .node l v r => Tree.get_put_same p o l
theorem Tree.get_put_other : ∀ (p q : List Bool) (o : Option VObj) (t : Tree), q ≠ p → (t.put p o).get q = t.get q
  | [], [], o, t, h => absurd rfl h
  | [], true :: q, o, .leaf, h => by cases q <;> rfl
  | [], false :: q, o, .leaf, h => by cases q <;> rfl
  | [], true :: q, o, .node _ _ _, h => rfl
  | [], false :: q, o, .node _ _ _, h => rfl
  | true :: p, [], o, .leaf, h => rfl
  | false :: p, [], o, .leaf, h => rfl
  | true :: p, [], o, .node _ _ _, h => rfl
  | false :: p, [], o, .node _ _ _, h => rfl
  | true :: p, true :: q, o, .leaf, h => (Tree.get_put_other p q o .leaf fun e => h (by rw [e])).trans (by cases q <;> rfl)
  | false :: p, false :: q, o, .leaf, h => (Tree.get_put_other p q o .leaf fun e => h (by rw [e])).trans (by cases q <;> rfl)
  | true :: p, true :: q, o, .node l v r, h => Tree.get_put_other p q o r fun e => h (by rw [e])
  | false :: p, false :: q, o, .node l v r, h => Tree.get_put_other p q o l fun e => h (by rw [e])
  | true :: p, false :: q, o, .leaf, h => by cases q <;> rfl
  | false :: p, true :: q, o, .leaf, h => by cases q <;> rfl
  | true :: p, false :: q, o, .node _ _ _, h => rfl
  | false :: p, true :: q, o, .node _ _ _, h => rfl
theorem Tree.put_comm : ∀ (p q : List Bool) (x y : Option VObj) (t : Tree), p ≠ q → (t.put p x).put q y = (t.put q y).put p x
  | [], [], x, y, t, h => absurd rfl h
  | [], b :: q, x, y, .leaf, h => by cases b <;> rfl
  | [], b :: q, x, y, .node _ _ _, h => by cases b <;> rfl
  | b :: p, [], x, y, .leaf, h => by cases b <;> rfl
  | b :: p, [], x, y, .node _ _ _, h => by cases b <;> rfl
  | true :: p, false :: q, x, y, .leaf, h => rfl
  | false :: p, true :: q, x, y, .leaf, h => rfl
  | true :: p, false :: q, x, y, .node _ _ _, h => rfl
  | false :: p, true :: q, x, y, .node _ _ _, h => rfl
  | true :: p, true :: q, x, y, .leaf, h => by simp only [Tree.put, cond_true, Tree.put_comm p q x y .leaf fun e => h (by rw [e])]
  | false :: p, false :: q, x, y, .leaf, h => by simp only [Tree.put, cond_false, Tree.put_comm p q x y .leaf fun e => h (by rw [e])]
  | true :: p, true :: q, x, y, .node l v r, h => by simp only [Tree.put, cond_true, Tree.put_comm p q x y r fun e => h (by rw [e])]
  | false :: p, false :: q, x, y, .node l v r, h => by simp only [Tree.put, cond_false, Tree.put_comm p q x y l fun e => h (by rw [e])]
theorem Tree.put_self : ∀ (p : List Bool) (o : VObj) (t : Tree), t.get p = some o → t.put p (some o) = t
  | [], o, .leaf, h => by cases h
  | b :: p, o, .leaf, h => by cases h
  | [], o, .node l v r, h => by simp only [Tree.get] at h; subst h; rfl
  | true :: p, o, .node l v r, h => by simp only [Tree.get, cond_true] at h; simp only [Tree.put, cond_true, Tree.put_self p o r h]
  | false :: p, o, .node l v r, h => by simp only [Tree.get, cond_false] at h; simp only [Tree.put, cond_false, Tree.put_self p o l h]
def ofBits : List Bool → Nat
  | [] => 0
  | b :: r => cond b 1 0 + 2 * ofBits r
theorem ofBits_bitsF : ∀ (n i : Nat), i ≤ n → ofBits (bitsF n i) = i
  | 0, i, h => by have : i = 0 := by omega
                  subst this; rfl
  | n + 1, i, h => by
    unfold bitsF
    cases h0 : Nat.beq i 0 with
    | true => have := Nat.eq_of_beq_eq_true h0; subst this; rfl
    | false =>
      have hne : i ≠ 0 := Nat.ne_of_beq_eq_false h0
      simp only [cond_false, ofBits]
      rw [ofBits_bitsF n (i / 2) (by omega)]
      cases h1 : Nat.beq (i % 2) 1 with
      | true => have := Nat.eq_of_beq_eq_true h1; simp only [cond_true]; omega
      | false => have := Nat.ne_of_beq_eq_false h1; simp only [cond_false]; omega
theorem bits_inj {i j : Nat} (h : bits i = bits j) : i = j := by
  have := congrArg ofBits h
  unfold bits at this
  rwa [ofBits_bitsF i i (Nat.le_refl _), ofBits_bitsF j j (Nat.le_refl _)] at this
/-! ### The relation -/
def isOwn : VObj → Bool
  | .cells true _ _ => true
  | .map _ => true
  | _ => false
/-- Stamps of a map's entries: no two alike, all below the clock. -/
def BornOk (es : Array MapEntry) (clock : Nat) : Prop :=
  (∀ (i j : Nat) a b, es[i]? = some a → es[j]? = some b → a.born = b.born → i = j) ∧ ∀ (i : Nat) a, es[i]? = some a → a.born < clock
inductive ER (ρ : Ren) : List (Value × Value) → List MapEntry → Prop where
  | nil : ER ρ [] []
  | cons {k v : Value} {e : MapEntry} {xs : List (Value × Value)} {ys : List MapEntry} (hk : e.key = k) (hp : VR ρ k k) (hv : VR ρ v e.val) (t : ER ρ xs ys) : ER ρ ((k, v) :: xs) (e :: ys)
def OR (ρ : Ren) (w : World) (L : Loc) : VObj → Prop
  | .cells true cs _ => ∃ cs' ty' lo hi, w.heap[L.b]? = some (.cells cs' ty' (lo, hi)) ∧ L.s + L.n = cs'.size ∧ (∀ off, off < cs'.size → ¬ (lo ≤ off ∧ off < hi)) ∧ cs.length ≤ L.n ∧
      ∀ (j : Nat) v, cs[j]? = some v → ∃ r, cs'[L.s + j]? = some r ∧ VR ρ v r
  | .cells false cs _ => ∀ (j : Nat) v, cs[j]? = some v → ∃ r, w.cell? ⟨L.b, L.s + j, none⟩ = some r ∧ VR ρ v r
  | .map es => ∃ es' clock, w.heap[L.b]? = some (.map es' clock) ∧ ER ρ es es'.toList ∧ BornOk es' clock
  | .dead => True

structure Sim (P : Program) (w0 : World) (B : Nat) (ρ : Ren) (V : VS) (w : World) : Prop where
  below : Below B w0 w
  base : B ≤ w.heap.size
  dom : ∀ i L, ρ i = some L → i < V.next ∧ ∃ o, V.mem i = some o
  obj : ∀ i L o, ρ i = some L → V.mem i = some o → OR ρ w L o
  lt : ∀ i L, ρ i = some L → L.b < w.heap.size
  own : ∀ i L o, ρ i = some L → V.mem i = some o → isOwn o = true → B ≤ L.b
  ro : ∀ i L cs ty, ρ i = some L → V.mem i = some (.cells false cs ty) → L.b < B
  inj : ∀ i j L L' o o', ρ i = some L → ρ j = some L' → V.mem i = some o → V.mem j = some o' → isOwn o = true → isOwn o' = true → i ≠ j → L.b ≠ L'.b
  glob : ∀ g, g < P.globals.size → ∃ n, ρ g = some ⟨g, 0, n⟩

structure Ext (ex : Nat → Prop) (ρ : Ren) (V : VS) (ρ' : Ren) (V' : VS) : Prop where
  keep : Grows ρ ρ'
  fresh : ∀ i, i < V.next → ¬ ex i → ρ i = none → ρ' i = none ∧ V'.mem i = V.mem i
  next : V.next ≤ V'.next
theorem Ext.refl (ex : Nat → Prop) (ρ : Ren) (V : VS) : Ext ex ρ V ρ V := ⟨Grows.refl ρ, fun _ _ _ h => ⟨h, rfl⟩, Nat.le_refl _⟩
theorem Ext.trans {ex ex' : Nat → Prop} {ρ ρ1 ρ2 : Ren} {V V1 V2 : VS} (h : Ext ex ρ V ρ1 V1) (k : Ext ex' ρ1 V1 ρ2 V2) : Ext (fun i => ex i ∨ ex' i) ρ V ρ2 V2 :=
  ⟨h.keep.trans k.keep, fun i hi he hn => by
    obtain ⟨a, b⟩ := h.fresh i hi (fun q => he (.inl q)) hn
    obtain ⟨c, d⟩ := k.fresh i (Nat.lt_of_lt_of_le hi h.next) (fun q => he (.inr q)) a
    exact ⟨c, d.trans b⟩, Nat.le_trans h.next k.next⟩
theorem Ext.mono {ex ex' : Nat → Prop} {ρ ρ1 : Ren} {V V1 : VS} (h : Ext ex ρ V ρ1 V1) (k : ∀ i, i < V.next → ex i → ex' i) : Ext ex' ρ V ρ1 V1 :=
  ⟨h.keep, fun i hi he hn => h.fresh i hi (fun q => he (k i hi q)) hn, h.next⟩

theorem ER.mono {ρ ρ' : Ren} (hg : Grows ρ ρ') {a : List (Value × Value)} {b : List MapEntry} (h : ER ρ a b) : ER ρ' a b := by
  induction h with
  | nil => exact .nil
  | cons hk hp hv _ ih => exact .cons hk (hp.mono hg) (hv.mono hg) ih
theorem OR.mono {ρ ρ' : Ren} (hg : Grows ρ ρ') {w : World} {L : Loc} {o : VObj} (h : OR ρ w L o) : OR ρ' w L o := by
  match o, h with
  | .cells true cs ty, ⟨cs', ty', lo, hi, h1, h2, h3, h4, h5⟩ =>
    exact ⟨cs', ty', lo, hi, h1, h2, h3, h4, fun j v hv => by obtain ⟨r, hr, hq⟩ := h5 j v hv; exact ⟨r, hr, hq.mono hg⟩⟩
  | .cells false cs ty, h => exact fun j v hv => by obtain ⟨r, hr, hq⟩ := h j v hv; exact ⟨r, hr, hq.mono hg⟩
  | .map es, ⟨es', clock, h1, h2, h3⟩ => exact ⟨es', clock, h1, h2.mono hg, h3⟩
  | .dead, _ => trivial
/-- It speaks of one block alone. -/
theorem OR.same {ρ : Ren} {w w' : World} {L : Loc} {o : VObj} (h : OR ρ w L o) (he : w'.heap[L.b]? = w.heap[L.b]?) : OR ρ w' L o := by
  match o, h with
  | .cells true cs ty, ⟨cs', ty', lo, hi, h1, h2⟩ => exact ⟨cs', ty', lo, hi, he.trans h1, h2⟩
  | .cells false cs ty, h => exact fun j v hv => (h j v hv).elim fun r q => ⟨r, by rw [← q.1]; simp [World.cell?, he], q.2⟩
  | .map es, ⟨es', clock, h1, h2⟩ => exact ⟨es', clock, he.trans h1, h2⟩
  | .dead, _ => trivial

section
variable {P : Program} {w0 : World} {B : Nat} {ρ : Ren} {V : VS} {w : World}

theorem VS.set_same (V : VS) (i : Nat) (o : VObj) : (V.set i o).mem i = some o := by
  unfold VS.set VS.mem
  exact Tree.get_put_same _ _ _
theorem VS.set_other {V : VS} {i j : Nat} (o : VObj) (h : j ≠ i) : (V.set i o).mem j = V.mem j := by
  unfold VS.set VS.mem
  exact Tree.get_put_other _ _ _ _ fun q => h (bits_inj q)
theorem VS.set_comm {V : VS} {i j : Nat} (x y : VObj) (h : i ≠ j) : (V.set i x).set j y = (V.set j y).set i x := by
  unfold VS.set
  exact congrArg _ (Tree.put_comm _ _ _ _ _ fun q => h (bits_inj q))
theorem VS.set_next (V : VS) (i : Nat) (o : VObj) : (V.set i o).next = V.next := rfl

/-- A cell of a virtual block, read in the world. -/
theorem Sim.read (h : Sim P w0 B ρ V w) {i : Nat} {L : Loc} {own : Bool} {cs : List Value} {ty : TypeId} (hi : ρ i = some L) (hm : V.mem i = some (.cells own cs ty)) {j : Nat} {v : Value} (hv : cs[j]? = some v) :
    ∃ r, w.cell? ⟨L.b, L.s + j, none⟩ = some r ∧ VR ρ v r := by
  have ho := h.obj i L _ hi hm
  cases own with
  | false => exact ho j v hv
  | true =>
    obtain ⟨cs', ty', lo, hi', h1, _, _, _, h5⟩ := ho
    obtain ⟨r, hr, hq⟩ := h5 j v hv
    exact ⟨r, by rw [cell_of h1]; exact hr, hq⟩
/-- A row of cells of a virtual block. -/
theorem Sim.reads (h : Sim P w0 B ρ V w) {i : Nat} {L : Loc} {own : Bool} {cs : List Value} {ty : TypeId} (hi : ρ i = some L) (hm : V.mem i = some (.cells own cs ty)) (o n : Nat) (hn : o + n ≤ cs.length) :
    ∃ rs, rs.length = n ∧ LR ρ ((cs.drop o).take n) rs ∧ ∀ (j : Nat) r, rs[j]? = some r → w.cell? ⟨L.b, L.s + o + j, none⟩ = some r := by
  induction n with
  | zero => exact ⟨[], rfl, by simp; exact .nil, fun j r hr => by simp at hr⟩
  | succ n ih =>
    obtain ⟨rs, hl, hlr, hc⟩ := ih (by omega)
    have hlt : o + n < cs.length := by omega
    obtain ⟨r, hr, hq⟩ := h.read hi hm (j := o + n) (v := cs[o + n]) (by simp [hlt])
    refine ⟨rs ++ [r], by simp [hl], ?_, fun j q hq' => ?_⟩
    · have : (cs.drop o).take (n + 1) = (cs.drop o).take n ++ [cs[o + n]] := by
        rw [List.take_succ_eq_append_getElem (by simp; omega)]
        simp
      rw [this]
      exact hlr.append (.cons hq .nil)
    · rcases Nat.lt_or_ge j rs.length with hj | hj
      · rw [List.getElem?_append_left hj] at hq'; exact hc j q hq'
      · rw [List.getElem?_append_right hj] at hq'
        have h0 : j - rs.length = 0 := by
          rcases Nat.eq_zero_or_pos (j - rs.length) with h | h
          · exact h
          · rw [List.getElem?_eq_none (by simp; omega)] at hq'; cases hq'
        rw [h0] at hq'
        simp at hq'
        subst hq'
        rw [show L.s + o + j = L.s + (o + n) by omega]
        exact hr

/-- Nothing turned but what is drawn. -/
theorem Sim.drew (h : Sim P w0 B ρ V w) : Sim P w0 B ρ V w.drew :=
  ⟨h.below.drew, h.base, h.dom, fun i L o hi hm => (h.obj i L o hi hm).same rfl, h.lt, h.own, h.ro, h.inj, h.glob⟩

/-- More numbers are given out. -/
theorem Sim.bump (h : Sim P w0 B ρ V w) (n : Nat) : Sim P w0 B ρ { V with next := V.next + n } w :=
  ⟨h.below, h.base, fun i L hi => by obtain ⟨a, b⟩ := h.dom i L hi; exact ⟨by show i < V.next + n; omega, b⟩, h.obj, h.lt, h.own, h.ro, h.inj, h.glob⟩

theorem below_turns {S : Nat → Prop} {w' : World} (h : Below B w0 w) (k : Turns S w w') (hb : B ≤ w.heap.size) (hs : ∀ b, S b → B ≤ b) : Below B w0 w' :=
  ⟨k.os.trans h.os, k.tape.trans h.tape, k.output.trans h.output, Nat.le_trans h.size k.size, fun i hi => (k.block i (by omega) fun q => by have := hs i q; omega).trans (h.block i hi)⟩

/-- An own object turns into another one, in its block. -/
theorem Sim.turn (h : Sim P w0 B ρ V w) {i : Nat} {L : Loc} {o o' : VObj} (hi : ρ i = some L) (hm : V.mem i = some o) (ho : isOwn o = true) {w' : World}
    (ht : Turns (· = L.b) w w') (hor : OR ρ w' L o') (ho' : isOwn o' = true) : Sim P w0 B ρ (V.set i o') w' := by
  have hB := h.own i L o hi hm ho
  refine ⟨below_turns h.below ht h.base (fun b hb => hb ▸ hB), Nat.le_trans h.base ht.size, ?_, ?_, ?_, ?_, ?_, ?_, h.glob⟩
  · intro j K hj
    obtain ⟨a, x, hx⟩ := h.dom j K hj
    refine ⟨a, ?_⟩
    by_cases hji : j = i
    · subst hji; exact ⟨_, VS.set_same ..⟩
    · exact ⟨x, by rw [VS.set_other _ hji]; exact hx⟩
  · intro j K x hj hx
    by_cases hji : j = i
    · subst hji
      rw [VS.set_same] at hx
      cases hx
      rw [hi] at hj; cases hj
      exact hor
    · rw [VS.set_other _ hji] at hx
      have hor' := h.obj j K x hj hx
      by_cases hxo : isOwn x = true
      · exact hor'.same (ht.block _ (h.lt j K hj) (h.inj j i K L x o hj hi hx hm hxo ho hji))
      · match x, hxo with
        | .cells false cs ty, _ =>
          have := h.ro j K cs ty hj hx
          exact hor'.same (ht.block _ (h.lt j K hj) (by omega))
        | .dead, _ => trivial
        | .cells true _ _, q => exact absurd rfl q
        | .map _, q => exact absurd rfl q
  · intro j K hj; exact Nat.lt_of_lt_of_le (h.lt j K hj) ht.size
  · intro j K x hj hx hxo
    by_cases hji : j = i
    · subst hji; rw [hi] at hj; cases hj; exact hB
    · rw [VS.set_other _ hji] at hx; exact h.own j K x hj hx hxo
  · intro j K cs ty hj hx
    by_cases hji : j = i
    · subst hji; rw [VS.set_same] at hx; cases hx; simp [isOwn] at ho'
    · rw [VS.set_other _ hji] at hx; exact h.ro j K cs ty hj hx
  · intro j k K K' x x' hj hk hx hx' hxo hxo' hne
    by_cases hji : j = i
    · subst hji
      rw [VS.set_other _ (Ne.symm hne)] at hx'
      exact h.inj _ k K K' o x' hj hk hm hx' ho hxo' hne
    · rw [VS.set_other _ hji] at hx
      by_cases hki : k = i
      · subst hki
        exact h.inj j _ K K' x o hj hk hx hm hxo ho hne
      · rw [VS.set_other _ hki] at hx'
        exact h.inj j k K K' x x' hj hk hx hx' hxo hxo' hne

/-- What is there counts as gone. -/
theorem Sim.kill (h : Sim P w0 B ρ V w) {i : Nat} {L : Loc} (hi : ρ i = some L) : Sim P w0 B ρ (V.set i .dead) w := by
  have key : ∀ j x, (V.set i .dead).mem j = some x → x = .dead ∨ (j ≠ i ∧ V.mem j = some x) := by
    intro j x hx
    by_cases hji : j = i
    · subst hji; rw [VS.set_same] at hx; cases hx; exact .inl rfl
    · rw [VS.set_other _ hji] at hx; exact .inr ⟨hji, hx⟩
  refine ⟨h.below, h.base, ?_, ?_, h.lt, ?_, ?_, ?_, h.glob⟩
  · intro j K hj
    obtain ⟨a, x, hx⟩ := h.dom j K hj
    refine ⟨a, ?_⟩
    by_cases hji : j = i
    · subst hji; exact ⟨_, VS.set_same ..⟩
    · exact ⟨x, by rw [VS.set_other _ hji]; exact hx⟩
  · intro j K x hj hx
    rcases key j x hx with rfl | ⟨_, hx⟩
    · trivial
    · exact h.obj j K x hj hx
  · intro j K x hj hx hxo
    rcases key j x hx with rfl | ⟨_, hx⟩
    · simp [isOwn] at hxo
    · exact h.own j K x hj hx hxo
  · intro j K cs ty hj hx
    rcases key j _ hx with hq | ⟨_, hx⟩
    · cases hq
    · exact h.ro j K cs ty hj hx
  · intro j k K K' x x' hj hk hx hx' hxo hxo' hne
    rcases key j x hx with rfl | ⟨_, hx⟩
    · simp [isOwn] at hxo
    · rcases key k x' hx' with rfl | ⟨_, hx'⟩
      · simp [isOwn] at hxo'
      · exact h.inj j k K K' x x' hj hk hx hx' hxo hxo' hne

def Ren.put (ρ : Ren) (i : Nat) (L : Loc) : Ren := fun j => if j = i then some L else ρ j
theorem Ren.put_same (ρ : Ren) (i : Nat) (L : Loc) : ρ.put i L i = some L := by simp [Ren.put]
theorem Ren.put_other (ρ : Ren) {i j : Nat} (L : Loc) (h : j ≠ i) : ρ.put i L j = ρ j := by simp [Ren.put, h]
theorem Ren.put_grows {ρ : Ren} {i : Nat} (L : Loc) (h : ρ i = none) : Grows ρ (ρ.put i L) := fun j K hj => by
  by_cases hji : j = i
  · subst hji; rw [h] at hj; cases hj
  · rw [Ren.put_other _ _ hji]; exact hj

/-- A new own object, in a block that is new. -/
theorem Sim.make (h : Sim P w0 B ρ V w) {id : Nat} {L : Loc} {o : VObj} (hid : id < V.next) (hn : ρ id = none) {w' : World}
    (ht : Turns (fun _ => False) w w') (hL : w.heap.size ≤ L.b) (hL' : L.b < w'.heap.size) (hor : OR (ρ.put id L) w' L o) (ho : isOwn o = true) :
    Sim P w0 B (ρ.put id L) (V.set id o) w' := by
  have hg := Ren.put_grows L hn
  refine ⟨below_turns h.below ht h.base (fun b hb => hb.elim), Nat.le_trans h.base ht.size, ?_, ?_, ?_, ?_, ?_, ?_, ?_⟩
  · intro j K hj
    by_cases hji : j = id
    · subst hji; exact ⟨hid, _, VS.set_same ..⟩
    · rw [Ren.put_other _ _ hji] at hj
      obtain ⟨a, x, hx⟩ := h.dom j K hj
      exact ⟨a, x, by rw [VS.set_other _ hji]; exact hx⟩
  · intro j K x hj hx
    by_cases hji : j = id
    · subst hji
      rw [VS.set_same] at hx; cases hx
      rw [Ren.put_same] at hj; cases hj
      exact hor
    · rw [VS.set_other _ hji] at hx
      rw [Ren.put_other _ _ hji] at hj
      exact ((h.obj j K x hj hx).mono hg).same (ht.block _ (h.lt j K hj) (fun q => q))
  · intro j K hj
    by_cases hji : j = id
    · subst hji; rw [Ren.put_same] at hj; cases hj; exact hL'
    · rw [Ren.put_other _ _ hji] at hj; exact Nat.lt_of_lt_of_le (h.lt j K hj) ht.size
  · intro j K x hj hx hxo
    by_cases hji : j = id
    · subst hji; rw [Ren.put_same] at hj; cases hj; exact Nat.le_trans h.base hL
    · rw [VS.set_other _ hji] at hx
      rw [Ren.put_other _ _ hji] at hj
      exact h.own j K x hj hx hxo
  · intro j K cs ty hj hx
    by_cases hji : j = id
    · subst hji; rw [VS.set_same] at hx; cases hx; simp [isOwn] at ho
    · rw [VS.set_other _ hji] at hx
      rw [Ren.put_other _ _ hji] at hj
      exact h.ro j K cs ty hj hx
  · intro j k K K' x x' hj hk hx hx' hxo hxo' hne
    by_cases hji : j = id
    · subst hji
      have hkj : k ≠ j := Ne.symm hne
      rw [Ren.put_same] at hj; cases hj
      rw [Ren.put_other _ _ hkj] at hk
      have := h.lt k K' hk
      omega
    · rw [Ren.put_other _ _ hji] at hj
      rw [VS.set_other _ hji] at hx
      by_cases hki : k = id
      · subst hki
        rw [Ren.put_same] at hk; cases hk
        have := h.lt j K hj
        omega
      · rw [Ren.put_other _ _ hki] at hk
        rw [VS.set_other _ hki] at hx'
        exact h.inj j k K K' x x' hj hk hx hx' hxo hxo' hne
  · intro g hg'
    obtain ⟨n, hgn⟩ := h.glob g hg'
    exact ⟨n, hg _ _ hgn⟩
theorem make_ext {id : Nat} {L : Loc} {o : VObj} (hn : ρ id = none) : Ext (· = id) ρ V (ρ.put id L) (V.set id o) :=
  ⟨Ren.put_grows L hn, fun i hi he h0 => ⟨by rw [Ren.put_other _ _ he]; exact h0, VS.set_other _ he⟩, Nat.le_refl _⟩
theorem turn_ext {ex : Nat → Prop} {i : Nat} {L : Loc} {o : VObj} (hi : ρ i = some L) : Ext ex ρ V ρ (V.set i o) :=
  ⟨Grows.refl ρ, fun j hj he h0 => ⟨h0, VS.set_other _ (fun h => by subst h; rw [hi] at h0; cases h0)⟩, Nat.le_refl _⟩
/-- An own object goes; another number takes a piece of its block. -/
theorem Sim.pass (h : Sim P w0 B ρ V w) {i id : Nat} {L L' : Loc} {o o' : VObj} (hi : ρ i = some L) (hm : V.mem i = some o) (ho : isOwn o = true) (hid : id < V.next) (hn : ρ id = none) (hb : L'.b = L.b) {w' : World}
    (ht : Turns (· = L.b) w w') (hor : OR (ρ.put id L') w' L' o') (ho' : isOwn o' = true) : Sim P w0 B (ρ.put id L') ((V.set i .dead).set id o') w' := by
  have hne : i ≠ id := fun q => by subst q; rw [hi] at hn; cases hn
  have hB := h.own i L o hi hm ho
  have hg := Ren.put_grows L' hn
  refine ⟨below_turns h.below ht h.base (fun b hb => hb ▸ hB), Nat.le_trans h.base ht.size, ?_, ?_, ?_, ?_, ?_, ?_, ?_⟩
  · intro j K hj
    by_cases hji : j = id
    · subst hji; exact ⟨hid, _, VS.set_same ..⟩
    · rw [Ren.put_other _ _ hji] at hj
      obtain ⟨a, x, hx⟩ := h.dom j K hj
      refine ⟨a, ?_⟩
      rw [VS.set_other _ hji]
      by_cases hjj : j = i
      · subst hjj; exact ⟨_, VS.set_same ..⟩
      · exact ⟨x, by rw [VS.set_other _ hjj]; exact hx⟩
  · intro j K x hj hx
    by_cases hji : j = id
    · subst hji
      rw [VS.set_same] at hx; cases hx
      rw [Ren.put_same] at hj; cases hj
      exact hor
    · rw [VS.set_other _ hji] at hx
      rw [Ren.put_other _ _ hji] at hj
      by_cases hjj : j = i
      · subst hjj; rw [VS.set_same] at hx; cases hx; trivial
      · rw [VS.set_other _ hjj] at hx
        have hor' := (h.obj j K x hj hx).mono hg
        by_cases hxo : isOwn x = true
        · exact hor'.same (ht.block _ (h.lt j K hj) (h.inj j i K L x o hj hi hx hm hxo ho hjj))
        · match x, hxo with
          | .cells false cs ty, _ =>
            have := h.ro j K cs ty hj hx
            exact hor'.same (ht.block _ (h.lt j K hj) (by omega))
          | .dead, _ => trivial
          | .cells true _ _, q => exact absurd rfl q
          | .map _, q => exact absurd rfl q
  · intro j K hj
    by_cases hji : j = id
    · subst hji; rw [Ren.put_same] at hj; cases hj; rw [hb]; exact Nat.lt_of_lt_of_le (h.lt i L hi) ht.size
    · rw [Ren.put_other _ _ hji] at hj; exact Nat.lt_of_lt_of_le (h.lt j K hj) ht.size
  · intro j K x hj hx hxo
    by_cases hji : j = id
    · subst hji; rw [Ren.put_same] at hj; cases hj; rw [hb]; exact hB
    · rw [VS.set_other _ hji] at hx
      rw [Ren.put_other _ _ hji] at hj
      by_cases hjj : j = i
      · subst hjj; rw [VS.set_same] at hx; cases hx; simp [isOwn] at hxo
      · rw [VS.set_other _ hjj] at hx; exact h.own j K x hj hx hxo
  · intro j K cs ty hj hx
    by_cases hji : j = id
    · subst hji; rw [VS.set_same] at hx; cases hx; simp [isOwn] at ho'
    · rw [VS.set_other _ hji] at hx
      rw [Ren.put_other _ _ hji] at hj
      by_cases hjj : j = i
      · subst hjj; rw [VS.set_same] at hx; cases hx
      · rw [VS.set_other _ hjj] at hx; exact h.ro j K cs ty hj hx
  · have key : ∀ j K x, ρ.put id L' j = some K → ((V.set i .dead).set id o').mem j = some x → isOwn x = true → j ≠ id → j ≠ i ∧ ρ j = some K ∧ V.mem j = some x := by
      intro j K x hj hx hxo hji
      rw [VS.set_other _ hji] at hx
      rw [Ren.put_other _ _ hji] at hj
      by_cases hjj : j = i
      · subst hjj; rw [VS.set_same] at hx; cases hx; simp [isOwn] at hxo
      · rw [VS.set_other _ hjj] at hx; exact ⟨hjj, hj, hx⟩
    intro j k K K' x x' hj hk hx hx' hxo hxo' hjk
    by_cases hji : j = id
    · subst hji
      obtain ⟨a, b, c⟩ := key k K' x' hk hx' hxo' (Ne.symm hjk)
      rw [Ren.put_same] at hj; cases hj
      rw [hb]
      exact fun q => h.inj k i K' L x' o b hi c hm hxo' ho a q.symm
    · obtain ⟨a, b, c⟩ := key j K x hj hx hxo hji
      by_cases hki : k = id
      · subst hki
        rw [Ren.put_same] at hk; cases hk
        rw [hb]
        exact h.inj j i K L x o b hi c hm hxo ho a
      · obtain ⟨a', b', c'⟩ := key k K' x' hk hx' hxo' hki
        exact h.inj j k K K' x x' b b' c c' hxo hxo' hjk
  · intro g hg'
    obtain ⟨n, hgn⟩ := h.glob g hg'
    exact ⟨n, hg _ _ hgn⟩
end
end Go.Vm
end
section
/- Each operation of the virtual machine against the model's own: the plain ones. -/
set_option linter.unusedVariables false
set_option linter.unusedSimpArgs false
namespace Go.Vm
open Go Go.RowKit

def tkOf : TypeDesc → TK
  | .bool => .bool
  | .int k => .int k
  | .string => .string
  | .pointer _ => .ptr
  | .slice e => .slice e
  | .array n e => .array n e
  | .map k e => .map k e
  | .struct fs => .struct (fs.toList.map fun f => (f.offset, f.type))
  | .func _ _ _ => .func
  | .interface _ => .iface
  | _ => .other

structure TOk (P : Program) (T : TT) : Prop where
  info : ∀ t i, T.get t = some i → ∃ inf, P.info? t = some inf ∧ inf.size = i.size ∧ inf.bytes = i.bytes ∧ inf.zero = some i.zeroVal
  under : ∀ t i, T.get t = some i → ∃ d, P.underlying t = some d ∧ tkOf d = i.kind
  zero : ∀ t i, T.get t = some i → i.zero.all flat = true ∧ i.zeroVal.cells.toList = i.zero ∧ i.zero.length = i.size ∧ (i.kind.isAgg = false → i.size = 1)
  globals : T.globals = P.globals.size
  fields : ∀ t fs n a b, T.get t = some ⟨.struct fs, n, a, b⟩ → ∀ f ∈ fs, ∃ inf, P.info? f.2 = some inf
  plain : ∀ t fs n a b cs, T.get t = some ⟨.struct fs, n, a, b⟩ → plainT T fs 0 = some cs → P.stoodInHeld t = false ∧ P.eqGuardType P.depth t = false ∧
    ∀ fields, P.underlying t = some (.struct fields) → fields.toList.all (fun f => f.name != "_") = true

theorem tk_struct {d : TypeDesc} {fs : List (Nat × TypeId)} (h : tkOf d = .struct fs) : ∃ F : Array Field, d = .struct F ∧ F.toList.map (fun f => (f.offset, f.type)) = fs := by
  cases d <;> simp [tkOf] at h
  exact ⟨_, rfl, h⟩
theorem tk_slice {d : TypeDesc} {e : TypeId} (h : tkOf d = .slice e) : d = .slice e := by cases d <;> simp [tkOf] at h; rw [h]
theorem tk_array {d : TypeDesc} {n : Nat} {e : TypeId} (h : tkOf d = .array n e) : d = .array n e := by cases d <;> simp [tkOf] at h; rw [h.1, h.2]
theorem tk_map {d : TypeDesc} {k e : TypeId} (h : tkOf d = .map k e) : d = .map k e := by cases d <;> simp [tkOf] at h; rw [h.1, h.2]
theorem tk_int {d : TypeDesc} {k : IntKind} (h : tkOf d = .int k) : d = .int k := by cases d <;> simp [tkOf] at h; rw [h]
theorem tk_string {d : TypeDesc} (h : tkOf d = .string) : d = .string := by cases d <;> simp [tkOf] at h; rfl
theorem tk_bool {d : TypeDesc} (h : tkOf d = .bool) : d = .bool := by cases d <;> simp [tkOf] at h; rfl
theorem tk_ptr {d : TypeDesc} (h : tkOf d = .ptr) : ∃ e, d = .pointer e := by cases d <;> simp [tkOf] at h; exact ⟨_, rfl⟩
theorem tk_func {d : TypeDesc} (h : tkOf d = .func) : ∃ a b c, d = .func a b c := by cases d <;> simp [tkOf] at h; exact ⟨_, _, _, rfl⟩
theorem tk_iface {d : TypeDesc} (h : tkOf d = .iface) : ∃ a, d = .interface a := by cases d <;> simp [tkOf] at h; exact ⟨_, rfl⟩
theorem tk_not_iface {d : TypeDesc} (h : tkOf d ≠ .iface) : ∀ a, d ≠ .interface a := by rintro a rfl; exact h rfl

section
variable {P : Program} {w : World}
theorem run_info {t : TypeId} {i : TypeInfo} (h : P.info? t = some i) : (typeInfo t).run P w = .ok i w := by simp [typeInfo, h]
theorem run_size {t : TypeId} {i : TypeInfo} (h : P.info? t = some i) : (sizeOf t).run P w = .ok i.size w := by simp [sizeOf, run_info h]
theorem run_isAgg {t : TypeId} {d : TypeDesc} (h : P.underlying t = some d) : (isAgg t).run P w = .ok (tkOf d).isAgg w := by
  unfold isAgg
  simp only [Sem.run_bind, run_underlying h, Result.andThen_ok]
  cases d <;> rfl
theorem run_zero {t : TypeId} {i : TypeInfo} {z : Value} (h : P.info? t = some i) (hz : i.zero = some z) : (zeroValue t).run P w = .ok z w := by simp [zeroValue, run_info h, hz]
end

section
variable (P : Program) (w0 : World) (B : Nat) (ex : Nat → Prop) (ρ : Ren) (V : VS) (w : World)
/-- What the virtual operation answers, the model's own gives. -/
def Good (s : Sem Value) : Res Value → Prop
  | .stuck => True
  | .ok u V' => ∃ r w' ρ', s.run P w = .ok r w' ∧ VR ρ' u r ∧ Sim P w0 B ρ' V' w' ∧ Ext ex ρ V ρ' V'
  | .panic v V' => ∃ r w' ρ', s.run P w = .halt (.panic r) w' ∧ VR ρ' v r ∧ Sim P w0 B ρ' V' w' ∧ Ext ex ρ V ρ' V'
/-- The same for operations that give nothing. -/
def GoodU (s : Sem Unit) : Res Value → Prop
  | .stuck => True
  | .ok u V' => u = undefV ∧ ∃ w' ρ', s.run P w = .ok () w' ∧ Sim P w0 B ρ' V' w' ∧ Ext ex ρ V ρ' V'
  | .panic v V' => False
end

section
variable {P : Program} {w0 : World} {B : Nat} {ex : Nat → Prop} {ρ : Ren} {V : VS} {w : World} {T : TT}

theorem Good.pure_ {s : Sem Value} {u r : Value} (h : Sim P w0 B ρ V w) (hs : s.run P w = .ok r w) (hr : VR ρ u r) : Good P w0 B ex ρ V w s (M.pure u V) :=
  ⟨r, w, ρ, hs, hr, h, Ext.refl ..⟩
theorem Good.opt {s : Sem Value} {o : Option Value} (h : Sim P w0 B ρ V w) (hs : ∀ u, o = some u → ∃ r, s.run P w = .ok r w ∧ VR ρ u r) : Good P w0 B ex ρ V w s (optM o V) := by
  cases o with
  | none => trivial
  | some u => obtain ⟨r, a, b⟩ := hs u rfl; exact Good.pure_ h a b

/-! addresses -/
theorem good_addOff (h : Sim P w0 B ρ V w) {st : TypeId} {fields : Array Field} (hu : P.underlying st = some (.struct fields)) {f : Nat} {fd : Field} (hf : fields[f]? = some fd)
    {i : TypeInfo} (hi : P.info? fd.type = some i) (hne : i.size ≠ 0) {x r : Value} (hx : VR ρ x r) : Good P w0 B ex ρ V w (Instr.fieldAt st r f) (addOff fd.offset x V) := by
  unfold addOff
  split
  · rename_i b o
    cases hx with
    | ptr hL =>
      refine Good.pure_ h ?_ (VR.ptr hL)
      · simp [Instr.fieldAt, run_underlying hu, hf, Instr.sureAddr, fieldPlace, run_size hi, hne, add_none, Nat.add_assoc]
  · trivial
theorem good_nilChk {x r u : Value} {V' : VS} (hx : VR ρ x r) (o : Oper) (opx : Operand) (e : Operand → Value) (ho : o.op = .nilCheck opx) (he : e opx = r)
    (h : nilChk x V = .ok u V') : V' = V ∧ ∃ r', (execOp e o).run P w = .ok (.value r') w ∧ VR ρ u r' := by
  unfold nilChk at h
  split at h
  · rename_i a
    cases h
    cases hx with
    | ptr hL => exact ⟨rfl, _, by simp [execOp, ho, he], VR.ptr hL⟩
  · rename_i f a b
    cases h
    cases hx with
    | func hf h1 hc h2 => exact ⟨rfl, _, by simp [execOp, ho, he], VR.func hf h1 hc h2⟩
  · cases h
theorem nilChk_panic {x v : Value} {V' : VS} : nilChk x V ≠ .panic v V' := by
  unfold nilChk
  split <;> simp [M.pure, M.stuck]
theorem good_idxSl (h : Sim P w0 B ρ V w) {t e : TypeId} (hu : P.underlying t = some (.slice e)) {i : TypeInfo} (hi : P.info? e = some i) {x r y q : Value} (hx : VR ρ x r) (hy : VR ρ y q) :
    Good P w0 B ex ρ V w (Instr.indexAt t r q) (idxSl i.size x y V) := by
  unfold idxSl
  split
  · rename_i b o len cap k n
    split
    · rename_i hn
      cases hy
      cases hx with
      | sl hL h1 h2 h3 =>
        refine Good.pure_ h ?_ (VR.ptr hL)
        simp [Instr.indexAt, asIntOf, run_underlying hu, hn, run_size hi, add_none, Nat.add_assoc]
      | sl0 hL h => omega
    · trivial
  · trivial
theorem good_idxArr (h : Sim P w0 B ρ V w) {t e : TypeId} {len : Nat} (hu : P.underlying t = some (.array len e)) {i : TypeInfo} (hi : P.info? e = some i) {x r y q : Value} (hx : VR ρ x r) (hy : VR ρ y q) :
    Good P w0 B ex ρ V w (Instr.indexAt t r q) (idxArr i.size len x y V) := by
  unfold idxArr
  split
  · rename_i b o k n
    split
    · rename_i hn
      cases hy
      cases hx with
      | ptr hL =>
        refine Good.pure_ h ?_ (VR.ptr hL)
        simp [Instr.indexAt, asIntOf, run_underlying hu, hn, run_size hi, add_none, Nat.add_assoc, Instr.sureAddr]
    · trivial
  · trivial
theorem good_idxStr (h : Sim P w0 B ρ V w) {t : TypeId} (hu : P.underlying t = some .string) {x r y q : Value} (hx : VR ρ x r) (hy : VR ρ y q) :
    Good P w0 B ex ρ V w (Instr.index t r q) (idxStr x y V) := by
  unfold idxStr
  split
  · rename_i s k n
    cases hx; cases hy
    split
    · rename_i hn
      cases hb : s[n.toNat]? with
      | some b =>
        refine Good.pure_ h (r := .int .u8 b.toNat) ?_ (.int _ _)
        simp [Instr.index, asIntOf, run_underlying hu, hn, hb]
      | none => trivial
    · trivial
  · trivial
theorem LR.drop_take {a b : List Value} (h : LR ρ a b) (o n : Nat) : LR ρ ((a.drop o).take n) ((b.drop o).take n) := (h.drop o).take n
theorem extract_list (c : Array Value) (o n : Nat) (h : o + n ≤ c.size) : c.extract o (o + n) = ((c.toList.drop o).take n).toArray := by
  apply Array.ext'
  simp [List.take_drop, Nat.add_comm]
theorem good_part (h : Sim P w0 B ρ V w) {t : TypeId} {d : TypeDesc} (hu : P.underlying t = some d) {i : TypeInfo} (hi : P.info? t = some i) (off : Nat) {x r : Value} (hx : VR ρ x r) :
    Good P w0 B ex ρ V w (do part t (← asAgg r) off) (partV (tkOf d).isAgg off i.size x V) := by
  unfold partV
  split
  · rename_i cs
    cases hx with
    | agg hc hcs =>
      rename_i cs'
      have hlr := LR.of_arr hc hcs
      cases ha : (tkOf d).isAgg with
      | true =>
        simp only [cond_true]
        split
        · rename_i hle
          refine Good.pure_ h (r := .agg _) ?_ (hlr.drop_take off i.size).agg
          simp [asAgg, part, run_isAgg hu, ha, run_size hi]
          rw [extract_list _ _ _ (by rw [← hc]; exact hle)]
        · trivial
      | false =>
        simp only [cond_false]
        cases hv : cs[off]? with
        | some v =>
          obtain ⟨r, hr, hq⟩ := hlr.get off v (by simpa using hv)
          refine Good.pure_ h (r := r) ?_ hq
          have hr' : cs'[off]? = some r := by simpa using hr
          simp [asAgg, part, run_isAgg hu, ha, hr']
        | none => trivial
  · trivial
theorem good_field (h : Sim P w0 B ρ V w) {st : TypeId} {fields : Array Field} (hs : P.underlying st = some (.struct fields)) {f : Nat} {fd : Field} (hf : fields[f]? = some fd)
    {d : TypeDesc} (hu : P.underlying fd.type = some d) {i : TypeInfo} (hi : P.info? fd.type = some i) {x r : Value} (hx : VR ρ x r) :
    Good P w0 B ex ρ V w (Instr.field st r f) (partV (tkOf d).isAgg fd.offset i.size x V) := by
  have hg := good_part (ex := ex) h hu hi fd.offset hx
  have : ∀ w, (Instr.field st r f).run P w = (do part fd.type (← asAgg r) fd.offset : Sem Value).run P w := by
    intro w; simp [Instr.field, run_underlying hs, hf]
  unfold Good at *
  split at hg <;> simp_all
theorem good_idxAgg (h : Sim P w0 B ρ V w) {t e : TypeId} {len : Nat} (ht : P.underlying t = some (.array len e)) {d : TypeDesc} (hu : P.underlying e = some d) {i : TypeInfo} (hi : P.info? e = some i)
    {x r y q : Value} (hx : VR ρ x r) (hy : VR ρ y q) : Good P w0 B ex ρ V w (Instr.index t r q) (idxAgg (tkOf d).isAgg i.size len x y V) := by
  unfold idxAgg
  split
  · rename_i k n
    split
    · rename_i hn
      cases hy
      have hg := good_part (ex := ex) h hu hi (n.toNat * i.size) hx
      have hx' : partV (tkOf d).isAgg (n.toNat * i.size) i.size x V = .stuck ∨ ∃ c, r = .agg c := by
        unfold partV
        split
        · cases hx; exact .inr ⟨_, rfl⟩
        · exact .inl rfl
      rcases hx' with hx' | ⟨c, rfl⟩
      · rw [hx']; trivial
      · have : ∀ w, (Instr.index t (.agg c) (.int k n)).run P w = (do part e (← asAgg (.agg c)) (n.toNat * i.size) : Sem Value).run P w := by
          intro w; simp [Instr.index, asIntOf, run_underlying ht, hn, run_size hi, asAgg]
        unfold Good at *
        split at hg <;> simp_all
    · trivial
  · trivial

/-! slices of slices, arrays, strings -/
/-- An operand that may not be there. -/
def VO (ρ : Ren) : Option Value → Option Value → Prop
  | none, none => True
  | some a, some b => VR ρ a b
  | _, _ => False
theorem bnd_run {x r : Option Value} (hx : VO ρ x r) {dflt most n : Nat} (hb : bnd x dflt most = some n) :
    (x = none ∧ r = none ∧ n = dflt) ∨ ∃ k z, x = some (.int k z) ∧ r = some (.int k z) ∧ 0 ≤ z ∧ z ≤ (most : Int) ∧ n = z.toNat := by
  unfold bnd at hb
  split at hb
  · cases r with
    | none => exact .inl ⟨rfl, rfl, by simpa using hb.symm⟩
    | some _ => exact hx.elim
  · rename_i k z
    cases r with
    | none => exact hx.elim
    | some q =>
      change VR ρ _ q at hx
      cases hx
      split at hb
      · rename_i hz; exact .inr ⟨k, z, rfl, rfl, hz.1, hz.2, by simpa using hb.symm⟩
      · cases hb
  · cases hb
theorem run_bounds {isSl : Bool} {len cap : Nat} {lo hi mx : Option Value} {l h m : Nat}
    (hm : (mx = none ∧ m = cap) ∨ ∃ k z, mx = some (.int k z) ∧ 0 ≤ z ∧ z ≤ (cap : Int) ∧ m = z.toNat)
    (hh : (hi = none ∧ mx = none ∧ h = len) ∨ ∃ k z, hi = some (.int k z) ∧ 0 ≤ z ∧ z ≤ (m : Int) ∧ h = z.toNat)
    (hl : (lo = none ∧ l = 0) ∨ ∃ k z, lo = some (.int k z) ∧ 0 ≤ z ∧ z ≤ (h : Int) ∧ l = z.toNat) :
    (Instr.sliceBounds isSl len cap lo hi mx).run P w = .ok (l, h, m) w := by
  have one : ∀ (k : IntKind) (z : Int) (n : Nat) (c : BoundsCode), 0 ≤ z → z ≤ (n : Int) → (Instr.sliceBound (.int k z) n c).run P w = .ok z.toNat w := by
    intro k z n c h1 h2
    simp [Instr.sliceBound, asIntOf, h1, h2]
  rcases hm with ⟨rfl, rfl⟩ | ⟨k, z, rfl, a1, a2, rfl⟩
  · rcases hh with ⟨rfl, _, rfl⟩ | ⟨k2, z2, rfl, b1, b2, rfl⟩
    · rcases hl with ⟨rfl, rfl⟩ | ⟨k3, z3, rfl, c1, c2, rfl⟩
      · simp [Instr.sliceBounds]
      · simp [Instr.sliceBounds, one _ _ _ _ c1 c2]
    · rcases hl with ⟨rfl, rfl⟩ | ⟨k3, z3, rfl, c1, c2, rfl⟩
      · simp [Instr.sliceBounds, one _ _ _ _ b1 b2]
      · simp [Instr.sliceBounds, one _ _ _ _ b1 b2, one _ _ _ _ c1 c2]
  · rcases hh with ⟨_, hc, _⟩ | ⟨k2, z2, rfl, b1, b2, rfl⟩
    · cases hc
    · rcases hl with ⟨rfl, rfl⟩ | ⟨k3, z3, rfl, c1, c2, rfl⟩
      · simp [Instr.sliceBounds, one _ _ _ _ a1 a2, one _ _ _ _ b1 b2]
      · simp [Instr.sliceBounds, one _ _ _ _ a1 a2, one _ _ _ _ b1 b2, one _ _ _ _ c1 c2]
theorem isUnk_iff {c : Nat} : isUnk c = true ↔ 18446744073709551616 ≤ c := by simp [isUnk, unk]
theorem isUnk_small {c : Nat} (h : c ≤ 9223372036854775807) : isUnk c = false := by
  cases hc : isUnk c with
  | false => rfl
  | true => rw [isUnk_iff] at hc; omega
theorem run_sliceAt {t e : TypeId} (hu : P.underlying t = some (.slice e)) {i : TypeInfo} (hi : P.info? e = some i) {a : Option Addr} {len cap l h m : Nat} {lo hi' mx : Option Value}
    (hb : (Instr.sliceBounds true len cap lo hi' mx).run P w = .ok (l, h, m) w) :
    (Instr.sliceAt t (.slice a len cap) lo hi' mx).run P w = .ok (.slice (if m = l then a else a.map (·.add (l * i.size))) (h - l) (m - l)) w := by
  simp [Instr.sliceAt, Instr.slice, run_underlying hu, hb, run_size hi]
theorem bnd_le {lo' : Option Value} {l hN : Nat} (el' : (lo' = none ∧ l = 0) ∨ ∃ k z, lo' = some (.int k z) ∧ 0 ≤ z ∧ z ≤ (hN : Int) ∧ l = z.toNat) : l ≤ hN := by
  rcases el' with ⟨_, rfl⟩ | ⟨k, z, _, a, b, rfl⟩
  · exact Nat.zero_le _
  · exact Int.toNat_le.2 b
theorem good_slSl (h : Sim P w0 B ρ V w) {t e : TypeId} (hu : P.underlying t = some (.slice e)) {i : TypeInfo} (hi : P.info? e = some i) {x r : Value} (hx : VR ρ x r)
    {lo lo' hi1 hi2 mx mx' : Option Value} (hlo : VO ρ lo lo') (hhi : VO ρ hi1 hi2) (hmx : VO ρ mx mx') : Good P w0 B ex ρ V w (Instr.sliceAt t r lo' hi2 mx') (slSl i.size x lo hi1 mx V) := by
  unfold slSl
  cases hc : (mx.isSome && hi1.isNone) with
  | true => trivial
  | false =>
  simp only [cond_false]
  split
  · rename_i base len cap
    generalize htop : cond (isUnk cap) len cap = top
    cases hm : bnd mx cap top with
    | none => trivial
    | some m =>
    simp only
    cases hh : bnd hi1 len (cond mx.isSome m top) with
    | none => trivial
    | some hN =>
    simp only
    cases hl : bnd lo 0 hN with
    | none => trivial
    | some l =>
    simp only
    have em := bnd_run hmx hm
    have eh := bnd_run hhi hh
    have el := bnd_run hlo hl
    have el' : (lo' = none ∧ l = 0) ∨ ∃ k z, lo' = some (.int k z) ∧ 0 ≤ z ∧ z ≤ (hN : Int) ∧ l = z.toNat := by
      rcases el with ⟨_, a, b⟩ | ⟨k, z, _, a, b, c, d⟩
      · exact .inl ⟨a, b⟩
      · exact .inr ⟨k, z, a, b, c, d⟩
    have hlh : l ≤ hN := bnd_le el'
    have hmh : mx = none ∨ hi1 ≠ none := by
      cases mx with
      | none => exact .inl rfl
      | some _ => cases hi1 with
        | none => simp at hc
        | some _ => exact .inr (by simp)
    have key : ∀ cr : Nat, top ≤ cr → ∃ mr, (Instr.sliceBounds true len cr lo' hi2 mx').run P w = .ok (l, hN, mr) w ∧ ((mx = none ∧ mr = cr ∧ m = cap) ∨ (mx ≠ none ∧ mr = m ∧ m ≤ top)) ∧
        (hN = len ∧ mx = none ∨ hN ≤ cond mx.isSome m top) := by
      intro cr hcr
      have e2 : hN = len ∧ mx = none ∨ hN ≤ cond mx.isSome m top := by
        rcases eh with ⟨q, _, c⟩ | ⟨k, z, _, _, c, d, e⟩
        · rcases hmh with hq | hq
          · exact .inl ⟨c, hq⟩
          · exact absurd q hq
        · exact .inr (by omega)
      rcases em with ⟨rfl, rfl, rfl⟩ | ⟨k, z, rfl, rfl, a1, a2, rfl⟩
      · refine ⟨cr, run_bounds (.inl ⟨rfl, rfl⟩) ?_ el', .inl ⟨rfl, rfl, rfl⟩, e2⟩
        rcases eh with ⟨_, b, c⟩ | ⟨k, z, _, b, c, d, e⟩
        · exact .inl ⟨b, rfl, c⟩
        · simp at d
          exact .inr ⟨k, z, b, c, by omega, e⟩
      · refine ⟨z.toNat, run_bounds (.inr ⟨k, z, rfl, a1, by omega, rfl⟩) ?_ el', .inr ⟨by simp, rfl, by omega⟩, e2⟩
        rcases eh with ⟨b, _, c⟩ | ⟨k', z', _, b, c, d, e⟩
        · rcases hmh with hq | hq
          · cases hq
          · exact absurd b hq
        · simp at d
          exact .inr ⟨k', z', b, c, by omega, e⟩
    clear em eh el
    cases hx with
    | snil =>
      have h0 : isUnk 0 = false := isUnk_small (by omega)
      rw [h0] at htop
      have htop : top = 0 := htop.symm
      subst htop
      obtain ⟨mr, hrun, hm', hN'⟩ := key 0 (by omega)
      have hmr : mr = 0 ∧ m = 0 := by rcases hm' with ⟨_, a, b⟩ | ⟨_, a, b⟩ <;> omega
      obtain ⟨rfl, rfl⟩ := hmr
      have hN0 : hN = 0 := by
        rcases hN' with ⟨a, _⟩ | a
        · exact a
        · cases mx <;> simp at a <;> exact a
      subst hN0
      have : l = 0 := by omega
      subst this
      simp only [h0, cond_false]
      exact Good.pure_ h (by rw [run_sliceAt hu hi hrun]; simp) .snil
    | sl hL h1 h2 h3 =>
      rename_i v o cr L
      rcases h3 with hce | ⟨es, hes, rfl, hfit⟩
      · subst hce
        have h0 : isUnk cap = false := isUnk_small h2
        rw [h0] at htop
        have htop : top = cap := htop.symm
        subst htop
        obtain ⟨mr, hrun, hm', hN'⟩ := key top (Nat.le_refl _)
        have hmr : mr = m ∧ m ≤ top := by rcases hm' with ⟨_, a, b⟩ | ⟨_, a, b⟩ <;> omega
        obtain ⟨rfl, hmc⟩ := hmr
        have hu' : isUnk mr = false := isUnk_small (by omega)
        have hNm : hN ≤ mr := by
          rcases hm' with ⟨a, b, c⟩ | ⟨a, b, c⟩
          · subst a
            rcases hN' with ⟨q, _⟩ | q
            · omega
            · simp at q; omega
          · cases mx with
            | none => exact absurd rfl a
            | some _ => rcases hN' with ⟨_, q⟩ | q
                        · cases q
                        · simpa using q
        simp only [hu', cond_false]
        refine Good.pure_ h (by rw [run_sliceAt hu hi hrun]) ?_
        by_cases hml : mr = l
        · rw [if_pos hml, if_pos hml]
          exact VR.sl hL (by omega) (by omega) (.inl rfl)
        · rw [if_neg hml, if_neg hml]
          simp only [Option.map_some, add_none]
          have := VR.sl (ρ := ρ) (v := v) (o := o + l * i.size) (len := hN - l) (cv := mr - l) (cr := mr - l) hL (by omega) (by omega) (.inl rfl)
          rwa [← Nat.add_assoc] at this
      · have h0 : isUnk (unk + es) = true := isUnk_iff.2 (by unfold unk; omega)
        rw [h0] at htop
        have htop : top = len := htop.symm
        subst htop
        obtain ⟨mr, hrun, hm', hN'⟩ := key cr h1
        rcases hm' with ⟨hmn, rfl, rfl⟩ | ⟨hmn, rfl, hmc⟩
        · have hNl : hN ≤ top := by
            rcases hN' with ⟨q, _⟩ | q
            · omega
            · subst hmn; simpa using q
          simp only [h0, cond_true]
          by_cases hq : unk + es = unk + i.size ∧ 0 < i.size
          · rw [if_pos hq]
            have hes' : es = i.size := by omega
            subst hes'
            refine Good.pure_ h (by rw [run_sliceAt hu hi hrun]) ?_
            by_cases hml : mr = l
            · rw [if_pos hml, show hN - l = 0 by omega, show mr - l = 0 by omega]
              exact VR.sl0 hL (.inr h0)
            · rw [if_neg hml]
              simp only [Option.map_some, add_none]
              have := VR.sl (ρ := ρ) (v := v) (o := o + l * i.size) (len := hN - l) (cv := unk + i.size) (cr := mr - l) hL (by omega) (by omega) (.inr ⟨i.size, hes, rfl, by
                have e : l * i.size + (mr - l) * i.size = mr * i.size := by rw [← Nat.add_mul]; congr 1; omega
                omega⟩)
              rwa [← Nat.add_assoc] at this
          · rw [if_neg hq]; trivial
        · have hu' : isUnk mr = false := isUnk_small (by omega)
          simp only [hu', cond_false]
          have hNm : hN ≤ mr := by
            cases mx with
            | none => exact absurd rfl hmn
            | some _ => rcases hN' with ⟨_, q⟩ | q
                        · cases q
                        · simpa using q
          refine Good.pure_ h (by rw [run_sliceAt hu hi hrun]) ?_
          by_cases hml : mr = l
          · rw [if_pos hml, if_pos hml]
            exact VR.sl hL (by omega) (by omega) (.inl rfl)
          · rw [if_neg hml, if_neg hml]
            simp only [Option.map_some, add_none]
            have := VR.sl (ρ := ρ) (v := v) (o := o + l * i.size) (len := hN - l) (cv := mr - l) (cr := mr - l) hL (by omega) (by omega) (.inl rfl)
            rwa [← Nat.add_assoc] at this
    | @sl0 b o _ a' L hL hcv =>
      have htop : top = 0 := by rcases hcv with rfl | hc' <;> simp [*] at htop <;> exact htop.symm
      subst htop
      obtain ⟨mr, hrun, hm', hN'⟩ := key 0 (Nat.le_refl _)
      have hmr : mr = 0 := by rcases hm' with ⟨_, a, b⟩ | ⟨_, a, b⟩ <;> omega
      subst hmr
      have hN0 : hN = 0 := by
        rcases hN' with ⟨q, _⟩ | q
        · exact q
        · rcases hm' with ⟨q2, _, _⟩ | ⟨q2, q3, _⟩
          · subst q2; simpa using q
          · cases mx with
            | none => exact absurd rfl q2
            | some _ => simp at q; omega
      subst hN0
      have : l = 0 := by omega
      subst this
      have hreal : (Instr.sliceAt t (.slice (some a') 0 0) lo' hi2 mx').run P w = .ok (.slice (some a') 0 0) w := by rw [run_sliceAt hu hi hrun]; simp
      have hm2 : m = 0 ∨ (m = cap ∧ isUnk cap = true) := by
        rcases hm' with ⟨_, _, b⟩ | ⟨_, b, _⟩
        · rcases hcv with rfl | hc'
          · exact .inl b
          · exact .inr ⟨b, hc'⟩
        · exact .inl b.symm
      rcases hm2 with rfl | ⟨rfl, hc'⟩
      · have h0 : isUnk 0 = false := isUnk_small (by omega)
        simp only [h0, cond_false, if_true]
        exact Good.pure_ h hreal (.sl0 hL (.inl rfl))
      · simp only [hc', cond_true]
        by_cases hq : m = unk + i.size ∧ 0 < i.size
        · rw [if_pos hq]; exact Good.pure_ h hreal (.sl0 (o := o + 0 * i.size) hL (.inr hc'))
        · rw [if_neg hq]; trivial
  · trivial
theorem good_slArr (h : Sim P w0 B ρ V w) {t e : TypeId} {n : Nat} (hu : P.underlying t = some (.array n e)) {i : TypeInfo} (hi : P.info? e = some i) {x r : Value} (hx : VR ρ x r)
    {lo lo' hi1 hi2 mx mx' : Option Value} (hlo : VO ρ lo lo') (hhi : VO ρ hi1 hi2) (hmx : VO ρ mx mx') : Good P w0 B ex ρ V w (Instr.sliceAt t r lo' hi2 mx') (slArr i.size n x lo hi1 mx V) := by
  unfold slArr
  cases hc' : ((mx.isSome && hi1.isNone) || !Nat.ble n 9223372036854775807) with
  | true => trivial
  | false =>
  simp only [cond_false]
  have hc : (mx.isSome && hi1.isNone) = false := (Bool.or_eq_false_iff.1 hc').1
  have hn : n ≤ 9223372036854775807 := by have := (Bool.or_eq_false_iff.1 hc').2; simpa using this
  split
  · rename_i b o
    cases hx with
    | ptr hL =>
    rename_i L
    cases hm : bnd mx n n with
    | none => trivial
    | some m =>
    simp only
    cases hh : bnd hi1 n m with
    | none => trivial
    | some hN =>
    simp only
    cases hl : bnd lo 0 hN with
    | none => trivial
    | some l =>
    simp only
    have em := bnd_run hmx hm
    have eh := bnd_run hhi hh
    have el := bnd_run hlo hl
    have el' : (lo' = none ∧ l = 0) ∨ ∃ k z, lo' = some (.int k z) ∧ 0 ≤ z ∧ z ≤ (hN : Int) ∧ l = z.toNat := by
      rcases el with ⟨_, a, b⟩ | ⟨k, z, _, a, b, c, d⟩
      · exact .inl ⟨a, b⟩
      · exact .inr ⟨k, z, a, b, c, d⟩
    have hlh : l ≤ hN := bnd_le el'
    have hmn : m ≤ n := by rcases em with ⟨_, _, rfl⟩ | ⟨k, z, _, _, a, b, rfl⟩ <;> omega
    have hmh : mx = none ∨ hi1 ≠ none := by
      cases mx with
      | none => exact .inl rfl
      | some _ => cases hi1 with
        | none => simp at hc
        | some _ => exact .inr (by simp)
    have hNm : hN ≤ m := by
      rcases eh with ⟨q, _, c⟩ | ⟨k, z, _, _, c, d, e⟩
      · rcases hmh with rfl | hq
        · rcases em with ⟨_, _, e2⟩ | ⟨k, z, e2, _⟩
          · omega
          · cases e2
        · exact absurd q hq
      · omega
    have hrun : (Instr.sliceBounds false n n lo' hi2 mx').run P w = .ok (l, hN, m) w := by
      refine run_bounds ?_ ?_ el'
      · rcases em with ⟨_, a, b⟩ | ⟨k, z, _, a, b, c, d⟩
        · exact .inl ⟨a, b⟩
        · exact .inr ⟨k, z, a, b, c, d⟩
      · rcases eh with ⟨q, a, b⟩ | ⟨k, z, _, a, b, c, d⟩
        · rcases hmh with rfl | hq
          · refine .inl ⟨a, ?_, b⟩
            cases mx' with
            | none => rfl
            | some _ => exact hmx.elim
          · exact absurd q hq
        · exact .inr ⟨k, z, a, b, c, d⟩
    have hreal : (Instr.sliceAt t (.pointer (some ⟨L.b, L.s + o, none⟩)) lo' hi2 mx').run P w = .ok (.slice (some (if m = l then ⟨L.b, L.s + o, none⟩ else (⟨L.b, L.s + o, none⟩ : Addr).add (l * i.size))) (hN - l) (m - l)) w := by
      simp [Instr.sliceAt, run_underlying hu, Instr.sureAddr, hrun, run_size hi]
    refine Good.pure_ h hreal ?_
    by_cases hml : m = l
    · rw [if_pos hml, if_pos hml]
      exact VR.sl hL (by omega) (by omega) (.inl rfl)
    · rw [if_neg hml, if_neg hml, add_none]
      have := VR.sl (ρ := ρ) (v := b) (o := o + l * i.size) (len := hN - l) (cv := m - l) (cr := m - l) hL (by omega) (by omega) (.inl rfl)
      rwa [← Nat.add_assoc] at this
  · trivial
theorem good_slStr (h : Sim P w0 B ρ V w) {t : TypeId} (hu : P.underlying t = some .string) {x r : Value} (hx : VR ρ x r)
    {lo lo' hi1 hi2 : Option Value} (hlo : VO ρ lo lo') (hhi : VO ρ hi1 hi2) : Good P w0 B ex ρ V w (Instr.sliceAt t r lo' hi2 none) (slStr x lo hi1 V) := by
  unfold slStr
  split
  · rename_i s
    cases hx
    cases hh : bnd hi1 s.size s.size with
    | none => trivial
    | some hN =>
    simp only
    cases hl : bnd lo 0 hN with
    | none => trivial
    | some l =>
    simp only
    have eh := bnd_run hhi hh
    have el := bnd_run hlo hl
    have hrun : (Instr.sliceBounds false s.size s.size lo' hi2 none).run P w = .ok (l, hN, s.size) w := by
      refine run_bounds (.inl ⟨rfl, rfl⟩) ?_ ?_
      · rcases eh with ⟨q, a, b⟩ | ⟨k, z, _, a, b, c, d⟩
        · exact .inl ⟨a, rfl, b⟩
        · exact .inr ⟨k, z, a, b, c, d⟩
      · rcases el with ⟨_, a, b⟩ | ⟨k, z, _, a, b, c, d⟩
        · exact .inl ⟨a, b⟩
        · exact .inr ⟨k, z, a, b, c, d⟩
    refine Good.pure_ h ?_ (.string _)
    simp [Instr.sliceAt, Instr.slice, run_underlying hu, hrun]
  · trivial
end
end Go.Vm
end
section
/- Each operation of the virtual machine against the model's own: those that look into memory, write it, make it. -/
set_option linter.unusedVariables false
set_option linter.unusedSimpArgs false
namespace Go.Vm
open Go Go.RowKit

theorem splice_length {cs vs : List Value} {o : Nat} (h : o + vs.length ≤ cs.length) : (splice cs o vs).length = cs.length := by
  simp [splice]; omega
theorem splice_get {cs vs : List Value} {o : Nat} (h : o + vs.length ≤ cs.length) (j : Nat) :
    (splice cs o vs)[j]? = if o ≤ j ∧ j < o + vs.length then vs[j - o]? else cs[j]? := by
  have hl : (cs.take o).length = o := by simp; omega
  unfold splice
  by_cases h1 : j < o
  · rw [if_neg (by omega), List.append_assoc, List.getElem?_append_left (by omega)]
    simp [h1]
  · by_cases h2 : j < o + vs.length
    · rw [if_pos ⟨by omega, h2⟩, List.append_assoc, List.getElem?_append_right (by omega), hl, List.getElem?_append_left (by omega)]
    · rw [if_neg (by omega), List.getElem?_append_right (by simp; omega)]
      simp only [List.length_append, hl, List.getElem?_drop]
      congr 1
      omega
theorem set_splice {cs : List Value} {o : Nat} {v : Value} (h : o < cs.length) : cs.set o v = splice cs o [v] := by
  unfold splice
  rw [List.set_eq_take_append_cons_drop, if_pos h]
  simp

section
variable {P : Program} {w0 : World} {B : Nat} {ex : Nat → Prop} {ρ : Ren} {V : VS} {w : World} {T : TT}

/-! loads -/
theorem good_ld1 (h : Sim P w0 B ρ V w) {t : TypeId} {d : TypeDesc} (hu : P.underlying t = some d) (ha : (tkOf d).isAgg = false) {x r : Value} (hx : VR ρ x r) :
    Good P w0 B ex ρ V w (Instr.loadAt t r) (ld1 x V) := by
  unfold ld1
  split
  · rename_i b o
    cases hx with
    | ptr hL =>
    split
    · rename_i own cs ty hm
      split
      · rename_i v hv
        obtain ⟨q, hq, hvr⟩ := h.read hL hm hv
        refine Good.pure_ h ?_ hvr
        simp [Instr.loadAt, Instr.sureAddr, loadVar, run_isAgg hu, ha, hq]
      · trivial
    · trivial
  · trivial
theorem good_ldN (h : Sim P w0 B ρ V w) {t : TypeId} {d : TypeDesc} (hu : P.underlying t = some d) (ha : (tkOf d).isAgg = true) {i : TypeInfo} (hi : P.info? t = some i) {x r : Value} (hx : VR ρ x r) :
    Good P w0 B ex ρ V w (Instr.loadAt t r) (ldN i.size x V) := by
  unfold ldN
  split
  · rename_i b o
    cases hx with
    | ptr hL =>
    split
    · rename_i own cs ty hm
      split
      · rename_i hle
        obtain ⟨rs, hl, hlr, hc⟩ := h.reads hL hm o i.size hle
        refine Good.pure_ h ?_ hlr.agg
        have := run_loadCells (P := P) (w := w) rs hc
        rw [hl] at this
        simp [Instr.loadAt, Instr.sureAddr, loadVar, run_isAgg hu, ha, run_size hi, this]
      · trivial
    · trivial
  · trivial

/-! stores -/
theorem Sim.write (h : Sim P w0 B ρ V w) {b : Nat} {L : Loc} {cs : List Value} {ty : TypeId} (hL : ρ b = some L) (hm : V.mem b = some (.cells true cs ty)) (o : Nat) {vs rs : List Value} (hlr : LR ρ vs rs)
    (hfit : o + vs.length ≤ cs.length) (h1 : ∀ u ∈ rs, u.oneCell' = true) :
    ∃ w', (storeCells ⟨L.b, L.s + o, none⟩ rs).run P w = .ok () w' ∧ Sim P w0 B ρ (V.set b (.cells true (splice cs o vs) ty)) w' := by
  obtain ⟨cs', ty', lo, hi, e1, e2, e3, e4, e5⟩ := h.obj b L _ hL hm
  have hlen := hlr.length
  have hrun := run_storeCells (P := P) (b := L.b) (s := L.s + o) rs 0 w cs' e1 e3 (by omega) h1
  simp only [Nat.add_zero] at hrun
  refine ⟨_, hrun, h.turn hL hm rfl (Turns.setO ..) ?_ rfl⟩
  have hfit' : L.s + o + rs.length ≤ cs'.toList.length := by simp; omega
  refine ⟨_, ty', lo, hi, setO_same e1, ?_, ?_, ?_, ?_⟩
  · simp [splice_length hfit', e2]
  · simpa [splice_length hfit'] using e3
  · rw [splice_length (by omega)]; exact e4
  · intro j v hv
    rw [splice_get (by omega)] at hv
    simp only [List.getElem?_toArray]
    rw [splice_get hfit']
    by_cases hj : o ≤ j ∧ j < o + vs.length
    · rw [if_pos hj] at hv
      rw [if_pos (by omega)]
      obtain ⟨r, hr, hq⟩ := hlr.get _ _ hv
      exact ⟨r, by rw [← hr]; congr 1; omega, hq⟩
    · rw [if_neg hj] at hv
      rw [if_neg (by omega)]
      obtain ⟨r, hr, hq⟩ := e5 j v hv
      exact ⟨r, by simpa using hr, hq⟩
theorem good_st1 (h : Sim P w0 B ρ V w) {t : TypeId} {i : TypeInfo} (hi : P.info? t = some i) (hs : i.size = 1) {x r y q : Value} (hx : VR ρ x r) (hy : VR ρ y q) :
    GoodU P w0 B ex ρ V w (Instr.storeAt t r q) (st1 x y V) := by
  unfold st1
  split
  · rename_i b o
    cases hx with
    | ptr hL =>
    split
    · rename_i cs ty hm
      split
      · rename_i hc
        obtain ⟨w', hrun, hsim⟩ := h.write hL hm o (vs := [y]) (rs := [q]) (.cons hy .nil) (by simp; omega) (fun u hu => by simp at hu; subst hu; exact hy.one hc.2)
        rw [← set_splice hc.1] at hsim
        have hcells : q.cells = #[q] := by
          have := hy.one hc.2
          cases q <;> first | rfl | (simp [Value.oneCell'] at this)
        refine ⟨rfl, w', ρ, ?_, hsim, turn_ext hL⟩
        simp [Instr.storeAt, Instr.sureAddr, storeVar, run_size hi, hs, hcells, hrun]
      · trivial
    · trivial
  · trivial
theorem good_stN (h : Sim P w0 B ρ V w) {t : TypeId} {i : TypeInfo} (hi : P.info? t = some i) {x r y q : Value} (hx : VR ρ x r) (hy : VR ρ y q) :
    GoodU P w0 B ex ρ V w (Instr.storeAt t r q) (stN i.size x y V) := by
  unfold stN
  split
  · rename_i b o vs
    cases hx with
    | ptr hL =>
    cases hy with
    | agg hc hcs =>
    rename_i cs'
    split
    · rename_i cs ty hm
      split
      · rename_i hq
        have hlr := LR.of_arr hc hcs
        obtain ⟨w', hrun, hsim⟩ := h.write hL hm o hlr (by omega) (hlr.ones hq.2.2)
        refine ⟨rfl, w', ρ, ?_, hsim, turn_ext hL⟩
        have hsz : cs'.size = i.size := by rw [← hc]; simpa using hq.1
        simp [Instr.storeAt, Instr.sureAddr, storeVar, run_size hi, Value.cells, hsz, hrun]
      · trivial
    · trivial
  · trivial

/-! new blocks -/
theorem Sim.newRow (h : Sim P w0 B ρ V w) {id : Nat} (hid : id < V.next) (hn : ρ id = none) {cs rs rest : List Value} (hlr : LR ρ cs rs) (ty ty' : TypeId) {w' : World} {lo hi : Nat} (ht : Turns (fun _ => False) w w')
    (hb : w'.heap[w.heap.size]? = some (.cells (rs ++ rest).toArray ty' (lo, hi))) (hf : ∀ off, off < (rs ++ rest).length → ¬ (lo ≤ off ∧ off < hi)) :
    Sim P w0 B (ρ.put id ⟨w.heap.size, 0, (rs ++ rest).length⟩) (V.set id (.cells true cs ty)) w' := by
  refine h.make hid hn ht (Nat.le_refl _) (Array.getElem?_eq_some_iff.1 hb).1 ?_ rfl
  refine ⟨_, ty', lo, hi, hb, by simp, by simpa using hf, by rw [hlr.length]; simp, fun j v hv => ?_⟩
  obtain ⟨r, hr, hq⟩ := hlr.get j v hv
  have hj : j < rs.length := (List.getElem?_eq_some_iff.1 hr).1
  refine ⟨r, ?_, hq.mono (Ren.put_grows _ hn)⟩
  simp only [Nat.zero_add, List.getElem?_toArray]
  rw [List.getElem?_append_left hj]
  exact hr
theorem alloc_new (w : World) (o : Obj) : (w.alloc o).heap[w.heap.size]? = some o := by
  show (w.heap.push o)[w.heap.size]? = some o
  simp
theorem Sim.newPlain (h : Sim P w0 B ρ V w) {id : Nat} (hid : id < V.next) (hn : ρ id = none) {cs : List Value} {rs : Array Value} (hlr : LR ρ cs rs.toList) (ty ty' : TypeId) :
    Sim P w0 B (ρ.put id ⟨w.heap.size, 0, rs.size⟩) (V.set id (.cells true cs ty)) (w.alloc (.cells rs ty')) := by
  have := h.newRow hid hn (rest := []) hlr ty ty' (w' := w.alloc (.cells rs ty')) (lo := 0) (hi := 0) (Turns.alloc ..) (by rw [alloc_new]; simp) (fun off _ => by omega)
  simpa using this
theorem good_newCells (h : Sim P w0 B ρ V w) {id : Nat} (hid : id < V.next) (hn : ρ id = none) {s : Sem Value} {cs : List Value} {rs : Array Value} (hlr : LR ρ cs rs.toList) (t : TypeId)
    (hs : s.run P w = .ok (.pointer (some ⟨w.heap.size, 0, none⟩)) (w.alloc (.cells rs t))) : Good P w0 B (· = id) ρ V w s (newCells id cs t V) := by
  refine ⟨_, _, ρ.put id ⟨w.heap.size, 0, rs.size⟩, hs, ?_, h.newPlain hid hn hlr t t, make_ext hn⟩
  have := VR.ptr (ρ := ρ.put id ⟨w.heap.size, 0, rs.size⟩) (v := id) (o := 0) (Ren.put_same ..)
  simpa using this
theorem good_alloc (h : Sim P w0 B ρ V w) {id : Nat} (hid : id < V.next) (hn : ρ id = none) {t : TypeId} {i : TypeInfo} {z : Value} (hi : P.info? t = some i) (hz : i.zero = some z) {cs : List Value} (hc : z.cells.toList = cs) (hf : cs.all flat = true) :
    Good P w0 B (· = id) ρ V w (Instr.alloc t true (.tuple #[])) (newCells id cs t V) := by
  subst hc
  refine good_newCells h hid hn (flats_lr hf) t ?_
  simp [Instr.alloc, run_zero hi hz, newVar, newRow]
theorem good_box (h : Sim P w0 B ρ V w) {id : Nat} (hid : id < V.next) (hn : ρ id = none) {t : TypeId} {x r : Value} (hx : VR ρ x r) :
    Good P w0 B (· = id) ρ V w (Instr.box t r) (newCells id x.cells.toList t V) := by
  refine good_newCells h hid hn hx.cells t ?_
  simp [Instr.box, newVar, newRow]

/-! rows of parts -/
inductive PR (ρ : Ren) (place : Nat → Option (Nat × Nat)) : List (Nat × Nat × Value) → List (Nat × Value) → Prop where
  | nil : PR ρ place [] []
  | cons {i off size : Nat} {v r : Value} {a : List (Nat × Nat × Value)} {b : List (Nat × Value)} (hp : place i = some (off, size)) (hv : VR ρ v r) (t : PR ρ place a b) : PR ρ place ((off, size, v) :: a) ((i, r) :: b)
theorem foldl_cells : ∀ (vs : List Value) (k : Nat) (off : Nat) (cs : Array Value), off + k + vs.length ≤ cs.size →
    ((vs.zipIdx k).foldl (fun (a : Array Value) (x : Value × Nat) => a.setIfInBounds (off + x.2) x.1) cs).toList = splice cs.toList (off + k) vs
  | [], k, off, cs, _ => by simp [splice]
  | v :: vs, k, off, cs, h => by
    have hk : off + k < cs.size := by simp at h; omega
    simp only [List.zipIdx_cons, List.foldl_cons]
    rw [foldl_cells vs (k + 1) off _ (by simp at h ⊢; omega)]
    rw [show (cs.setIfInBounds (off + k) v).toList = cs.toList.set (off + k) v by simp, show off + (k + 1) = off + k + 1 by omega, splice_cons _ _ _ _ (by simpa using hk)]
theorem LR.splice {ρ : Ren} {a b c d : List Value} (h : LR ρ a b) (k : LR ρ c d) (o : Nat) : LR ρ (Vm.splice a o c) (Vm.splice b o d) := by
  unfold Vm.splice
  rw [k.length]
  exact ((h.take o).append k).append (h.drop _)
theorem fill_run {place : Nat → Option (Nat × Nat)} {a : List (Nat × Nat × Value)} {b : List (Nat × Value)} (hp : PR ρ place a b) : ∀ {cs cs1 : List Value} {rs : Array Value}, LR ρ cs rs.toList → fillL cs a = some cs1 →
    ∃ rs1, Instr.fill place rs b = some rs1 ∧ LR ρ cs1 rs1.toList := by
  induction hp with
  | nil => intro cs cs1 rs hlr hf; simp [fillL] at hf; subst hf; exact ⟨rs, rfl, hlr⟩
  | @cons i off size v r a b hp hv _ ih =>
    intro cs cs1 rs hlr hf
    unfold fillL at hf
    split at hf
    · rename_i hc
      have hvc := hv.cells
      have hsz : r.cells.size = size := by rw [← hc.1, hvc.length]; simp
      have hcs : cs.length = rs.size := by have := hlr.length; simpa using this
      have hle : ¬ (off + r.cells.size > rs.size) := by omega
      have hfold : (r.cells.zipIdx.foldl (fun cs (x : Value × Nat) => cs.setIfInBounds (off + x.2) x.1) rs).toList = Vm.splice rs.toList off r.cells.toList := by
        rw [← Array.foldl_toList, Array.toList_zipIdx]
        have := foldl_cells r.cells.toList 0 off rs (by simp; omega)
        simpa using this
      obtain ⟨rs1, h1, h2⟩ := ih (rs := r.cells.zipIdx.foldl (fun cs (x : Value × Nat) => cs.setIfInBounds (off + x.2) x.1) rs) (by rw [hfold]; exact hlr.splice hvc off) hf
      refine ⟨rs1, ?_, h2⟩
      unfold Instr.fill
      simp only [hp]
      rw [if_neg (by simp [hsz]; omega)]
      exact h1
    · cases hf
theorem good_mkAgg (h : Sim P w0 B ρ V w) {s : Sem Value} {place : Nat → Option (Nat × Nat)} {z : Value} {zs : List Value} {a : List (Nat × Nat × Value)} {b : List (Nat × Value)} (hp : PR ρ place a b) (hz : z.cells.toList = zs) (hf : zs.all flat = true)
    (hs : ∀ rs1, Instr.fill place z.cells b = some rs1 → s.run P w = .ok (.agg rs1) w) : Good P w0 B ex ρ V w s (mkAgg zs a V) := by
  unfold mkAgg
  subst hz
  cases hfl : fillL z.cells.toList a with
  | none => trivial
  | some cs =>
    obtain ⟨rs1, h1, h2⟩ := fill_run hp (flats_lr (ρ := ρ) hf) hfl
    refine Good.pure_ h (hs rs1 h1) ?_
    have := h2.agg
    simpa using this
theorem zerosOf_length (z : List Value) (n : Nat) : (zerosOf z n).length = n * z.length := by simp [zerosOf, List.sum_replicate_nat]
theorem zerosOf_get (z : List Value) (hz : 0 < z.length) : ∀ (n i : Nat), i < n * z.length → (zerosOf z n)[i]? = z[i % z.length]?
  | 0, i, h => by simp at h
  | n + 1, i, h => by
    have : zerosOf z (n + 1) = z ++ zerosOf z n := by simp [zerosOf, List.replicate_succ]
    rw [this]
    rw [Nat.succ_mul] at h
    by_cases hi : i < z.length
    · rw [List.getElem?_append_left hi, Nat.mod_eq_of_lt hi]
    · rw [List.getElem?_append_right (by omega), zerosOf_get z hz n _ (by omega)]
      congr 1
      rw [Nat.mod_eq_sub_mod (a := i) (by omega)]
theorem made_zeros (z : Array Value) (n : Nat) (hz : n * z.size ≠ 0) : ((Array.range (n * z.size)).map (z[· % z.size]!)).toList = zerosOf z.toList n := by
  have hpos : 0 < z.size := by
    rcases Nat.eq_zero_or_pos z.size with h | h
    · rw [h] at hz; simp at hz
    · exact h
  apply List.ext_getElem?
  intro i
  by_cases hi : i < n * z.size
  · rw [zerosOf_get z.toList (by simpa using hpos) n i (by simpa using hi)]
    have hm : i % z.size < z.size := Nat.mod_lt _ hpos
    simp [hi, hm]
  · rw [List.getElem?_eq_none (by simp; omega), List.getElem?_eq_none (by rw [zerosOf_length]; simp; omega)]
theorem zerosOf_flat {z : List Value} (h : z.all flat = true) (n : Nat) : (zerosOf z n).all flat = true := by
  simp only [zerosOf, List.all_eq_true, List.mem_flatten, List.mem_replicate] at *
  rintro x ⟨l, ⟨_, rfl⟩, hx⟩
  exact h x hx
theorem zero_mul_toList {z : Array Value} {n : Nat} (h : n * z.size = 0) : zerosOf z.toList n = [] := by
  apply List.eq_nil_of_length_eq_zero
  rw [zerosOf_length]
  simpa using h
theorem good_mkLitSl (h : Sim P w0 B ρ V w) {id : Nat} (hid : id < V.next) (hn : ρ id = none) {t e : TypeId} (hu : P.underlying t = some (.slice e)) {i : TypeInfo} {z : Value} (hi : P.info? e = some i) (hz : i.zero = some z)
    {zs : List Value} (hc : z.cells.toList = zs) (hf : zs.all flat = true) (hsz : zs.length = i.size) {len : Nat} {a : List (Nat × Nat × Value)} {b : List (Nat × Value)}
    (hp : PR ρ (fun n => some (n * i.size, i.size)) a b) : Good P w0 B (· = id) ρ V w (Instr.buildSlice t len b.toArray) (mkLitSl id e zs len a V) := by
  unfold mkLitSl
  cases hq : (Nat.ble (len * zs.length) 16777216 && Nat.ble len 9223372036854775807) with
  | false => trivial
  | true =>
  simp only [cond_true]
  have hlen : len * i.size ≤ 16777216 := by rw [← hsz]; have := (Bool.and_eq_true_iff.1 hq).1; simpa using this
  have hlen' : len ≤ 9223372036854775807 := by have := (Bool.and_eq_true_iff.1 hq).2; simpa using this
  clear hq
  subst hc
  cases hfl : fillL (zerosOf z.cells.toList len) a with
  | none => trivial
  | some cs =>
    have hsz' : z.cells.size = i.size := by simpa using hsz
    have hrow : ∃ rw0 : Array Value, rw0.toList = zerosOf z.cells.toList len ∧ ((if len * i.size = 0 then pure #[] else do pure (← zeroValue e).cells : Sem (Array Value)) >>= fun zero => pure ((Array.range (len * i.size)).map (zero[· % zero.size]!))).run P w = .ok rw0 w := by
      by_cases h0 : len * i.size = 0
      · refine ⟨#[], ?_, by simp [h0]⟩
        rw [zero_mul_toList (by rw [hsz']; exact h0)]
      · refine ⟨(Array.range (len * i.size)).map (z.cells[· % z.cells.size]!), ?_, by simp [h0, run_zero hi hz]⟩
        have := made_zeros z.cells len (by rw [hsz']; exact h0)
        rwa [hsz'] at this ⊢
    obtain ⟨rw0, hr0, hrun0⟩ := hrow
    obtain ⟨rs1, h1, h2⟩ := fill_run (rs := rw0) hp (by rw [hr0]; exact flats_lr (zerosOf_flat hf len)) hfl
    have hreal : (Instr.buildSlice t len b.toArray).run P w = .ok (.slice (some ⟨w.heap.size, 0, none⟩) len len) (w.alloc (.cells rs1 e)) := by
      unfold Instr.buildSlice
      simp only [Sem.run_bind, run_underlying hu, Result.andThen_ok, run_size hi]
      rw [if_neg (by omega)]
      by_cases h0 : len * i.size = 0
      · simp [h0] at hrun0
        simp [h0, newRow]
        rw [hrun0] at *
        rw [h1]
        simp
      · simp [h0, run_zero hi hz] at hrun0
        simp [h0, run_zero hi hz]
        rw [hrun0]
        simp only [h1]
        simp [newRow]
    refine ⟨_, _, ρ.put id ⟨w.heap.size, 0, rs1.size⟩, hreal, ?_, h.newPlain hid hn h2 e e, make_ext hn⟩
    have := VR.sl (ρ := ρ.put id ⟨w.heap.size, 0, rs1.size⟩) (v := id) (o := 0) (len := len) (cv := len) (cr := len) (Ren.put_same ..) (Nat.le_refl _) hlen' (.inl rfl)
    simpa using this
end
end Go.Vm
end
section
/- Each operation of the virtual machine against the model's own: append, copy, conversions, numbers, maps. -/
set_option linter.unusedVariables false
set_option linter.unusedSimpArgs false
namespace Go.Vm
open Go Go.RowKit

section
variable {P : Program} {w0 : World} {B : Nat} {ex : Nat → Prop} {ρ : Ren} {V : VS} {w : World} {T : TT}

theorem good_mkSl (h : Sim P w0 B ρ V w) {id : Nat} (hid : id < V.next) (hn : ρ id = none) {t e : TypeId} (hu : P.underlying t = some (.slice e)) {i : TypeInfo} {z : Value} (hi : P.info? e = some i) (hz : i.zero = some z)
    {zs : List Value} (hc : z.cells.toList = zs) (hf : zs.all flat = true) (hsz : zs.length = i.size) {x r y q : Value} (hx : VR ρ x r) (hy : VR ρ y q) :
    Good P w0 B (· = id) ρ V w (Instr.makeSlice t r q) (mkSl id e zs i.bytes x y V) := by
  unfold mkSl
  subst hc
  split
  · rename_i k l k' c
    split
    · rename_i hq
      obtain ⟨h1, h2, h3, h4⟩ := hq
      cases hx; cases hy
      have hw1 : IntKind.i64.wrap c = c := by simp [IntKind.wrap, IntKind.bits, IntKind.signed]; omega
      have hw2 : IntKind.i64.wrap l = l := by simp [IntKind.wrap, IntKind.bits, IntKind.signed]; omega
      have hb : (i.bytes : Int) * c ≤ 140737488355328 := by
        have h3' : ((c.toNat * i.bytes : Nat) : Int) ≤ ((140737488355328 : Nat) : Int) := Int.ofNat_le.2 h3
        rw [Int.natCast_mul, Int.toNat_of_nonneg (by omega), Int.mul_comm] at h3'
        exact h3'
      have hsz' : z.cells.size = i.size := by simpa using hsz
      have hrow : ∃ rw0 : Array Value, rw0.toList = zerosOf z.cells.toList c.toNat ∧ (Instr.makeSlice t (.int k l) (.int k' c)).run P w = .ok (.slice (some ⟨w.heap.size, 0, none⟩) l.toNat c.toNat) (w.alloc (.cells rw0 e)) := by
        have hnot : ¬ (((c < 0 ∨ 281474976710656 < (i.bytes : Int) * c) ∨ l < 0) ∨ c < l) := by omega
        by_cases h0 : c.toNat * i.size = 0
        · refine ⟨#[], by rw [zero_mul_toList (by rw [hsz']; exact h0)], ?_⟩
          unfold Instr.makeSlice
          simp only [Sem.run_bind, run_underlying hu, Result.andThen_ok, asInt, asIntOf, Sem.run_pure, run_info hi, hw1, hw2]
          simp [hnot, run_size hi, h0, newRow]
          rw [show (Array.map (fun _ => (default : Value)) (Array.range 0)) = #[] from Array.ext' (by simp)]
        · refine ⟨(Array.range (c.toNat * i.size)).map (z.cells[· % z.cells.size]!), ?_, ?_⟩
          · have := made_zeros z.cells c.toNat (by rw [hsz']; exact h0)
            rwa [hsz'] at this ⊢
          · unfold Instr.makeSlice
            simp only [Sem.run_bind, run_underlying hu, Result.andThen_ok, asInt, asIntOf, Sem.run_pure, run_info hi, hw1, hw2]
            simp [hnot, run_size hi, h0, newRow, run_zero hi hz]
      obtain ⟨rw0, hr0, hrun⟩ := hrow
      refine ⟨_, _, ρ.put id ⟨w.heap.size, 0, rw0.size⟩, hrun, ?_, h.newPlain hid hn (by rw [hr0]; exact flats_lr (zerosOf_flat hf _)) e e, make_ext hn⟩
      have := VR.sl (ρ := ρ.put id ⟨w.heap.size, 0, rw0.size⟩) (v := id) (o := 0) (len := l.toNat) (cv := c.toNat) (cr := c.toNat) (Ren.put_same ..) (by omega) (by omega) (.inl rfl)
      simpa using this
    · trivial
  · trivial

/-! ### The first cells of a slice or a string -/
theorem byteCells_length (s : ByteArray) : (byteCells s).length = s.size := by simp [byteCells]
theorem byteCells_flat (s : ByteArray) : (byteCells s).all flat = true := by
  rw [List.all_eq_true]
  intro x hx
  unfold byteCells at hx
  obtain ⟨b, _, rfl⟩ := List.mem_map.1 hx
  rfl
theorem cells_run (h : Sim P w0 B ρ V w) {es : Nat} {x r : Value} (hx : VR ρ x r) {new : List Value} (hc : cellsOf es x V = some new) {m : Nat} (hm : m ≤ lenOfV x) :
    (Builtin.lenOf r).run P w = .ok (lenOfV x) w ∧ new.length = lenOfV x * es ∧
    ∃ rs, LR ρ (new.take (m * es)) rs ∧ ∀ W : World, W.heap = w.heap → (Builtin.firstCells es m r).run P W = .ok rs.toArray W := by
  unfold cellsOf at hc
  split at hc
  · rename_i n c
    cases hx
    cases hc
    have hm0 : m = 0 := by simpa [lenOfV] using hm
    subst hm0
    refine ⟨by simp [Builtin.lenOf, lenOfV], by simp [lenOfV], [], by simp; exact .nil, fun W hW => by simp [Builtin.firstCells]⟩
  · rename_i b o n c
    split at hc
    · rename_i h0
      cases hc
      have hme : m * es = 0 := by
        have : m * es ≤ n * es := Nat.mul_le_mul_right _ (by simpa [lenOfV] using hm)
        omega
      have hfirst : ∀ (a : Addr) (W : World), (Builtin.firstCells es m (.slice (some a) n 0)).run P W = .ok #[] W := fun a W => by simp [Builtin.firstCells, hme, loadCells, loadCellsFrom]
      cases hx with
      | sl hL h1 h2 h3 => exact ⟨by simp [Builtin.lenOf, lenOfV], by simp [lenOfV, h0], [], by simp; exact .nil, fun W _ => by simp [Builtin.firstCells, hme, loadCells, loadCellsFrom]⟩
      | sl0 _ _ => exact ⟨by simp [Builtin.lenOf, lenOfV], by simp [lenOfV], [], by simp; exact .nil, fun W _ => by simp [Builtin.firstCells, hme, loadCells, loadCellsFrom]⟩
    · rename_i h0
      split at hc
      · rename_i own cs ty hmem
        split at hc
        · rename_i hle
          cases hc
          cases hx with
          | sl hL h1 h2 h3 =>
            have hmn : m ≤ n := by simpa [lenOfV] using hm
            have hme : m * es ≤ n * es := Nat.mul_le_mul_right _ hmn
            obtain ⟨rs, hl, hlr, hcl⟩ := h.reads hL hmem o (m * es) (by omega)
            refine ⟨by simp [Builtin.lenOf, lenOfV], by simp [lenOfV]; omega, rs, ?_, fun W hW => ?_⟩
            · rw [List.take_take, Nat.min_eq_left hme]
              exact hlr
            · have := run_loadCells (P := P) (w := W) rs (fun j r hr => by have := hcl j r hr; simpa [World.cell?, hW] using this)
              rw [hl] at this
              simpa [Builtin.firstCells] using this
          | sl0 _ _ => simp at h0
        · cases hc
      · cases hc
  · rename_i s
    cases he : Nat.beq es 1 with
    | false => rw [he] at hc; cases hc
    | true =>
      rw [he] at hc
      cases hc
      have hes : es = 1 := Nat.eq_of_beq_eq_true he
      subst hes
      cases hx
      refine ⟨by simp [Builtin.lenOf, lenOfV], by simp [lenOfV, byteCells_length], (byteCells s).take m, ?_, fun W _ => ?_⟩
      · rw [Nat.mul_one]
        refine flats_lr ?_
        have := byteCells_flat s
        rw [List.all_eq_true] at *
        exact fun x hx => this x (List.mem_of_mem_take hx)
      · simp only [Builtin.firstCells, Sem.run_pure]
        congr 1
        apply Array.ext'
        have hms : m ≤ s.data.size := hm
        simp [byteCells, ByteArray.extract, ByteArray.copySlice, List.map_take]
  · cases hc

/-- append that must move: what the model does. -/
theorem run_append_moves {t u ty e : TypeId} {i : TypeInfo} {z : Value} (hu : P.underlying t = some (.slice e)) {d : TypeDesc} (hu2 : P.underlying u = some d) (hd : ∀ k, d ≠ .int k) (hi : P.info? e = some i) (hz : i.zero = some z)
    {base : Option Addr} {n c m : Nat} {x : Value} {old new : List Value} (hlen : (Builtin.lenOf x).run P w = .ok m w) (hnew : ∀ W : World, W.heap = w.heap → (Builtin.firstCells i.size m x).run P W = .ok new.toArray W)
    (hold : ∀ W : World, W.heap = w.heap → (Builtin.firstCells i.size n (.slice base n c)).run P W = .ok old.toArray W) (hc : c < n + m) (hmax : n + m ≤ 9223372036854775807) (hb : (n + m) * i.bytes ≤ 140737488355328) :
    (Builtin.append_ #[t, u] ty #[.slice base n c, x]).run P w = .ok (.slice (some ⟨w.heap.size, 0, none⟩) (n + m) (grownCap w (n + m) c e))
      (w.drew.alloc (.cells (old ++ new ++ (Builtin.zeroCells z.cells (grownCap w (n + m) c e - (n + m))).toList).toArray e)) := by
  have hmatch : (match d with | .int _ => true | _ => false) = false := by
    cases d <;> first | rfl | (rename_i k; exact absurd rfl (hd k))
  have hgrow := growslice_fits hc hb
  have hfit : ¬ (Builtin.nextslicecap (n + m) c * i.bytes > 2 ^ 48) := by omega
  have hlt : ¬ ((n + m : Nat) : Int) > IntKind.i64.max := by simp [IntKind.max, IntKind.signed, IntKind.bits]; omega
  have h1 := hold w.drew rfl
  have h2 := hnew w.drew rfl
  have hchoose : (choose (.appendCap (n + m) c e)).run P w = .ok (grownCap w (n + m) c e) w.drew := by
    simp [Question.forced, grownCap]
  have hds : (Sem.run P (underlying u) w) = .ok d w := run_underlying hu2 w
  unfold Builtin.append_
  simp only [List.getElem?_toArray, List.getElem?_cons_zero, List.getElem?_cons_succ, Sem.run_bind, run_underlying hu, Result.andThen_ok, run_size hi, hds, Sem.run_pure, hmatch, Bool.false_eq_true, if_false, hlen]
  rw [if_neg (by omega)]
  simp only [Sem.run_bind, run_info hi, Result.andThen_ok]
  rw [if_neg (by intro hh; exact hlt hh.1)]
  simp only [Sem.run_bind, run_info hi, Result.andThen_ok]
  rw [if_neg hfit]
  simp only [Sem.run_bind, hchoose, Result.andThen_ok, run_info hi, run_askRoom, h1, h2, Bool.not_false, if_true, run_zero hi hz, newRow, run_newObj, Sem.run_pure]
  simp only [World.alloc]
  congr 4
  apply Array.ext'
  simp

theorem good_app (h : Sim P w0 B ρ V w) {id : Nat} (hid : id < V.next) (hn : ρ id = none) {t u ty e : TypeId} (hu : P.underlying t = some (.slice e)) {d : TypeDesc} (hu2 : P.underlying u = some d) (hd : ∀ k, d ≠ .int k)
    {i : TypeInfo} {z : Value} (hi : P.info? e = some i) (hz : i.zero = some z) (hsz : z.cells.size = i.size) {s r x q : Value} (hs : VR ρ s r) (hx : VR ρ x q) :
    Good P w0 B (· = id) ρ V w (Builtin.append_ #[t, u] ty #[r, q]) (app id e i.size i.bytes s x V) := by
  unfold app
  split
  · rename_i base n c
    cases hcx : cellsOf i.size x V with
    | none => trivial
    | some new =>
    simp only
    have hcr := cells_run (P := P) h hx hcx (Nat.le_refl _)
    obtain ⟨hlen, hnl, rnew, hlrn, hrn⟩ := hcr
    generalize hm : lenOfV x = m at *
    have hmatch : (match d with | .int _ => true | _ => false) = false := by
      cases d <;> first | rfl | (rename_i k; exact absurd rfl (hd k))
    have hds : (Sem.run P (underlying u) w) = .ok d w := run_underlying hu2 w
    rw [← hnl, List.take_length] at hlrn
    by_cases hm0 : m = 0
    · rw [if_pos hm0]
      subst hm0
      have hr : ∃ a c', r = .slice a n c' ∧ n ≤ c' := by
        cases hs with
        | snil => exact ⟨_, _, rfl, Nat.le_refl _⟩
        | sl hL h1 h2 h3 => exact ⟨_, _, rfl, h1⟩
        | sl0 _ _ => exact ⟨_, _, rfl, Nat.le_refl _⟩
      obtain ⟨a, c', rfl, hle⟩ := hr
      have hr0 : rnew = [] := List.eq_nil_of_length_eq_zero (by rw [← hlrn.length, hnl]; simp)
      refine Good.pure_ h ?_ hs
      unfold Builtin.append_
      simp only [List.getElem?_toArray, List.getElem?_cons_zero, List.getElem?_cons_succ, Sem.run_bind, run_underlying hu, Result.andThen_ok, run_size hi, hds, Sem.run_pure, hmatch, Bool.false_eq_true, if_false, hlen]
      rw [if_pos (by omega)]
      have := hrn w rfl
      subst hr0
      cases a with
      | none => simp [this]
      | some ad => simp [this, storeCells]
    · rw [if_neg hm0]
      split
      · rename_i hq
        obtain ⟨hb, hmax, hes, hone⟩ := hq
        have hnew1 := hlrn.ones hone
        cases hcs : cellsOf i.size (.slice base n c) V with
        | none => trivial
        | some old =>
        simp only
        -- a new row
        have fresh : ∀ (c' : Nat) (a : Option Addr) (cap' : Nat), VR ρ (.slice base n c) (.slice a n cap') → cap' < n + m → r = .slice a n cap' →
            Good P w0 B (· = id) ρ V w (Builtin.append_ #[t, u] ty #[r, q]) (.ok (.slice (some ⟨id, 0, none⟩) (n + m) (unk + i.size)) (V.set id (.cells true (old ++ new) e))) := by
          intro _ a cap' hv hlt hr
          subst hr
          obtain ⟨_, hol, rold, hlro, hro⟩ := cells_run (P := P) h hv hcs (m := n) (by simp [lenOfV])
          have hol' : old.length = n * i.size := by simpa [lenOfV] using hol
          rw [← hol', List.take_length] at hlro
          have hrun := run_append_moves (w := w) (ty := ty) hu hu2 hd hi hz hlen hrn hro hlt hmax hb
          have hge := grownCap_ge w (n + m) cap' e
          have hle := grownCap_le_maxLen w (n + m) cap' e (by simpa [maxLen] using hmax)
          have hnewrow := h.newRow hid hn (hlro.append hlrn) e e (rest := (Builtin.zeroCells z.cells (grownCap w (n + m) cap' e - (n + m))).toList)
            (w' := w.drew.alloc (.cells (rold ++ rnew ++ (Builtin.zeroCells z.cells (grownCap w (n + m) cap' e - (n + m))).toList).toArray e)) (lo := 0) (hi := 0)
            (((Turns.refl (fun _ => False) w).drew.trans (Turns.alloc _ _)).mono (by simp)) (by
              have := alloc_new w.drew (.cells (rold ++ rnew ++ (Builtin.zeroCells z.cells (grownCap w (n + m) cap' e - (n + m))).toList).toArray e)
              simpa using this) (fun off _ => by omega)
          refine ⟨_, _, _, hrun, ?_, hnewrow, make_ext hn⟩
          have hN : (rold ++ rnew ++ (Builtin.zeroCells z.cells (grownCap w (n + m) cap' e - (n + m))).toList).length = grownCap w (n + m) cap' e * i.size := by
            have l1 : rold.length = n * i.size := by rw [← hlro.length, hol']
            have l2 : rnew.length = m * i.size := by rw [← hlrn.length, hnl]
            simp only [List.length_append, l1, l2, Array.length_toList, size_zeroCells, hsz, ← Nat.add_mul]
            congr 1
            omega
          have := VR.sl (ρ := ρ.put id ⟨w.heap.size, 0, (rold ++ rnew ++ (Builtin.zeroCells z.cells (grownCap w (n + m) cap' e - (n + m))).toList).length⟩) (v := id) (o := 0) (len := n + m) (cv := unk + i.size) (cr := grownCap w (n + m) cap' e)
            (Ren.put_same ..) hge (by simpa [maxLen] using hle) (.inr ⟨i.size, hes, rfl, by rw [hN]; simp⟩)
          simpa using this
        -- real append where there is room
        have room : ∀ (ad : Addr) (cap' : Nat) (w' : World), n + m ≤ cap' → r = .slice (some ad) n cap' → (storeCells (ad.add (n * i.size)) rnew).run P w = .ok () w' →
            (Builtin.append_ #[t, u] ty #[r, q]).run P w = .ok (.slice (some ad) (n + m) cap') w' := by
          intro ad cap' w' hle hr hst
          subst hr
          unfold Builtin.append_
          simp only [List.getElem?_toArray, List.getElem?_cons_zero, List.getElem?_cons_succ, Sem.run_bind, run_underlying hu, Result.andThen_ok, run_size hi, hds, Sem.run_pure, hmatch, Bool.false_eq_true, if_false, hlen]
          rw [if_pos hle]
          have := hrn w rfl
          simp [this, hst]
        split
        · -- nil
          cases hs with
          | snil => exact fresh 0 none 0 .snil (by omega) rfl
        · rename_i b o
          cases hcu : isUnk c with
          | true =>
            simp only [cond_true]
            split
            · rename_i hce
              subst hce
              split
              · rename_i cs ty' hmem
                cases hs with
                | sl hL h1 h2 h3 =>
                  rename_i cr L
                  rcases h3 with h3 | ⟨es, he0, he1, hfit⟩
                  · rw [h3] at hcu; rw [isUnk_small h2] at hcu; cases hcu
                  · have hese : es = i.size := by omega
                    subst hese
                    by_cases hroom : n + m ≤ cr
                    · -- in its place
                      obtain ⟨cs', tyr, lo, hi', e1, e2, e3, e4, e5⟩ := h.obj b L _ hL hmem
                      have hl2 : rnew.length = m * i.size := by rw [← hlrn.length, hnl]
                      have hsum : n * i.size + m * i.size ≤ cr * i.size := by rw [← Nat.add_mul]; exact Nat.mul_le_mul_right _ hroom
                      have hrun := run_storeCells (P := P) (b := L.b) (s := L.s + o + n * i.size) rnew 0 w cs' e1 e3 (by omega) hnew1
                      simp only [Nat.add_zero] at hrun
                      have hreal := room ⟨L.b, L.s + o, none⟩ cr _ hroom rfl (by rw [add_none]; exact hrun)
                      have hfit' : L.s + o + n * i.size + rnew.length ≤ cs'.toList.length := by simp; omega
                      obtain ⟨_, hol, rold, hlro, hro⟩ := cells_run (P := P) h (VR.sl hL h1 h2 (.inr ⟨i.size, he0, rfl, hfit⟩)) hcs (m := n) (by simp [lenOfV])
                      have hol' : old.length = n * i.size := by simpa [lenOfV] using hol
                      have hLo : o ≤ L.n := by omega
                      refine ⟨_, _, ρ.put id ⟨L.b, L.s + o, L.n - o⟩, hreal, ?_, h.pass hL hmem rfl hid hn (L' := ⟨L.b, L.s + o, L.n - o⟩) rfl (Turns.setO ..) ?_ rfl, ?_⟩
                      · have := VR.sl (ρ := ρ.put id ⟨L.b, L.s + o, L.n - o⟩) (v := id) (o := 0) (len := n + m) (cv := unk + i.size) (cr := cr) (Ren.put_same ..) hroom h2 (.inr ⟨i.size, hes, rfl, by simp; omega⟩)
                        simpa using this
                      · refine ⟨_, tyr, lo, hi', setO_same e1, by simp [splice_length hfit']; omega, by simpa [splice_length hfit'] using e3, ?_, ?_⟩
                        · simp [hol', hnl]; omega
                        · intro j v hv
                          simp only [List.getElem?_toArray]
                          rw [splice_get hfit']
                          rcases Nat.lt_or_ge j (n * i.size) with hj | hj
                          · rw [List.getElem?_append_left (by omega)] at hv
                            rw [if_neg (by simp; omega)]
                            -- an old cell
                            have hov : cs[o + j]? = some v := by
                              simp only [cellsOf, hmem] at hcs
                              rw [if_neg (by omega)] at hcs
                              split at hcs
                              · cases hcs
                                rw [List.getElem?_take, if_pos hj, List.getElem?_drop] at hv
                                exact hv
                              · cases hcs
                            obtain ⟨rr, hr, hq⟩ := e5 (o + j) v hov
                            exact ⟨rr, by rw [← hr]; simp [Nat.add_assoc], hq.mono (Ren.put_grows _ hn)⟩
                          · rw [List.getElem?_append_right (by omega), hol'] at hv
                            obtain ⟨rr, hr, hq⟩ := hlrn.get _ _ hv
                            have hj2 : j - n * i.size < rnew.length := (List.getElem?_eq_some_iff.1 hr).1
                            rw [if_pos (by simp; omega)]
                            refine ⟨rr, by rw [← hr]; congr 1; omega, hq.mono (Ren.put_grows _ hn)⟩
                      · exact ((turn_ext (ex := (· = id)) (o := .dead) hL).trans (make_ext (V := V.set b .dead) (o := .cells true (old ++ new) e) hn)).mono (fun i _ hh => by rcases hh with q | q <;> exact q)
                    · -- it moves
                      have hf := fresh 0 (some ⟨L.b, L.s + o, none⟩) cr (VR.sl hL h1 h2 (.inr ⟨i.size, he0, rfl, hfit⟩)) (by omega) rfl
                      obtain ⟨r', w', ρ', f1, f2, f3, f4⟩ := hf
                      have hbid : b ≠ id := fun q => by subst q; rw [hL] at hn; cases hn
                      have hL' := f4.keep _ _ hL
                      have hm' : (V.set id (.cells true (old ++ new) e)).mem b = some (.cells true cs ty') := by rw [VS.set_other _ hbid]; exact hmem
                      -- the old block counts as dead
                      have hcomm : (V.set b .dead).set id (.cells true (old ++ new) e) = (V.set id (.cells true (old ++ new) e)).set b .dead := VS.set_comm _ _ hbid
                      refine ⟨r', w', ρ', f1, f2, ?_, ?_⟩
                      · rw [hcomm]; exact f3.kill hL'
                      · rw [hcomm]
                        exact (f4.trans (turn_ext (ex := (· = id)) (o := .dead) hL')).mono (fun i _ hh => by rcases hh with q | q <;> exact q)
                | @sl0 _ _ _ _ K hb' hcv =>
                  have hf := fresh 0 _ 0 (VR.sl0 hb' (.inr hcu)) (by omega) rfl
                  obtain ⟨r', w', ρ', f1, f2, f3, f4⟩ := hf
                  have hbid : b ≠ id := fun q => by subst q; rw [hb'] at hn; cases hn
                  have hcomm : (V.set b .dead).set id (.cells true (old ++ new) e) = (V.set id (.cells true (old ++ new) e)).set b .dead := VS.set_comm _ _ hbid
                  have hL' := f4.keep _ _ hb'
                  refine ⟨r', w', ρ', f1, f2, ?_, ?_⟩
                  · rw [hcomm]; exact f3.kill hL'
                  · rw [hcomm]
                    exact (f4.trans (turn_ext (ex := (· = id)) (o := .dead) hL')).mono (fun i _ hh => by rcases hh with q | q <;> exact q)
              · trivial
            · trivial
          | false =>
            simp only [cond_false]
            split
            · rename_i hroom
              split
              · rename_i cs ty' hmem
                split
                · rename_i hfit
                  cases hs with
                  | sl hL h1 h2 h3 =>
                    rename_i cr L
                    rcases h3 with h3 | ⟨es, he0, he1, _⟩
                    · subst h3
                      obtain ⟨w', hrun, hsim⟩ := h.write hL hmem (o + n * i.size) hlrn (by rw [hnl, Nat.add_assoc, ← Nat.add_mul]; exact hfit) hnew1
                      have hreal := room ⟨L.b, L.s + o, none⟩ c w' hroom rfl (by rw [add_none, Nat.add_assoc]; exact hrun)
                      exact ⟨_, w', ρ, hreal, VR.sl hL hroom h2 (.inl rfl), hsim, turn_ext hL⟩
                    · rw [he1] at hcu
                      have : isUnk (unk + es) = true := isUnk_iff.2 (by unfold unk; omega)
                      rw [this] at hcu; cases hcu
                  | sl0 hK hcv =>
                    rcases hcv with rfl | hc'
                    · omega
                    · rw [hc'] at hcu; cases hcu
                · trivial
              · trivial
            · rename_i hroom
              cases hs with
              | sl hL h1 h2 h3 =>
                rename_i cr L
                rcases h3 with h3 | ⟨es, he0, he1, _⟩
                · subst h3
                  exact fresh 0 _ c (VR.sl hL h1 h2 (.inl rfl)) (by omega) rfl
                · rw [he1] at hcu
                  have : isUnk (unk + es) = true := isUnk_iff.2 (by unfold unk; omega)
                  rw [this] at hcu; cases hcu
              | sl0 hK hcv =>
                rcases hcv with rfl | hc'
                · exact fresh 0 _ 0 (VR.sl0 hK (.inl rfl)) (by omega) rfl
                · rw [hc'] at hcu; cases hcu
        · trivial
      · trivial
  · trivial
end
end Go.Vm
end
section
/- Each operation of the virtual machine against the model's own: numbers, strings, conversions, comparisons, copy, len. -/
set_option linter.unusedVariables false
set_option linter.unusedSimpArgs false
namespace Go.Vm
open Go Go.RowKit

section
variable {P : Program} {w0 : World} {B : Nat} {ex : Nat → Prop} {ρ : Ren} {V : VS} {w : World} {T : TT}

theorem good_cvInt (h : Sim P w0 B ρ V w) {s d : TypeId} {ks kd : IntKind} (hs : P.underlying s = some (.int ks)) (hd : P.underlying d = some (.int kd)) {x r : Value} (hx : VR ρ x r) :
    Good P w0 B ex ρ V w (convert s d r) (cvInt kd x V) := by
  unfold cvInt
  split
  · cases hx
    exact Good.pure_ h (by simp [convert, run_underlying hs, run_underlying hd, Conv.intToInt]) (.int _ _)
  · trivial
theorem good_cvStr (h : Sim P w0 B ρ V w) {s d : TypeId} (hs : P.underlying s = some .string) (hd : P.underlying d = some .string) {x r : Value} (hx : VR ρ x r) :
    Good P w0 B ex ρ V w (convert s d r) (cvStr x V) := by
  unfold cvStr
  split
  · cases hx
    exact Good.pure_ h (by simp [convert, run_underlying hs, run_underlying hd]) (.string _)
  · trivial
theorem good_cvBytes (h : Sim P w0 B ρ V w) {id : Nat} (hid : id < V.next) (hn : ρ id = none) {s d e : TypeId} (hs : P.underlying s = some .string) (hd : P.underlying d = some (.slice e)) (he : P.underlying e = some (.int .u8))
    {x r : Value} (hx : VR ρ x r) : Good P w0 B (· = id) ρ V w (convert s d r) (cvBytes id e x V) := by
  unfold cvBytes
  split
  · rename_i s'
    split
    · rename_i hsz
      cases hx
      have hrun := Lib.run_convert_string_bytes (P := P) w s d e s' hs hd he
      have hnew := Lib.bytesWorld_at_new w e s'
      have hcells : Lib.bytesCells w e s' = (byteCells s' ++ List.replicate (grownCap w s'.size 0 e - s'.size) (Value.int .u8 0)).toArray := by
        apply Array.ext'
        simp [Lib.bytesCells, byteCells]
      have hsize : (Lib.bytesCells w e s').size = (byteCells s' ++ List.replicate (grownCap w s'.size 0 e - s'.size) (Value.int .u8 0)).length := by rw [hcells]; simp
      rw [hcells] at hnew
      have hge := grownCap_ge w s'.size 0 e
      have hle := grownCap_le_maxLen w s'.size 0 e (by simpa [maxLen] using hsz)
      have hrow := h.newRow hid hn (flats_lr (ρ := ρ) (byteCells_flat s')) e e (rest := List.replicate (grownCap w s'.size 0 e - s'.size) (Value.int .u8 0)) (w' := Lib.bytesWorld w e s')
        (lo := (byteCells s' ++ List.replicate (grownCap w s'.size 0 e - s'.size) (Value.int .u8 0)).length) (hi := (byteCells s' ++ List.replicate (grownCap w s'.size 0 e - s'.size) (Value.int .u8 0)).length + 1)
        ⟨rfl, rfl, rfl, by rw [Lib.bytesWorld_size]; omega, fun b hb _ => Lib.bytesWorld_at_old w e s' b hb⟩ (by simpa using hnew) (fun off ho => by omega)
      refine ⟨_, _, _, hrun, ?_, hrow, make_ext hn⟩
      have := VR.sl (ρ := ρ.put id ⟨w.heap.size, 0, (byteCells s' ++ List.replicate (grownCap w s'.size 0 e - s'.size) (Value.int .u8 0)).length⟩) (v := id) (o := 0) (len := s'.size) (cv := unk + 1) (cr := grownCap w s'.size 0 e)
        (Ren.put_same ..) hge (by simpa [maxLen] using hle) (.inr ⟨1, by omega, rfl, by simp [byteCells_length]; omega⟩)
      simpa using this
    · trivial
  · trivial
theorem bytesOf_run : ∀ {cs : List Value} {l : List UInt8}, bytesOf cs = some l → ∃ ns : List Int, cs = ns.map (Value.int .u8) ∧ l = ns.map fun n => UInt8.ofNat n.toNat
  | [], l, h => by simp [bytesOf] at h; subst h; exact ⟨[], rfl, rfl⟩
  | c :: cs, l, h => by
    unfold bytesOf at h
    split at h
    · rename_i heq; cases heq
    · rename_i n r heq
      cases heq
      cases hb : bytesOf cs with
      | none => rw [hb] at h; cases h
      | some l' =>
        rw [hb] at h
        simp at h
        subst h
        obtain ⟨ns, rfl, rfl⟩ := bytesOf_run hb
        exact ⟨n :: ns, rfl, rfl⟩
    · cases h
theorem LR.ints {ns : List Int} {rs : List Value} (h : LR ρ (ns.map (Value.int .u8)) rs) : rs = ns.map (Value.int .u8) := by
  induction ns generalizing rs with
  | nil => cases h; rfl
  | cons n ns ih =>
    simp only [List.map_cons] at h
    cases h with
    | cons hv t => cases hv; rw [ih t]; rfl
theorem good_cvString (h : Sim P w0 B ρ V w) {s d e : TypeId} (hs : P.underlying s = some (.slice e)) (hd : P.underlying d = some .string) (he : P.underlying e = some (.int .u8))
    {x r : Value} (hx : VR ρ x r) : Good P w0 B ex ρ V w (convert s d r) (cvString x V) := by
  unfold cvString
  split
  · cases hx
    exact Good.pure_ h (run_convert_bytes_nil w s e hs he _ _ d hd) (.string _)
  · rename_i b o len c
    split
    · rename_i h0
      subst h0
      have hz : ∀ (a : Addr) (cr : Nat), (convert s d (.slice (some a) 0 cr)).run P w = .ok (.string .empty) w := by
        intro a cr
        rw [run_convert_bytes_string w s d e _ 0 cr hs he hd]
        simp [Conv.bytesToString, loadCells, loadCellsFrom]
      cases hx with
      | sl hL h1 h2 h3 => exact Good.pure_ h (hz _ _) (.string _)
      | sl0 _ _ => exact Good.pure_ h (hz _ _) (.string _)
    · rename_i h0
      split
      · rename_i own cs ty hm
        split
        · rename_i hle
          split
          · rename_i l hl
            obtain ⟨ns, hns, rfl⟩ := bytesOf_run hl
            cases hx with
            | sl hL h1 h2 h3 =>
              rename_i cr L
              obtain ⟨rs, hlen, hlr, hc⟩ := h.reads hL hm o len hle
              rw [hns] at hlr
              have hrs := hlr.ints
              subst hrs
              refine Good.pure_ h (r := .string _) (run_convert_bytes_arg w s e hs he L.b (L.s + o) len cr ns (by simpa using hlen) (fun i hi => ?_) d hd) ?_
              · have hin : i < ns.length := by simp at hlen; omega
                refine hc i _ ?_
                simp [hin]
              · exact .string _
            | sl0 _ _ => exact absurd rfl h0
          · trivial
        · trivial
      · trivial
  · trivial
theorem good_un (h : Sim P w0 B ρ V w) (op : UnOp) {x r : Value} (hx : VR ρ x r) : Good P w0 B ex ρ V w (Op.unary op r) (un op x V) := by
  unfold un
  split
  · cases hx; exact Good.pure_ h (by simp [Op.unary, Op.intArith]) (.int _ _)
  · cases hx; exact Good.pure_ h (by simp [Op.unary, Op.intBits]) (.int _ _)
  · cases hx; exact Good.pure_ h (by simp [Op.unary]) (.bool _)
  · trivial
theorem good_pick (h : Sim P w0 B ρ V w) {c x y rc rx ry : Value} (hc : VR ρ c rc) (hx : VR ρ x rx) (hy : VR ρ y ry) :
    Good P w0 B ex ρ V w (do pure (if ← asBool rc then rx else ry)) (pick c x y V) := by
  unfold pick
  split
  · rename_i t
    cases hc
    cases t
    · exact Good.pure_ h (by simp [asBool]) hy
    · exact Good.pure_ h (by simp [asBool]) hx
  · trivial
theorem good_extr (h : Sim P w0 B ρ V w) (n : Nat) {x r : Value} (hx : VR ρ x r) : Good P w0 B ex ρ V w (Instr.extract r n) (extr n x V) := by
  unfold extr
  split
  · cases hx with
    | tuple hc hcs =>
      rename_i vs vs'
      cases hv : vs[n]? with
      | none => trivial
      | some v =>
        obtain ⟨q, hq, hr⟩ := (LR.of_arr hc hcs).get n v (by simpa using hv)
        have hq' : vs'[n]? = some q := by simpa using hq
        exact Good.pure_ h (by simp [Instr.extract, hq']) hr
  · trivial
theorem good_mkIface (h : Sim P w0 B ρ V w) {t : TypeId} {d : TypeDesc} (hu : P.underlying t = some d) (hd : ∀ a, d ≠ .interface a) {x r : Value} (hx : VR ρ x r) :
    Good P w0 B ex ρ V w (Instr.makeInterface t r) (mkIface t x V) := by
  refine Good.pure_ h (r := .iface t r) ?_ (.iface hx)
  unfold Instr.makeInterface
  simp only [Sem.run_bind, run_underlying hu, Result.andThen_ok]
  cases d <;> first | rfl | exact absurd rfl (hd _)
theorem good_assertOk (h : Sim P w0 B ρ V w) {t xt : TypeId} {d : TypeDesc} (hu : P.underlying t = some d) (hd : ∀ a, d ≠ .interface a) {i : TypeInfo} {z : Value} (hi : P.info? t = some i) (hz : i.zero = some z) (hzr : VR ρ z z)
    {x r : Value} (hx : VR ρ x r) : Good P w0 B ex ρ V w (Instr.typeAssert r xt t true) (assertOk t z x V) := by
  have two : ∀ {a b c d : Value}, VR ρ a c → VR ρ b d → VR ρ (.tuple #[a, b]) (.tuple #[c, d]) := by
    intro a b c d h1 h2
    exact LR.tuple (.cons h1 (.cons h2 .nil))
  unfold assertOk
  split
  · rename_i u v
    cases hx with
    | iface hv =>
      rename_i r'
      by_cases hut : u = t
      · subst hut
        rw [if_pos rfl]
        refine Good.pure_ h ?_ (two hv (.bool _))
        unfold Instr.typeAssert
        simp only [Sem.run_bind, run_underlying hu, Result.andThen_ok]
        cases d <;> first | (simp; done) | exact absurd rfl (hd _)
      · rw [if_neg hut]
        refine Good.pure_ h ?_ (two hzr (.bool _))
        unfold Instr.typeAssert
        simp only [Sem.run_bind, run_underlying hu, Result.andThen_ok]
        cases d <;> first | (simp [hut, run_zero hi hz]; done) | exact absurd rfl (hd _)
  · cases hx
    refine Good.pure_ h ?_ (two hzr (.bool _))
    unfold Instr.typeAssert
    simp only [Sem.run_bind, run_underlying hu, Result.andThen_ok]
    cases d <;> first | (simp [run_zero hi hz]; done) | exact absurd rfl (hd _)
  · trivial
theorem good_most (h : Sim P w0 B ρ V w) {x y r q : Value} (hx : VR ρ x r) (hy : VR ρ y q) (tys : Array TypeId) (ty : TypeId) : Good P w0 B ex ρ V w (Builtin.max_ tys ty #[r, q]) (most x y V) := by
  unfold most
  split
  · cases hx; cases hy
    exact Good.pure_ h (by simp [Builtin.max_, Builtin.max2]) (.int _ _)
  · trivial
theorem good_least (h : Sim P w0 B ρ V w) {x y r q : Value} (hx : VR ρ x r) (hy : VR ρ y q) (tys : Array TypeId) (ty : TypeId) : Good P w0 B ex ρ V w (Builtin.min_ tys ty #[r, q]) (least x y V) := by
  unfold least
  split
  · cases hx; cases hy
    exact Good.pure_ h (by simp [Builtin.min_, Builtin.min2]) (.int _ _)
  · trivial
theorem ER.length {a : List (Value × Value)} {b : List MapEntry} (h : ER ρ a b) : a.length = b.length := by
  induction h with
  | nil => rfl
  | cons _ _ _ _ ih => simp [ih]
theorem run_getMap {r : Nat} {es : Array MapEntry} {clock : Nat} (hb : w.heap[r]? = some (.map es clock)) : (getObj r).run P w = .ok (.map es clock) w := by simp [getObj, Sem.run, hb]
theorem good_lenStr (h : Sim P w0 B ρ V w) {t ty : TypeId} (hu : P.underlying t = some .string) {x r : Value} (hx : VR ρ x r) : Good P w0 B ex ρ V w (Builtin.len_ #[t] ty #[r]) (lenStr x V) := by
  unfold lenStr
  split
  · cases hx
    exact Good.pure_ h (by simp [Builtin.len_, run_underlying hu, goInt]) (.int _ _)
  · trivial
theorem good_lenSl (h : Sim P w0 B ρ V w) {t ty e : TypeId} (hu : P.underlying t = some (.slice e)) {x r : Value} (hx : VR ρ x r) : Good P w0 B ex ρ V w (Builtin.len_ #[t] ty #[r]) (lenSl x V) := by
  unfold lenSl
  split
  · cases hx with
    | snil => exact Good.pure_ h (by simp [Builtin.len_, run_underlying hu, goInt]) (.int _ _)
    | sl _ _ _ _ => exact Good.pure_ h (by simp [Builtin.len_, run_underlying hu, goInt]) (.int _ _)
    | sl0 _ _ => exact Good.pure_ h (by simp [Builtin.len_, run_underlying hu, goInt]) (.int _ _)
  · trivial
theorem good_lenMap (h : Sim P w0 B ρ V w) {t ty k e : TypeId} (hu : P.underlying t = some (.map k e)) {x r : Value} (hx : VR ρ x r) : Good P w0 B ex ρ V w (Builtin.len_ #[t] ty #[r]) (lenMap x V) := by
  unfold lenMap
  split
  · cases hx
    exact Good.pure_ h (by simp [Builtin.len_, run_underlying hu, goInt]) (.int _ _)
  · cases hx with
    | map hL =>
      split
      · rename_i es hm
        obtain ⟨es', clock, h1, h2, h3⟩ := h.obj _ _ _ hL hm
        refine Good.pure_ h (r := .int .i64 es.length) ?_ (.int _ _)
        have hl : es.length = es'.size := by simpa using h2.length
        simp [Builtin.len_, run_underlying hu, run_getMap h1, goInt, hl]
      · trivial
  · trivial
theorem good_capV (h : Sim P w0 B ρ V w) {t ty e : TypeId} (hu : P.underlying t = some (.slice e)) {x r : Value} (hx : VR ρ x r) : Good P w0 B ex ρ V w (Builtin.cap_ #[t] ty #[r]) (capV x V) := by
  unfold capV
  split
  · rename_i b n c
    cases hc : isUnk c with
    | true => trivial
    | false =>
    simp only [cond_false]
    cases hx with
    | snil => exact Good.pure_ h (by simp [Builtin.cap_, run_underlying hu, goInt]) (.int _ _)
    | sl hL h1 h2 h3 =>
      rcases h3 with rfl | ⟨es, _, rfl, _⟩
      · exact Good.pure_ h (by simp [Builtin.cap_, run_underlying hu, goInt]) (.int _ _)
      · rw [isUnk_iff.2 (by unfold unk; omega)] at hc; cases hc
    | sl0 _ h0 =>
      rcases h0 with rfl | h0
      · exact Good.pure_ h (by simp [Builtin.cap_, run_underlying hu, goInt]) (.int _ _)
      · rw [h0] at hc; cases hc
  · trivial
theorem good_cpy (h : Sim P w0 B ρ V w) {t u ty e : TypeId} (hu : P.underlying t = some (.slice e)) {i : TypeInfo} (hi : P.info? e = some i) {d x r q : Value} (hd : VR ρ d r) (hx : VR ρ x q) :
    Good P w0 B ex ρ V w (Builtin.copy_ #[t, u] ty #[r, q]) (cpy i.size d x V) := by
  unfold cpy
  split
  · rename_i base n c
    cases hcx : cellsOf i.size x V with
    | none => trivial
    | some src =>
    simp only
    generalize hm : min (lenOfV x) n = m
    have hmx : m ≤ lenOfV x := by omega
    obtain ⟨hlen, hsl, rs, hlr, hrun⟩ := cells_run (P := P) h hx hcx hmx
    have hmn : Nat.min (lenOfV x) n = m := hm
    have hrl : rs.length = m * i.size := by
      rw [← hlr.length, List.length_take, hsl]
      exact Nat.min_eq_left (Nat.mul_le_mul_right _ hmx)
    have hr : ∃ a c', r = .slice a n c' ∧ (base = none → a = none) ∧ (base.isSome → a.isSome) := by
      cases hd with
      | snil => exact ⟨_, _, rfl, fun _ => rfl, fun q => q⟩
      | sl hL h1 h2 h3 => exact ⟨_, _, rfl, fun q => (by cases q), fun _ => rfl⟩
      | sl0 _ _ => exact ⟨_, _, rfl, fun q => (by cases q), fun _ => rfl⟩
    obtain ⟨a, c', rfl, hbn, hbs⟩ := hr
    have real : ∀ w', (match a with | some ad => (storeCells ad rs).run P w = .ok () w' | none => w' = w) → (Builtin.copy_ #[t, u] ty #[.slice a n c', q]).run P w = .ok (.int .i64 m) w' := by
      intro w' hst
      unfold Builtin.copy_
      simp only [List.getElem?_toArray, List.getElem?_cons_zero, List.getElem?_cons_succ, Sem.run_bind, run_underlying hu, Result.andThen_ok, run_size hi, Sem.run_pure, hlen, hmn, hrun w rfl]
      cases a with
      | none => simp at hst; subst hst; simp [goInt]
      | some ad => simp at hst; simp [hst, goInt]
    split
    · rename_i h0
      have hr0 : rs = [] := List.eq_nil_of_length_eq_zero (by omega)
      subst hr0
      exact Good.pure_ h (real w (by cases a <;> simp [storeCells])) (.int _ _)
    · rename_i h0
      split
      · rename_i b o
        split
        · rename_i cs ty' hmem
          split
          · rename_i hq
            cases hd with
            | sl hL h1 h2 h3 =>
              rename_i L
              have hall : (src.take (m * i.size)).all one = true := by
                rw [List.all_eq_true] at *
                exact fun z hz => hq.2 z (List.mem_of_mem_take hz)
              obtain ⟨w', hst, hsim⟩ := h.write hL hmem o hlr (by rw [hlr.length, hrl]; exact hq.1) (hlr.ones hall)
              exact ⟨_, w', ρ, real w' hst, .int _ _, hsim, turn_ext hL⟩
            | sl0 _ _ =>
              exfalso
              have : m = 0 := by omega
              subst this
              simp at h0
          · trivial
        · trivial
      · trivial
  · trivial
end
end Go.Vm
end
section
/- Each operation of the virtual machine against the model's own: operators, comparisons. -/
set_option linter.unusedVariables false
set_option linter.unusedSimpArgs false
namespace Go.Vm
open Go Go.RowKit

section
variable {P : Program} {w0 : World} {B : Nat} {ex : Nat → Prop} {ρ : Ren} {V : VS} {w : World} {T : TT}

/-! ### Plain values -/
theorem eq1_left {c : CK} {x y r : Value} {b : Bool} (h : eq1 c x y = some b) (hx : VR ρ x r) : r = x := by
  unfold eq1 at h
  split at h
  · cases hx; rfl
  · cases hx; rfl
  · cases hx; rfl
  · cases h
theorem eq1_right {c : CK} {x y r : Value} {b : Bool} (h : eq1 c x y = some b) (hy : VR ρ y r) : r = y := by
  unfold eq1 at h
  split at h
  · cases hy; rfl
  · cases hy; rfl
  · cases hy; rfl
  · cases h
theorem eqCells_left : ∀ {cs : List CK} {xs ys rs : List Value} {b : Bool}, eqCells cs xs ys = some b → LR ρ xs rs → rs = xs
  | [], [], [], rs, b, h, hl => by cases hl; rfl
  | c :: cs, x :: xs, y :: ys, rs, b, h, hl => by
    cases hl with
    | cons hv t =>
    unfold eqCells at h
    split at h
    · rename_i a b' h1 h2
      rw [eq1_left h1 hv, eqCells_left h2 t]
    · cases h
  | [], [], _ :: _, _, _, h, _ => by simp [eqCells] at h
  | [], _ :: _, _, _, _, h, _ => by simp [eqCells] at h
  | _ :: _, [], _, _, _, h, _ => by simp [eqCells] at h
  | _ :: _, _ :: _, [], _, _, h, _ => by simp [eqCells] at h
theorem eqCells_right : ∀ {cs : List CK} {xs ys rs : List Value} {b : Bool}, eqCells cs xs ys = some b → LR ρ ys rs → rs = ys
  | [], [], [], rs, b, h, hl => by cases hl; rfl
  | c :: cs, x :: xs, y :: ys, rs, b, h, hl => by
    cases hl with
    | cons hv t =>
    unfold eqCells at h
    split at h
    · rename_i a b' h1 h2
      rw [eq1_right h1 hv, eqCells_right h2 t]
    · cases h
  | [], [], _ :: _, _, _, h, _ => by simp [eqCells] at h
  | [], _ :: _, _, _, _, h, _ => by simp [eqCells] at h
  | _ :: _, [], _, _, _, h, _ => by simp [eqCells] at h
  | _ :: _, _ :: _, [], _, _, h, _ => by simp [eqCells] at h
theorem keq_left {q : EK} {x y r : Value} {b : Bool} (h : keq q x y = some b) (hx : VR ρ x r) : r = x := by
  unfold keq at h
  split at h
  · exact eq1_left h hx
  · cases hx with
    | agg hc hcs =>
      have := eqCells_left h (LR.of_arr hc hcs)
      rw [Array.toList_inj.1 this]
  · cases h
theorem keq_right {q : EK} {x y r : Value} {b : Bool} (h : keq q x y = some b) (hy : VR ρ y r) : r = y := by
  unfold keq at h
  split at h
  · exact eq1_right h hy
  · cases hy with
    | agg hc hcs =>
      have := eqCells_right h (LR.of_arr hc hcs)
      rw [Array.toList_inj.1 this]
  · cases h
/-- A cell kind's type. -/
def CkOf (c : CK) (d : TypeDesc) : Prop :=
  match c, d with
  | .bool, .bool => True
  | .int, .int _ => True
  | .str, .string => True
  | _, _ => False
theorem plainCell_under (hT : TOk P T) {t : TypeId} {c : CK} (h : plainCell T t = some c) : ∃ d, P.underlying t = some d ∧ CkOf c d := by
  unfold plainCell at h
  split at h
  · rename_i hg
    obtain ⟨d, hd, hk⟩ := hT.under _ _ hg
    cases h
    exact ⟨d, hd, by rw [tk_bool hk]; trivial⟩
  · rename_i hg
    obtain ⟨d, hd, hk⟩ := hT.under _ _ hg
    cases h
    exact ⟨d, hd, by rw [tk_int hk]; trivial⟩
  · rename_i hg
    obtain ⟨d, hd, hk⟩ := hT.under _ _ hg
    cases h
    exact ⟨d, hd, by rw [tk_string hk]; trivial⟩
  · cases h
theorem ckOf_agg {c : CK} {d : TypeDesc} (h : CkOf c d) : (tkOf d).isAgg = false := by
  cases c <;> cases d <;> first | rfl | (simp [CkOf] at h)
theorem eq1_run {t : TypeId} {c : CK} {d : TypeDesc} (hu : P.underlying t = some d) (hc : CkOf c d) {x y : Value} {b : Bool} (h : eq1 c x y = some b) (n : Nat) (w : World) : (Op.equalIn (n + 1) t x y).run P w = .ok b w := by
  unfold eq1 at h
  split at h
  · cases h
    cases d <;> first | (simp [CkOf] at hc; done) | skip
    exact run_equalIn_bool w n t _ _ hu
  · split at h
    · rename_i hk
      cases h
      subst hk
      cases d <;> first | (simp [CkOf] at hc; done) | skip
      exact run_equalIn_int w n t _ _ _ _ hu
    · cases h
  · cases h
    cases d <;> first | (simp [CkOf] at hc; done) | skip
    rw [run_equalIn_string w n t _ _ hu, beq_toListBytes]
  · cases h
theorem eqCells_run (hT : TOk P T) : ∀ (F : List Field) (n : Nat) (cs : List CK) (xs ys : Array Value) (b : Bool) (d : Nat) (w : World), plainT T (F.map fun f => (f.offset, f.type)) n = some cs → F.all (fun f => f.name != "_") = true →
    eqCells cs (xs.toList.drop n) (ys.toList.drop n) = some b → (Op.eqFields (d + 1) xs ys F).run P w = .ok b w
  | [], n, cs, xs, ys, b, d, w, hp, _, he => by
    simp [plainT] at hp
    subst hp
    unfold eqCells at he
    split at he
    · cases he; simp [Op.eqFields]
    · rename_i heq _ _; cases heq
    · cases he
  | f :: F, n, cs, xs, ys, b, d, w, hp, hn, he => by
    simp only [List.map_cons, plainT] at hp
    cases ho : Nat.beq f.offset n with
    | false => rw [ho] at hp; cases hp
    | true =>
    have hoff : f.offset = n := Nat.eq_of_beq_eq_true ho
    rw [ho] at hp
    simp only [cond_true] at hp
    cases hc : plainCell T f.type with
    | none => rw [hc] at hp; cases hp
    | some c =>
    cases hr : plainT T (F.map fun f => (f.offset, f.type)) (n + 1) with
    | none => rw [hc, hr] at hp; cases hp
    | some cs' =>
    rw [hc, hr] at hp
    cases hp
    obtain ⟨ds, hu, hck⟩ := plainCell_under hT hc
    simp only [List.all_cons, Bool.and_eq_true] at hn
    have hn' : f.name ≠ "_" := by simpa using hn.1
    unfold eqCells at he
    split at he
    · rename_i heq _ _; cases heq
    · rename_i c2 cs2 x xs2 y ys2 heq hx hy
      cases heq
      split at he
      · rename_i a b2 h1 h2
        cases he
        have hx0 : xs[n]? = some x := by
          have := congrArg (·[0]?) hx
          simpa [List.getElem?_drop] using this
        have hy0 : ys[n]? = some y := by
          have := congrArg (·[0]?) hy
          simpa [List.getElem?_drop] using this
        have hx1 : xs.toList.drop (n + 1) = xs2 := by
          have := congrArg (List.drop 1) hx
          simpa [List.drop_drop] using this
        have hy1 : ys.toList.drop (n + 1) = ys2 := by
          have := congrArg (List.drop 1) hy
          simpa [List.drop_drop] using this
        have pa : ∀ (zs : Array Value) (z : Value), zs[n]? = some z → (part f.type zs f.offset).run P w = .ok z w := by
          intro zs z hz
          simp [part, run_isAgg hu, ckOf_agg hck, hoff, hz]
        have ih := eqCells_run hT F (n + 1) cs' xs ys b2 d w hr hn.2 (by rw [hx1, hy1]; exact h2)
        simp only [Op.eqFields, if_pos hn', Sem.run_bind, pa _ _ hx0, pa _ _ hy0, eq1_run hu hck h1, Result.andThen_ok]
        cases a
        · simp
        · simpa using ih
      · cases he
    · cases he
/-- A kind's type. -/
theorem eqKind_cell (hT : TOk P T) {t : TypeId} {c : CK} (h : eqKind T t = .cell c) : ∃ d, P.underlying t = some d ∧ CkOf c d := by
  apply plainCell_under hT
  unfold eqKind at h
  unfold plainCell
  split at h <;> simp_all
  split at h <;> cases h
theorem eqKind_plain (hT : TOk P T) {t : TypeId} {cs : List CK} (h : eqKind T t = .plain cs) :
    ∃ F : Array Field, P.underlying t = some (.struct F) ∧ plainT T (F.toList.map fun f => (f.offset, f.type)) 0 = some cs ∧ F.toList.all (fun f => f.name != "_") = true ∧ P.stoodInHeld t = false ∧ P.eqGuardType P.depth t = false := by
  unfold eqKind at h
  split at h <;> try (cases h; done)
  rename_i fs n a b hg
  split at h
  · rename_i cs' hp
    cases h
    obtain ⟨d, hu, hk⟩ := hT.under _ _ hg
    obtain ⟨F, rfl, hF⟩ := tk_struct hk
    obtain ⟨h1, h2, h3⟩ := hT.plain _ _ _ _ _ _ hg hp
    exact ⟨F, hu, by rw [hF]; exact hp, h3 F hu, h1, h2⟩
  · cases h
theorem keq_run (hT : TOk P T) {t : TypeId} {q : EK} (hq : eqKind T t = q) {x y : Value} {b : Bool} (h : keq q x y = some b) (n : Nat) (w : World) : (Op.equalIn (n + 2) t x y).run P w = .ok b w := by
  unfold keq at h
  split at h
  · obtain ⟨d, hu, hc⟩ := eqKind_cell hT hq
    exact eq1_run hu hc h (n + 1) w
  · obtain ⟨F, hu, hp, hn, hs, _⟩ := eqKind_plain hT hq
    have hf : P.fieldsOf t = F := by simp [Program.fieldsOf, hu]
    rw [run_equalIn_struct w (n + 1) t _ _ (by rw [hf]; exact hu) hs, hf]
    exact eqCells_run hT _ 0 _ _ _ _ n w hp hn (by simpa using h)
  · cases h

/-! ### Operators -/
theorem arith_run {op : BinOp} {k : IntKind} {a b : Int} {u : Value} (h : arithV op k a b = some u) (t : TypeId) : (binOp op t (.int k a) (.int k b)).run P w = .ok u w ∧ flat u = true := by
  unfold arithV at h
  split at h <;> (try split at h) <;> cases h <;> first
    | (refine ⟨?_, rfl⟩; simp [binOp, Op.intArith]; done)
    | (refine ⟨?_, rfl⟩; simp [binOp, Op.intDiv, *]; done)
    | (refine ⟨?_, rfl⟩; simp [binOp, Op.intBits]; done)
    | (refine ⟨?_, rfl⟩; simp [binOp, Op.intCmp]; done)
theorem shift_run {op : BinOp} (hop : op = .shl ∨ op = .shr) {k k' : IntKind} {a b : Int} {u : Value} (h : shiftV op k a b = some u) (t : TypeId) : (binOp op t (.int k a) (.int k' b)).run P w = .ok u w ∧ flat u = true := by
  unfold shiftV at h
  split at h
  · cases h
  · rename_i hb
    rcases hop with rfl | rfl
    · cases h; exact ⟨by simp [binOp, Op.shift, hb], rfl⟩
    · cases h; exact ⟨by simp [binOp, Op.shift, hb], rfl⟩
theorem str_run {op : BinOp} {a b : ByteArray} {u : Value} (h : strV op a b = some u) (t : TypeId) : (binOp op t (.string a) (.string b)).run P w = .ok u w ∧ flat u = true := by
  unfold strV at h
  split at h <;> (try split at h) <;> cases h <;> first
    | (refine ⟨?_, rfl⟩
       rename_i hle
       have : ¬ (((a.size + b.size : Nat) : Int) > IntKind.i64.max) := by simp only [IntKind.max, IntKind.signed, IntKind.bits]; omega
       simp only [binOp, Op.stringOp]; rw [if_neg this]; rfl)
    | (refine ⟨?_, rfl⟩; simp [binOp, Op.stringOp]; done)
theorem eqKind_ptr (hT : TOk P T) {t : TypeId} (h : eqKind T t = .ptr) : ∃ e, P.underlying t = some (.pointer e) := by
  unfold eqKind at h
  split at h <;> first | (cases h; done) | skip
  · rename_i hg
    obtain ⟨d, hu, hk⟩ := hT.under _ _ hg
    obtain ⟨e, rfl⟩ := tk_ptr hk
    exact ⟨e, hu⟩
  · split at h <;> cases h
theorem eqKind_slice (hT : TOk P T) {t : TypeId} (h : eqKind T t = .slice) : ∃ e, P.underlying t = some (.slice e) := by
  unfold eqKind at h
  split at h <;> first | (cases h; done) | skip
  · rename_i hg
    obtain ⟨d, hu, hk⟩ := hT.under _ _ hg
    rw [tk_slice hk] at hu
    exact ⟨_, hu⟩
  · split at h <;> cases h
theorem eqKind_map (hT : TOk P T) {t : TypeId} (h : eqKind T t = .map) : ∃ k e, P.underlying t = some (.map k e) := by
  unfold eqKind at h
  split at h <;> first | (cases h; done) | skip
  · rename_i hg
    obtain ⟨d, hu, hk⟩ := hT.under _ _ hg
    rw [tk_map hk] at hu
    exact ⟨_, _, hu⟩
  · split at h <;> cases h
theorem eqKind_func (hT : TOk P T) {t : TypeId} (h : eqKind T t = .func) : ∃ a b c, P.underlying t = some (.func a b c) := by
  unfold eqKind at h
  split at h <;> first | (cases h; done) | skip
  · rename_i hg
    obtain ⟨d, hu, hk⟩ := hT.under _ _ hg
    obtain ⟨a, b, c, rfl⟩ := tk_func hk
    exact ⟨_, _, _, hu⟩
  · split at h <;> cases h
theorem eqIn_ptr {t e : TypeId} (hu : P.underlying t = some (.pointer e)) (n : Nat) (w : World) : (∀ b, (Op.equalIn (n + 1) t (.pointer none) (.pointer b)).run P w = .ok b.isNone w) ∧ ∀ a, (Op.equalIn (n + 1) t (.pointer (some a)) (.pointer none)).run P w = .ok false w := by
  constructor <;> (intro b; unfold Op.equalIn; simp only [Sem.run_bind, run_underlying hu, Result.andThen_ok]; rfl)
theorem eqIn_slice {t e : TypeId} (hu : P.underlying t = some (.slice e)) (n : Nat) (w : World) : (∀ i j b i' j', (Op.equalIn (n + 1) t (.slice none i j) (.slice b i' j')).run P w = .ok b.isNone w) ∧ ∀ a i j i' j', (Op.equalIn (n + 1) t (.slice (some a) i j) (.slice none i' j')).run P w = .ok false w := by
  constructor <;> (intros; unfold Op.equalIn; simp only [Sem.run_bind, run_underlying hu, Result.andThen_ok]; rfl)
theorem eqIn_map {t k e : TypeId} (hu : P.underlying t = some (.map k e)) (n : Nat) (w : World) : (∀ b, (Op.equalIn (n + 1) t (.map none) (.map b)).run P w = .ok b.isNone w) ∧ ∀ a, (Op.equalIn (n + 1) t (.map (some a)) (.map none)).run P w = .ok false w := by
  constructor <;> (intros; unfold Op.equalIn; simp only [Sem.run_bind, run_underlying hu, Result.andThen_ok]; rfl)
theorem eqIn_func {t : TypeId} {a b c} (hu : P.underlying t = some (.func a b c)) (n : Nat) (w : World) : (Op.equalIn (n + 1) t .nilFunc .nilFunc).run P w = .ok true w ∧
    (∀ f x y, (Op.equalIn (n + 1) t .nilFunc (.func f x y)).run P w = .ok false w) ∧ ∀ f x y, (Op.equalIn (n + 1) t (.func f x y) .nilFunc).run P w = .ok false w := by
  refine ⟨?_, ?_, ?_⟩ <;> (intros; unfold Op.equalIn; simp only [Sem.run_bind, run_underlying hu, Result.andThen_ok]; rfl)
/-- '==' by the kinds. -/
theorem eqV_run (hT : TOk P T) {t : TypeId} {k : EK} (hk : eqKind T t = k) {x y r q : Value} {b : Bool} (h : eqV k x y = some b) (hx : VR ρ x r) (hy : VR ρ y q) (n : Nat) (w : World) : (Op.equalIn (n + 2) t r q).run P w = .ok b w := by
  unfold eqV at h
  split at h
  · rw [eq1_left h hx, eq1_right h hy]
    obtain ⟨d, hu, hc⟩ := eqKind_cell hT hk
    exact eq1_run hu hc h (n + 1) w
  · obtain ⟨e, hu⟩ := eqKind_ptr hT hk
    cases hx
    cases hy <;> (cases h; exact (eqIn_ptr hu (n + 1) w).1 _)
  · obtain ⟨e, hu⟩ := eqKind_ptr hT hk
    cases h; cases hx; cases hy
    exact (eqIn_ptr hu (n + 1) w).2 _
  · obtain ⟨e, hu⟩ := eqKind_slice hT hk
    cases hx
    cases hy <;> (cases h; exact (eqIn_slice hu (n + 1) w).1 ..)
  · obtain ⟨e, hu⟩ := eqKind_slice hT hk
    cases h; cases hy
    cases hx <;> exact (eqIn_slice hu (n + 1) w).2 ..
  · obtain ⟨k1, e, hu⟩ := eqKind_map hT hk
    cases hx
    cases hy <;> (cases h; exact (eqIn_map hu (n + 1) w).1 _)
  · obtain ⟨k1, e, hu⟩ := eqKind_map hT hk
    cases h; cases hy; cases hx
    exact (eqIn_map hu (n + 1) w).2 _
  · obtain ⟨_, _, _, hu⟩ := eqKind_func hT hk
    cases h; cases hx; cases hy
    exact (eqIn_func hu (n + 1) w).1
  · obtain ⟨_, _, _, hu⟩ := eqKind_func hT hk
    cases h; cases hx; cases hy
    exact (eqIn_func hu (n + 1) w).2.1 ..
  · obtain ⟨_, _, _, hu⟩ := eqKind_func hT hk
    cases h; cases hx; cases hy
    exact (eqIn_func hu (n + 1) w).2.2 ..
  · rename_i cs xs ys
    have hkq : keq (.plain cs) (.agg xs) (.agg ys) = some b := h
    rw [keq_left hkq hx, keq_right hkq hy]
    exact keq_run hT hk hkq n w
  · cases h
/-- No two nil interfaces come by here. -/
theorem eqV_guard (hT : TOk P T) {t : TypeId} {k : EK} (hk : eqKind T t = k) {x y r q : Value} {b : Bool} (h : eqV k x y = some b) (hx : VR ρ x r) (hy : VR ρ y q) (op : BinOp) (ox oy : Operand) (w : World) : (eqGuard op t ox oy r q).run P w = .ok () w := by
  unfold eqV at h
  split at h
  · rw [eq1_left h hx]
    unfold eq1 at h
    split at h <;> first | (simp only [eqGuard_at_bool, eqGuard_at_int, eqGuard_at_string]; rfl) | cases h
  case h_11 cs xs ys =>
    obtain ⟨_, _, _, _, _, hg⟩ := eqKind_plain hT hk
    cases hx; cases hy
    exact run_eqGuard_agg w op t ox oy _ _ hg
  case h_12 => cases h
  all_goals (cases hx <;> first | rfl | (simp only [eqGuard_at_pointer, eqGuard_at_slice, eqGuard_at_map, eqGuard_at_func, eqGuard_at_nilFunc]; rfl))
theorem binOp_eql_of {t : TypeId} {r q : Value} {b : Bool} {k : EK} {x y : Value} (h : eqV k x y = some b) (hx : VR ρ x r) (hy : VR ρ y q) (hne : ∀ j n j' n', x = .int j n → y = .int j' n' → False) (hns : ∀ s s', x = .string s → y = .string s' → False)
    (he : (Op.equal t r q).run P w = .ok b w) : (binOp .eql t r q).run P w = .ok (.bool b) w ∧ (binOp .neq t r q).run P w = .ok (.bool !b) w := by
  unfold eqV at h
  split at h
  · unfold eq1 at h
    split at h
    · cases hx; cases hy; simp [binOp, he]
    · exact (hne _ _ _ _ rfl rfl).elim
    · exact (hns _ _ rfl rfl).elim
    · cases h
  case h_12 => cases h
  all_goals (cases hx <;> cases hy <;> simp [binOp, he])
theorem good_bin (hT : TOk P T) (h : Sim P w0 B ρ V w) (op : BinOp) (t : TypeId) (ox oy : Operand) {x y r q : Value} (hx : VR ρ x r) (hy : VR ρ y q) :
    Good P w0 B ex ρ V w (do eqGuard op t ox oy r q; binOp op t r q) (bin (eqKind T t) op x y V) := by
  unfold bin
  split
  · rename_i k a k' b
    cases hx; cases hy
    have hg : ∀ w, (eqGuard op t ox oy (.int k a) (.int k' b)).run P w = .ok () w := fun w => by rw [eqGuard_at_int]; rfl
    split
    · exact Good.opt h fun u hu => by
        obtain ⟨h1, h2⟩ := shift_run (P := P) (w := w) (.inl rfl) (k' := k') hu t
        exact ⟨u, by simp [hg, h1], flat_vr h2⟩
    · exact Good.opt h fun u hu => by
        obtain ⟨h1, h2⟩ := shift_run (P := P) (w := w) (.inr rfl) (k' := k') hu t
        exact ⟨u, by simp [hg, h1], flat_vr h2⟩
    · split
      · rename_i hk
        subst hk
        exact Good.opt h fun u hu => by
          obtain ⟨h1, h2⟩ := arith_run (P := P) (w := w) hu t
          exact ⟨u, by simp [hg, h1], flat_vr h2⟩
      · trivial
  · rename_i a b
    cases hx; cases hy
    exact Good.opt h fun u hu => by
      obtain ⟨h1, h2⟩ := str_run (P := P) (w := w) hu t
      exact ⟨u, by simp [eqGuard_at_string, h1], flat_vr h2⟩
  · rename_i hni hns
    split
    · exact Good.opt h fun u hu => by
        cases he : eqV (eqKind T t) x y with
        | none => rw [he] at hu; cases hu
        | some b =>
          rw [he] at hu
          cases hu
          have h1 := eqV_run (P := P) hT rfl he hx hy 9998 w
          have h2 := binOp_eql_of (P := P) (w := w) he hx hy hni hns h1
          exact ⟨.bool b, by simp [eqV_guard hT rfl he hx hy .eql ox oy w, h2.1], .bool _⟩
    · exact Good.opt h fun u hu => by
        cases he : eqV (eqKind T t) x y with
        | none => rw [he] at hu; cases hu
        | some b =>
          rw [he] at hu
          cases hu
          have h1 := eqV_run (P := P) hT rfl he hx hy 9998 w
          have h2 := binOp_eql_of (P := P) (w := w) he hx hy hni hns h1
          exact ⟨.bool !b, by simp [eqV_guard hT rfl he hx hy .neq ox oy w, h2.2], .bool _⟩
    · trivial
theorem good_isNil (hT : TOk P T) (h : Sim P w0 B ρ V w) (neg : Bool) {t : TypeId} (ht : isIfaceT T t = true) (ox : Operand) {x r : Value} (hx : VR ρ x r) :
    Good P w0 B ex ρ V w (do eqGuard (if neg then .neq else .eql) t ox (.const .nilIface) r .nilIface; binOp (if neg then .neq else .eql) t r .nilIface) (isNilI neg x V) := by
  have hu : ∃ a, P.underlying t = some (.interface a) := by
    unfold isIfaceT at ht
    split at ht
    · rename_i hg
      obtain ⟨d, hu, hk⟩ := hT.under _ _ hg
      obtain ⟨a, rfl⟩ := tk_iface hk
      exact ⟨a, hu⟩
    · cases ht
  obtain ⟨a, hu⟩ := hu
  have nn : (Op.equal t .nilIface .nilIface).run P w = .ok true w := by
    unfold Op.equal Op.maxDepth Op.equalIn; simp only [Sem.run_bind, run_underlying hu, Result.andThen_ok]; rfl
  have ni : ∀ d u, (Op.equal t (.iface d u) .nilIface).run P w = .ok false w := by
    intro d u; unfold Op.equal Op.maxDepth Op.equalIn; simp only [Sem.run_bind, run_underlying hu, Result.andThen_ok]; rfl
  cases hx <;> first | trivial | skip
  · rename_i d v r' _
    refine Good.pure_ (u := .bool neg) h (r := .bool neg) ?_ (.bool _)
    cases neg <;> simp [eqGuard_at_iface, binOp, ni]
  · refine Good.pure_ (u := .bool !neg) h (r := .bool !neg) ?_ (.bool _)
    cases neg <;> simp [eqGuard_nil_constR, binOp, nn]
end
end Go.Vm
end
section
/- Each operation of the virtual machine against the model's own: maps, panics. -/
set_option linter.unusedVariables false
set_option linter.unusedSimpArgs false
namespace Go.Vm
open Go Go.RowKit

theorem eq1_true {c : CK} {x y : Value} (h : eq1 c x y = some true) : x = y := by
  unfold eq1 at h
  split at h
  · simp at h; rw [h]
  · split at h
    · rename_i hk; simp at h; rw [hk, h]
    · cases h
  · simp at h
    rw [(MapKept.bytes_beq _ _).1 h]
  · cases h
theorem eqCells_true : ∀ {cs : List CK} {xs ys : List Value}, eqCells cs xs ys = some true → xs = ys
  | [], [], [], _ => rfl
  | c :: cs, x :: xs, y :: ys, h => by
    unfold eqCells at h
    split at h
    · rename_i a b h1 h2
      simp at h
      obtain ⟨rfl, rfl⟩ := h
      rw [eq1_true h1, eqCells_true h2]
    · cases h
  | [], [], _ :: _, h => by simp [eqCells] at h
  | [], _ :: _, _, h => by simp [eqCells] at h
  | _ :: _, [], _, h => by simp [eqCells] at h
  | _ :: _, _ :: _, [], h => by simp [eqCells] at h
theorem keq_true {q : EK} {x y : Value} (h : keq q x y = some true) : x = y := by
  unfold keq at h
  split at h
  · exact eq1_true h
  · rw [Array.toList_inj.1 (eqCells_true h)]
  · cases h
theorem eq1_bits {c : CK} {x y : Value} {b : Bool} (h : eq1 c x y = some b) (n : Nat) : Instr.sameBits n x x = true := by
  unfold eq1 at h
  split at h
  · cases n <;> simp [Instr.sameBits]
  · cases n <;> simp [Instr.sameBits]
  · rename_i a b
    have : (a == a) = true := (MapKept.bytes_beq _ _).2 rfl
    cases n <;> simp [Instr.sameBits, this]
  · cases h
theorem eqCells_bits : ∀ {cs : List CK} {xs ys : List Value} {b : Bool}, eqCells cs xs ys = some b → ∀ n, (xs.zip xs).all (fun (x, y) => Instr.sameBits n x y) = true
  | [], [], [], _, _, n => rfl
  | c :: cs, x :: xs, y :: ys, b, h, n => by
    unfold eqCells at h
    split at h
    · rename_i a b' h1 h2
      have := eqCells_bits h2 n
      simp only [List.zip_cons_cons, List.all_cons, Bool.and_eq_true]
      exact ⟨eq1_bits h1 n, this⟩
    · cases h
  | [], [], _ :: _, _, h, _ => by simp [eqCells] at h
  | [], _ :: _, _, _, h, _ => by simp [eqCells] at h
  | _ :: _, [], _, _, h, _ => by simp [eqCells] at h
  | _ :: _, _ :: _, [], _, h, _ => by simp [eqCells] at h
theorem keq_bits {q : EK} {x y : Value} {b : Bool} (h : keq q x y = some b) (n : Nat) : Instr.sameBits (n + 1) x x = true := by
  unfold keq at h
  split at h
  · exact eq1_bits h (n + 1)
  · have := eqCells_bits h n
    simp only [Instr.sameBits, beq_self_eq_true, Bool.true_and]
    exact this
  · cases h

section
variable {P : Program} {w0 : World} {B : Nat} {ex : Nat → Prop} {ρ : Ren} {V : VS} {w : World} {T : TT}

theorem checkKey_cell {t : TypeId} {c : CK} {d : TypeDesc} (hu : P.underlying t = some d) (hc : CkOf c d) (e : Bool) (n : Nat) (k : Value) (w : World) : (Instr.checkKey e (n + 1) t k).run P w = .ok () w := by
  unfold Instr.checkKey
  simp only [Sem.run_bind, run_underlying hu, Result.andThen_ok]
  cases d <;> first | rfl | (cases c <;> exact hc.elim)
theorem forIn_yield {α : Type} {g : α → PUnit → Sem (ForInStep PUnit)} (w : World) : ∀ (F : List α), (∀ f ∈ F, (g f PUnit.unit).run P w = .ok (.yield PUnit.unit) w) → (forIn F PUnit.unit g).run P w = .ok PUnit.unit w
  | [], _ => by simp
  | f :: F, h => by
    simp only [List.forIn_cons, Sem.run_bind, h f (by simp), Result.andThen_ok]
    exact forIn_yield w F fun x hx => h x (by simp [hx])
theorem checkFields (hT : TOk P T) (e : Bool) (m : Nat) : ∀ (F : List Field) (n : Nat) (cs : List CK) (xs ys : Array Value) (b : Bool) (w : World), plainT T (F.map fun f => (f.offset, f.type)) n = some cs →
    eqCells cs (xs.toList.drop n) (ys.toList.drop n) = some b →
    ∀ f ∈ F, ∃ x, (part f.type xs f.offset).run P w = .ok x w ∧ (Instr.checkKey e (m + 1) f.type x).run P w = .ok () w
  | [], n, cs, xs, ys, b, w, hp, he => by simp
  | f :: F, n, cs, xs, ys, b, w, hp, he => by
    simp only [List.map_cons, plainT] at hp
    cases ho : Nat.beq f.offset n with
    | false => rw [ho] at hp; cases hp
    | true =>
    have hoff : f.offset = n := Nat.eq_of_beq_eq_true ho
    rw [ho] at hp
    simp only [cond_true] at hp
    cases hc : plainCell T f.type with
    | none => rw [hc] at hp; cases hp
    | some c =>
    cases hr : plainT T (F.map fun f => (f.offset, f.type)) (n + 1) with
    | none => rw [hc, hr] at hp; cases hp
    | some cs' =>
    rw [hc, hr] at hp
    cases hp
    obtain ⟨ds, hu, hck⟩ := plainCell_under hT hc
    unfold eqCells at he
    split at he
    · rename_i heq _ _; cases heq
    · rename_i c2 cs2 x xs2 y ys2 heq hx hy
      cases heq
      split at he
      · rename_i a b2 h1 h2
        have hx0 : xs[n]? = some x := by
          have := congrArg (·[0]?) hx
          simpa [List.getElem?_drop] using this
        have hx1 : xs.toList.drop (n + 1) = xs2 := by
          have := congrArg (List.drop 1) hx
          simpa [List.drop_drop] using this
        have hy1 : ys.toList.drop (n + 1) = ys2 := by
          have := congrArg (List.drop 1) hy
          simpa [List.drop_drop] using this
        have pa : (part f.type xs f.offset).run P w = .ok x w := by
          simp [part, run_isAgg hu, ckOf_agg hck, hoff, hx0]
        have ih := checkFields hT e m F (n + 1) cs' xs ys b2 w hr (by rw [hx1, hy1]; exact h2)
        have hk := checkKey_cell hu hck e m x w
        intro f' hf'
        rcases List.mem_cons.1 hf' with rfl | hf'
        · exact ⟨x, pa, hk⟩
        · exact ih f' hf'
      · cases he
    · cases he
theorem checkKey_run (hT : TOk P T) {t : TypeId} {q : EK} (hq : eqKind T t = q) {k k' : Value} {b : Bool} (h : keq q k k' = some b) (e : Bool) (n : Nat) (w : World) : (Instr.checkKey e (n + 2) t k).run P w = .ok () w := by
  unfold keq at h
  split at h
  · obtain ⟨d, hu, hc⟩ := eqKind_cell hT hq
    exact checkKey_cell hu hc e (n + 1) _ w
  · obtain ⟨F, hu, hp, hn, hs, _⟩ := eqKind_plain hT hq
    unfold Instr.checkKey
    simp only [Sem.run_bind, run_underlying hu, Result.andThen_ok]
    rw [← Array.forIn_toList]
    have hall := checkFields (P := P) hT e n F.toList 0 _ _ _ b w hp (by simpa using h)
    rename_i xs ys
    refine (congrArg (fun r : Result PUnit => r.andThen _) (forIn_yield w F.toList fun f hf => ?_)).trans rfl
    obtain ⟨x, h1, h2⟩ := hall f hf
    by_cases hn : f.name = "_"
    · simp [hn]
    · simp [hn, h1, h2]
  · cases h

/-- What is found on both sides. -/
def FR (ρ : Ren) (es : List (Value × Value)) (es' : List MapEntry) (k : Value) (i : Nat) : Option (Nat × Value) → Option (Nat × Value) → Prop
  | none, none => True
  | some (j, v), some (j', v') => j' = j ∧ i ≤ j ∧ VR ρ v v' ∧ es[j - i]? = some (k, v) ∧ ∃ e, es'[j - i]? = some e ∧ e.key = k ∧ e.val = v'
  | _, _ => False
theorem FR.step {es : List (Value × Value)} {es' : List MapEntry} {k : Value} {i : Nat} {a b : Option (Nat × Value)} (h : FR ρ es es' k (i + 1) a b) (x : Value × Value) (e : MapEntry) : FR ρ (x :: es) (e :: es') k i a b := by
  match a, b, h with
  | none, none, _ => trivial
  | some (j, v), some (j', v'), ⟨h1, h2, h3, h4, h5⟩ =>
    have : j - i = (j - (i + 1)) + 1 := by omega
    exact ⟨h1, by omega, h3, by rw [this]; simpa using h4, by rw [this]; simpa using h5⟩
theorem findNow_run {c : CK} {d : TypeDesc} (hc : CkOf c d) {k : Value} {es : List (Value × Value)} {es' : List MapEntry} (he : ER ρ es es') : ∀ {i : Nat} {a : Option (Nat × Value)}, findK (.cell c) k es i = some a →
    ∃ a', Instr.findNow d k es' i = some a' ∧ FR ρ es es' k i a a' := by
  induction he with
  | nil => intro i a h; simp [findK] at h; subst h; exact ⟨none, rfl, trivial⟩
  | @cons k' v e xs ys hk hp hv t ih =>
    intro i a h
    have same : ∀ {b : Bool}, eq1 c k k' = some b → Instr.sameNow d k e.key = some b := by
      intro b hb
      rw [hk]
      unfold eq1 at hb
      split at hb
      · cases d <;> first | (simp [CkOf] at hc; done) | skip
        exact hb
      · cases d <;> first | (simp [CkOf] at hc; done) | skip
        exact hb
      · cases d <;> first | (simp [CkOf] at hc; done) | skip
        exact hb
      · cases hb
    unfold findK at h
    split at h
    · rename_i hq
      cases h
      refine ⟨some (i, e.val), by simp [Instr.findNow, same hq], rfl, Nat.le_refl _, hv, ?_, e, by simp, ?_, rfl⟩
      · have := eq1_true hq; simp [this]
      · rw [hk]; exact (eq1_true hq).symm
    · rename_i hq
      obtain ⟨a', h1, h2⟩ := ih h
      exact ⟨a', by simp [Instr.findNow, same hq, h1], h2.step _ _⟩
    · cases h
theorem findAsking_run (hT : TOk P T) {t : TypeId} {q : EK} (hq : eqKind T t = q) {k : Value} {es : List (Value × Value)} {es' : List MapEntry} (he : ER ρ es es') : ∀ {i : Nat} {a : Option (Nat × Value)} (w : World), findK q k es i = some a →
    ∃ a', (Instr.findAsking t k es' i).run P w = .ok a' w ∧ FR ρ es es' k i a a' := by
  induction he with
  | nil => intro i a w h; simp [findK] at h; subst h; exact ⟨none, rfl, trivial⟩
  | @cons k' v e xs ys hk hp hv t' ih =>
    intro i a w h
    have same : ∀ {b : Bool}, keq q k k' = some b → (Op.equal t k e.key).run P w = .ok b w := by
      intro b hb
      rw [hk]
      exact keq_run (P := P) hT hq hb 9998 w
    unfold findK at h
    split at h
    · rename_i hb
      cases h
      refine ⟨some (i, e.val), by simp [Instr.findAsking, same hb], rfl, Nat.le_refl _, hv, ?_, e, by simp, ?_, rfl⟩
      · have := keq_true hb; simp [this]
      · rw [hk]; exact (keq_true hb).symm
    · rename_i hb
      obtain ⟨a', h1, h2⟩ := ih w h
      exact ⟨a', by simp [Instr.findAsking, same hb, h1], h2.step _ _⟩
    · cases h
theorem findKey_run (hT : TOk P T) {t : TypeId} {q : EK} (hq : eqKind T t = q) {k : Value} {b : Bool} (hkk : keq q k k = some b) {es : List (Value × Value)} {es' : List MapEntry} (he : ER ρ es es') {a : Option (Nat × Value)} (w : World) (h : findK q k es 0 = some a) :
    ∃ a', (Instr.findKey t k es').run P w = .ok a' w ∧ FR ρ es es' k 0 a a' := by
  have hkk' := hkk
  unfold keq at hkk
  split at hkk
  · obtain ⟨d, hu, hc⟩ := eqKind_cell hT hq
    obtain ⟨a', h1, h2⟩ := findNow_run hc he h
    exact ⟨a', by simp [Instr.findKey, run_underlying hu, h1], h2⟩
  · obtain ⟨F, hu, hp, hn, hs, _⟩ := eqKind_plain hT hq
    cases he with
    | nil =>
      simp [findK] at h
      subst h
      exact ⟨none, by simp [Instr.findKey, run_underlying hu, Instr.findNow], trivial⟩
    | cons hk hp' hv t' =>
      rename_i k' v e xs ys
      obtain ⟨a', h1, h2⟩ := findAsking_run (P := P) hT hq (.cons hk hp' hv t') w h
      refine ⟨a', ?_, h2⟩
      have hnow : ∀ (kk : Value), Instr.findNow (.struct F) kk (e :: ys) 0 = none := by
        intro kk
        simp [Instr.findNow, Instr.sameNow]
      simp only [Instr.findKey, Sem.run_bind, run_underlying hu, Result.andThen_ok, hnow]
      exact h1
  · cases hkk

theorem good_newMap (h : Sim P w0 B ρ V w) {id : Nat} (hid : id < V.next) (hn : ρ id = none) (t : TypeId) : Good P w0 B (· = id) ρ V w (Instr.makeMap t none) (newMap id V) := by
  refine ⟨.map (some w.heap.size), w.alloc (.map #[] 0), ρ.put id ⟨w.heap.size, 0, 0⟩, by simp [Instr.makeMap], .map (Ren.put_same ..), ?_, make_ext hn⟩
  refine h.make hid hn (Turns.alloc ..) (Nat.le_refl _) (Array.getElem?_eq_some_iff.1 (alloc_new w (.map #[] 0))).1 ?_ rfl
  exact ⟨#[], 0, alloc_new .., .nil, fun i j a b hi => by simp at hi, fun i a hi => by simp at hi⟩

theorem good_look (hT : TOk P T) (h : Sim P w0 B ρ V w) {t kt et : TypeId} (hu : P.underlying t = some (.map kt et)) {i : TypeInfo} {z : Value} (hi : P.info? et = some i) (hz : i.zero = some z) (hzr : VR ρ z z)
    (ok : Bool) {m k r q : Value} (hm : VR ρ m r) (hk : VR ρ k q) : Good P w0 B ex ρ V w (Instr.lookup t r q ok) (look (eqKind T kt) z ok m k V) := by
  have two : ∀ {a c : Value} (b : Bool), VR ρ a c → VR ρ (cond ok (.tuple #[a, .bool b]) a) (if ok then .tuple #[c, .bool b] else c) := by
    intro a c b h1
    cases ok
    · exact h1
    · exact LR.tuple (.cons h1 (.cons (.bool _) .nil))
  unfold look
  cases hkk : keq (eqKind T kt) k k with
  | none => trivial
  | some b0 =>
  have hq := keq_left hkk hk
  subst hq
  have hchk := fun e w => checkKey_run (P := P) hT rfl hkk e 9998 w
  simp only
  split
  · cases hm
    refine Good.pure_ h ?_ (two false hzr)
    obtain ⟨a', h1, h2⟩ := findKey_run (P := P) (ρ := ρ) hT rfl hkk (.nil) (a := none) w rfl
    have : a' = none := by cases a' with
      | none => rfl
      | some _ => exact h2.elim
    subst this
    simp [Instr.lookup, run_underlying hu, hchk, h1, run_zero hi hz]
  · cases hm with
    | map hL =>
    split
    · rename_i es hmem
      obtain ⟨es', clock, h1, h2, h3⟩ := h.obj _ _ _ hL hmem
      cases hf : findK (eqKind T kt) q es 0 with
      | none => trivial
      | some a =>
        obtain ⟨a', g1, g2⟩ := findKey_run (P := P) hT rfl hkk h2 w hf
        match a, a', g1, g2 with
        | none, none, g1, _ =>
          refine Good.pure_ h ?_ (two false hzr)
          simp [Instr.lookup, run_underlying hu, run_getMap h1, hchk, g1, run_zero hi hz]
        | some (j, v), some (j', v'), g1, g2 =>
          refine Good.pure_ h ?_ (two true g2.2.2.1)
          simp [Instr.lookup, run_underlying hu, run_getMap h1, hchk, g1]
    · trivial
  · trivial

theorem ER.append {a c : List (Value × Value)} {b d : List MapEntry} (h : ER ρ a b) (k : ER ρ c d) : ER ρ (a ++ c) (b ++ d) := by
  induction h with
  | nil => exact k
  | cons a b c _ ih => exact .cons a b c ih
theorem ER.set {a : List (Value × Value)} {b : List MapEntry} (h : ER ρ a b) (i : Nat) {k v : Value} {f : MapEntry → MapEntry} (hf : ∀ e, (f e).key = k ∧ VR ρ v (f e).val) (hk : VR ρ k k) : ER ρ (a.set i (k, v)) (b.modify i f) := by
  induction h generalizing i with
  | nil => simp; exact .nil
  | cons hk' hp hv t ih =>
    cases i with
    | zero => exact .cons (hf _).1 hk (hf _).2 t
    | succ i => exact .cons hk' hp hv (ih i)
theorem ER.erase {a : List (Value × Value)} {b : List MapEntry} (h : ER ρ a b) (i : Nat) : ER ρ (a.eraseIdx i) (b.eraseIdx i) := by
  induction h generalizing i with
  | nil => simp; exact .nil
  | cons hk' hp hv t ih =>
    cases i with
    | zero => exact t
    | succ i => exact .cons hk' hp hv (ih i)
theorem run_setMap {r : Nat} {es : Array MapEntry} {clock : Nat} (o : Obj) (hb : w.heap[r]? = some (.map es clock)) : (setObj r o).run P w = .ok () (setO w r o) := by
  simp [setObj, Sem.run, hb, setO]
theorem BornOk.modify {es : Array MapEntry} {clock : Nat} (h : BornOk es clock) (i : Nat) {f : MapEntry → MapEntry} (hf : ∀ e, (f e).born = e.born) : BornOk (es.modify i f) clock := by
  have key : ∀ (j : Nat) a, (es.modify i f)[j]? = some a → ∃ b, es[j]? = some b ∧ b.born = a.born := by
    intro j a ha
    rw [Array.getElem?_modify] at ha
    split at ha
    · cases he : es[j]? with
      | none => rw [he] at ha; cases ha
      | some b => rw [he] at ha; simp at ha; exact ⟨b, rfl, by rw [← ha, hf]⟩
    · exact ⟨a, ha, rfl⟩
  refine ⟨fun x y a b hx hy hab => ?_, fun x a hx => ?_⟩
  · obtain ⟨a', h1, h2⟩ := key x a hx
    obtain ⟨b', h3, h4⟩ := key y b hy
    exact h.1 x y a' b' h1 h3 (by omega)
  · obtain ⟨a', h1, h2⟩ := key x a hx
    rw [← h2]
    exact h.2 x a' h1
theorem BornOk.push {es : Array MapEntry} {clock : Nat} (h : BornOk es clock) {e : MapEntry} (he : e.born = clock) : BornOk (es.push e) (clock + 1) := by
  have key : ∀ (j : Nat) a, (es.push e)[j]? = some a → (j < es.size ∧ es[j]? = some a) ∨ (j = es.size ∧ a = e) := by
    intro j a ha
    rw [Array.getElem?_push] at ha
    split at ha
    · rename_i hj; cases ha; exact .inr ⟨hj, rfl⟩
    · exact .inl ⟨(Array.getElem?_eq_some_iff.1 ha).1, ha⟩
  refine ⟨fun x y a b hx hy hab => ?_, fun x a hx => ?_⟩
  · rcases key x a hx with ⟨h1, h2⟩ | ⟨rfl, rfl⟩
    · rcases key y b hy with ⟨h3, h4⟩ | ⟨rfl, rfl⟩
      · exact h.1 x y a b h2 h4 hab
      · have := h.2 x a h2; omega
    · rcases key y b hy with ⟨h3, h4⟩ | ⟨rfl, rfl⟩
      · have := h.2 y b h4; omega
      · rfl
  · rcases key x a hx with ⟨h1, h2⟩ | ⟨rfl, rfl⟩
    · have := h.2 x a h2; omega
    · omega
theorem BornOk.erase {es : Array MapEntry} {clock : Nat} (h : BornOk es clock) (i : Nat) : BornOk (es.eraseIdxIfInBounds i) clock := by
  unfold Array.eraseIdxIfInBounds
  split
  · rename_i hi
    have key : ∀ (j : Nat) a, (es.eraseIdx i hi)[j]? = some a → es[if j < i then j else j + 1]? = some a := by
      intro j a ha
      rw [Array.getElem?_eraseIdx] at ha
      split at ha <;> rename_i hj <;> simp [hj, ha]
    refine ⟨fun x y a b hx hy hab => ?_, fun x a hx => ?_⟩
    · have := h.1 _ _ a b (key x a hx) (key y b hy) hab
      split at this <;> split at this <;> omega
    · exact h.2 _ a (key x a hx)
  · exact h
theorem good_upd (hT : TOk P T) (h : Sim P w0 B ρ V w) {t kt et : TypeId} (hu : P.underlying t = some (.map kt et)) {m k v r q s : Value} (hm : VR ρ m r) (hk : VR ρ k q) (hv : VR ρ v s) :
    GoodU P w0 B ex ρ V w (Instr.mapUpdate t r q s) (upd (eqKind T kt) m k v V) := by
  unfold upd
  cases hkk : keq (eqKind T kt) k k with
  | none => trivial
  | some b0 =>
  have hq := keq_left hkk hk
  subst hq
  have hchk := fun e w => checkKey_run (P := P) hT rfl hkk e 9998 w
  simp only
  split
  · cases hm with
    | map hL =>
    rename_i L
    split
    · rename_i es hmem
      obtain ⟨es', clock, h1, h2, h3⟩ := h.obj _ _ _ hL hmem
      cases hf : findK (eqKind T kt) q es 0 with
      | none => trivial
      | some a =>
        obtain ⟨a', g1, g2⟩ := findKey_run (P := P) hT rfl hkk h2 w hf
        match a, a', g1, g2 with
        | none, none, g1, _ =>
          refine ⟨rfl, setO w L.b (.map (es'.push { key := q, val := s, born := clock }) (clock + 1)), ρ, ?_, ?_, turn_ext hL⟩
          · simp [Instr.mapUpdate, run_underlying hu, run_getMap h1, hchk, g1, run_setMap _ h1]
          · refine h.turn hL hmem rfl (Turns.setO ..) ⟨_, _, setO_same h1, ?_, h3.push rfl⟩ rfl
            simpa using h2.append (.cons (e := { key := q, val := s, born := clock }) rfl hk hv .nil)
        | some (j, v0), some (j', v'), g1, g2 =>
          obtain ⟨rfl, _, _, _, e, he, hek, hev⟩ := g2
          refine ⟨rfl, setO w L.b (.map (es'.modify j' fun e => { e with key := q, val := s }) clock), ρ, ?_, ?_, turn_ext hL⟩
          · have he' : es'[j']? = some e := by simpa using he
            have hst : (Instr.keyThatStays e.key q).run P w = .ok q w := by
              unfold Instr.keyThatStays
              rw [hek, if_pos (keq_bits hkk 9999)]
              rfl
            simp only [Instr.mapUpdate, Sem.run_bind, run_underlying hu, Result.andThen_ok, run_getMap h1, hchk, g1, he', Option.map_some, Option.getD_some, hst, run_setMap _ h1]
          · refine h.turn hL hmem rfl (Turns.setO ..) ⟨_, _, setO_same h1, ?_, h3.modify _ fun _ => rfl⟩ rfl
            rw [Array.toList_modify]
            exact h2.set _ (fun _ => ⟨rfl, hv⟩) hk
    · trivial
  · trivial
theorem good_del (hT : TOk P T) (h : Sim P w0 B ρ V w) {t u ty kt et : TypeId} (hu : P.underlying t = some (.map kt et)) {m k r q : Value} (hm : VR ρ m r) (hk : VR ρ k q) :
    Good P w0 B ex ρ V w (Builtin.delete_ #[t, u] ty #[r, q]) (del (eqKind T kt) m k V) := by
  have unit : VR ρ (.tuple #[]) (.tuple #[]) := LR.tuple .nil
  unfold del
  cases hkk : keq (eqKind T kt) k k with
  | none => trivial
  | some b0 =>
  have hq := keq_left hkk hk
  subst hq
  have hchk := fun e w => checkKey_run (P := P) hT rfl hkk e 9998 w
  simp only
  split
  · cases hm
    refine Good.pure_ h (r := .tuple #[]) ?_ unit
    simp [Builtin.delete_, run_underlying hu, hchk]
  · cases hm with
    | map hL =>
    rename_i L
    split
    · rename_i es hmem
      obtain ⟨es', clock, h1, h2, h3⟩ := h.obj _ _ _ hL hmem
      cases hf : findK (eqKind T kt) q es 0 with
      | none => trivial
      | some a =>
        obtain ⟨a', g1, g2⟩ := findKey_run (P := P) hT rfl hkk h2 w hf
        match a, a', g1, g2 with
        | none, none, g1, _ =>
          have hw : setO w L.b (.map es' clock) = w := by
            have hb := (Array.getElem?_eq_some_iff.1 h1).1
            have he := (Array.getElem?_eq_some_iff.1 h1).2
            unfold setO
            have : w.heap.setIfInBounds L.b (.map es' clock) = w.heap := by
              apply Array.ext
              · simp
              · intro j k1 k2
                simp only [Array.size_setIfInBounds] at k1
                rw [Array.getElem_setIfInBounds k1]
                split
                · rename_i hq; subst hq; exact he.symm
                · rfl
            rw [this]
          refine Good.pure_ h (r := .tuple #[]) ?_ unit
          simp [Builtin.delete_, run_underlying hu, run_getMap h1, hchk, g1, run_setMap _ h1, hw]
        | some (j, v0), some (j', v'), g1, g2 =>
          obtain ⟨rfl, _, _, _, e, he, hek, hev⟩ := g2
          refine ⟨.tuple #[], setO w L.b (.map (es'.eraseIdxIfInBounds j') clock), ρ, ?_, unit, ?_, turn_ext hL⟩
          · simp [Builtin.delete_, run_underlying hu, run_getMap h1, hchk, g1, run_setMap _ h1]
          · refine h.turn hL hmem rfl (Turns.setO ..) ⟨_, _, setO_same h1, ?_, h3.erase _⟩ rfl
            have : (es'.eraseIdxIfInBounds j').toList = es'.toList.eraseIdx j' := by
              unfold Array.eraseIdxIfInBounds
              split
              · simp
              · rename_i hj; rw [List.eraseIdx_of_length_le (by simpa using hj)]
            rw [this]
            exact h2.erase _
    · trivial
  · trivial
theorem good_throw (h : Sim P w0 B ρ V w) {x r : Value} (hx : VR ρ x r) : Good P w0 B ex ρ V w (Instr.panic r) (throwV x V) := by
  unfold throwV
  split
  · rename_i t v
    cases hx with
    | iface hv => exact ⟨_, w, ρ, by simp [Instr.panic], .iface hv, h, Ext.refl ..⟩
  · trivial
end
end Go.Vm
end
