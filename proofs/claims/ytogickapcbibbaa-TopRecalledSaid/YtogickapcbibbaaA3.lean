/- DERIVED. What each operation makes of an abstract state. No program here. -/
import Derived.Test.YtogickapcbibbaaA2
namespace Go.Ab
open Go.RowKit

/-! what the evaluator asks of a type -/
inductive TK where
  | bad | int (k : IntKind) | bool | str | slice (e : Nat) | struct (fs : List (Nat × Nat)) | array (n e : Nat) | ptr (e : Nat) | func | oth
structure TI where
  sz : Nat
  bytes : Nat
  agg : Bool
  zero : List Dat
  d : TK
def tkOf : TypeDesc → TK
  | .int k => .int k
  | .bool => .bool
  | .string => .str
  | .slice e => .slice e
  | .struct fs => .struct (fs.toList.map fun f => (f.offset, f.type))
  | .array n e => .array n e
  | .pointer e => .ptr e
  | .func _ _ _ => .func
  | _ => .oth
def datOf1 : Value → Dat
  | .bool b => .bool b
  | .int k n => .int k n
  | .string s => .str s
  | .slice none 0 0 => .nil
  | v => .oth v
def datOf : Value → Dat
  | .agg cs => .agg (cs.toList.map datOf1)
  | v => datOf1 v
def ti (P : Program) (t : TypeId) : Option TI :=
  match P.info? t, P.underlying t with
  | some i, some u => match i.zero with
    | some z => some ⟨i.size, i.bytes, u.isRow, z.cells.toList.map datOf1, tkOf u⟩
    | none => none
  | _, _ => none

def Dat.cells : Dat → List Dat
  | .agg cs => cs
  | .oth v => v.cells.toList.map Dat.oth
  | d => [d]

def allOne (l : List Dat) : Bool := l.all Dat.one

structure Ef where
  val : Dat
  rd : List Nat := []
  wr : List (Nat × Option Blk) := []
  side : Prop := True

def St.put (σ : St) (dst : Option Tmp) (v : Dat) : St :=
  match dst with
  | some d => if d < σ.nt then { σ with t := upd σ.t d v } else σ
  | none => σ
def wrs (h : Nat → Option Blk) : List (Nat × Option Blk) → Nat → Option Blk
  | [] => h
  | (i, b) :: r => wrs (upd h i b) r
def St.app (σ : St) (dst : Option Tmp) (e : Ef) : St := { σ.put dst e.val with h := wrs σ.h e.wr }

def St.ev (σ : St) : Operand → Dat
  | .tmp t => σ.t t
  | .const v => datOf v
  | .global g => .oth (.pointer (some ⟨g, 0, none⟩))
  | .func f => .fn (.func f) [] []

/-- cells j, .. of an element -/
def cut (cs : List Dat) (j n : Nat) (agg : Bool) (st : Nat) : Dat :=
  if agg then .agg (if j = 0 ∧ n = st then cs else (cs.drop j).take n) else cs.getD j (.oth undef)

def evLoad (σ : St) (x : TI) : Dat → Option Ef
  | .ptr i k j st => match σ.h i with
    | some B => some { val := cut (B.es.getD k []) j x.sz x.agg st, rd := [i], side := k < B.es.length ∧ j + x.sz ≤ st ∧ B.st = st ∧ (x.agg = false → x.sz = 1) }
    | none => none
  | .rop cs j st => some { val := cut cs j x.sz x.agg st, side := j + x.sz ≤ st ∧ (x.agg = false → x.sz = 1) }
  | _ => none

def setR (ds : List Dat) (off : Nat) (cs : List Dat) : List Dat := cs.zipIdx.foldl (fun l p => l.set (off + p.2) p.1) ds

def evStore (σ : St) (x : TI) (a v : Dat) : Option Ef :=
  match a with
  | .ptr i k j st => match σ.h i with
    | some B => some { val := .oth undef, rd := [i], wr := [(i, some { B with es := B.es.set k (if j = 0 ∧ x.sz = st then v.cells else setR (B.es.getD k []) j v.cells) })], side := k < B.es.length ∧ j + x.sz ≤ st ∧ B.st = st ∧ v.cells.length = x.sz ∧ allOne v.cells = true ∧ B.fz = false }
    | none => none
  | _ => none

def fillD (place : Nat → Option (Nat × Nat)) (ds : List Dat) : List (Nat × Dat) → Option (List Dat)
  | [] => some ds
  | (i, d) :: rest =>
    match place i with
    | none => none
    | some (off, size) => if d.cells.length ≠ size ∨ off + d.cells.length > ds.length then none else fillD place (setR ds off d.cells) rest

/-- the elements of whatever may be read as a slice -/
def elems (σ : St) (st : Nat) : Dat → Option (List (List Dat) × List Nat × Prop)
  | .nil => some ([], [], True)
  | .list st' es => some (es, [], st' = st)
  | .ref i off len st' => match σ.h i with
    | some B => some (if off = 0 ∧ len = B.es.length then B.es else (B.es.drop off).take len, [i], st' = st ∧ B.st = st ∧ off + len ≤ B.es.length)
    | none => none
  | _ => none

def isAl (j : Nat) : Dat → Bool
  | .ref k _ _ _ => k == j
  | _ => false
def evAppend (P : Program) (σ : St) (i : Nat) (t1 t2 : TypeId) (s x : Dat) : Option Ef :=
  match ti P t1 with
  | some ⟨_, _, _, _, .slice e⟩ => match ti P e, elems σ ((ti P e).elim 0 (·.sz)) x with
    | some y, some (xs, r, p) => match s with
      | .nil => some { val := .ref (σ.n + i) 0 xs.length y.sz, rd := r, wr := [(σ.n + i, some ⟨e, y.sz, false, xs⟩)], side := (p) ∧ t2 = t1 ∧ 0 < y.sz ∧ 0 < y.bytes ∧ y.zero.length = y.sz ∧ xs.length * y.bytes ≤ 140737488355328 }
      | .ref j off len st => match σ.h j with
        | some B => if isAl j x = true then some { val := .ref j 0 (len + xs.length) y.sz, rd := j :: r, wr := [(j, some { B with es := B.es.take len ++ xs ++ B.es.drop (len + xs.length) })], side := p ∧ t2 = t1 ∧ off = 0 ∧ st = y.sz ∧ B.st = y.sz ∧ B.e = e ∧ B.fz = false ∧ len + xs.length ≤ B.es.length ∧ 0 < y.sz }
          else some { val := .ref (σ.n + i) 0 (len + xs.length) y.sz, rd := j :: r, wr := [(j, none), (σ.n + i, some ⟨e, y.sz, false, (if len = B.es.length then B.es else B.es.take len) ++ xs⟩)], side := p ∧ t2 = t1 ∧ off = 0 ∧ st = y.sz ∧ B.st = y.sz ∧ B.e = e ∧ B.fz = false ∧ len ≤ B.es.length ∧ 0 < y.sz ∧ 0 < y.bytes ∧ y.zero.length = y.sz ∧ (len + xs.length) * y.bytes ≤ 140737488355328 }
        | none => none
      | _ => none
    | _, _ => none
  | _ => none

def lenD : Dat → Option Nat
  | .nil => some 0
  | .list _ es => some es.length
  | .ref _ _ len _ => some len
  | .str s => some s.size
  | _ => none

def binInt (op : BinOp) (k : IntKind) (a b : Int) : Option Ef :=
  match op with
  | .add => some { val := .int k (k.wrap (a + b)) }
  | .sub => some { val := .int k (k.wrap (a - b)) }
  | .mul => some { val := .int k (k.wrap (a * b)) }
  | .quo => some { val := .int k (k.wrap (a.tdiv b)), side := b ≠ 0 }
  | .rem => some { val := .int k (a.tmod b), side := b ≠ 0 }
  | .eql => some { val := .bool (a == b) }
  | .neq => some { val := .bool (a != b) }
  | .lss => some { val := .bool (decide (a < b)) }
  | .leq => some { val := .bool (decide (a ≤ b)) }
  | .gtr => some { val := .bool (decide (b < a)) }
  | .geq => some { val := .bool (decide (b ≤ a)) }
  | .and => some { val := .int k (k.wrap (BitVec.ofInt k.bits a &&& BitVec.ofInt k.bits b).toNat) }
  | .or => some { val := .int k (k.wrap (BitVec.ofInt k.bits a ||| BitVec.ofInt k.bits b).toNat) }
  | .xor => some { val := .int k (k.wrap (BitVec.ofInt k.bits a ^^^ BitVec.ofInt k.bits b).toNat) }
  | .shl => some { val := .int k (k.wrap (a * 2 ^ (min b.toNat k.bits))), side := 0 ≤ b }
  | .shr => some { val := .int k (a.fdiv (2 ^ (min b.toNat k.bits))), side := 0 ≤ b }
  | _ => none

def isB (P : Program) (t : TypeId) : Prop := ∃ a b c z, ti P t = some ⟨a, b, c, z, .bool⟩
def evBin (P : Program) (t : TypeId) (op : BinOp) (x y : Dat) : Option Ef :=
  match x, y with
  | .bool a, .bool b => match op with
    | .eql => some { val := .bool (a == b), side := isB P t }
    | .neq => some { val := .bool (!(a == b)), side := isB P t }
    | _ => none
  | .int k a, .int k' b => match op with
    | .shl | .shr => binInt op k a b
    | _ => match binInt op k a b with
      | some e => some { e with side := e.side ∧ k = k' }
      | none => none
  | .str a, .str b => match op with
    | .eql => some { val := .bool (a.toList == b.toList) }
    | .neq => some { val := .bool (!(a.toList == b.toList)) }
    | .lss => some { val := .bool (Op.bytesLess a.toList b.toList) }
    | .gtr => some { val := .bool (!(Op.bytesLess a.toList b.toList || a.toList == b.toList)) }
    | _ => none
  | _, _ => none

def evUn (op : UnOp) (x : Dat) : Option Ef :=
  match op, x with
  | .not, .bool b => some { val := .bool (!b) }
  | .neg, .int k n => some { val := .int k (k.wrap (0 - n)) }
  | .xor, .int k n => some { val := .int k (k.wrap (BitVec.ofInt k.bits (if k.signed then -1 else k.max) ^^^ BitVec.ofInt k.bits n).toNat) }
  | _, _ => none

/-- a slice of a slice -/
def evSlice (hp : Nat → Option Blk) (d : TK) (x : Dat) (lo hi : Option Dat) : Option Ef :=
  let l := match lo with | some (.int _ n) => some n | none => some 0 | _ => none
  let h := fun (m : Nat) => match hi with | some (.int _ n) => some n | none => some (m : Int) | _ => none
  match d, x with
  | .slice _, .list st es => match l, h es.length with
    | some a, some b => some { val := .list st (if b = es.length then es.drop a.toNat else (es.take b.toNat).drop a.toNat), side := 0 ≤ a ∧ a ≤ b ∧ b ≤ es.length }
    | _, _ => none
  | .slice _, .nil => match l, h 0 with
    | some a, some b => some { val := .nil, side := a = 0 ∧ b = 0 }
    | _, _ => none
  | .slice _, .ref i off len st => match l, h len with
    | some a, some b => some { val := .ref i (off + a.toNat) (b.toNat - a.toNat) st, rd := [i], side := 0 ≤ a ∧ a ≤ b ∧ (b ≤ len ∨ ∃ B, hp i = some B ∧ B.st = st ∧ off = 0 ∧ 0 < st ∧ b ≤ B.es.length) }
    | _, _ => none
  | .str, .str s => match l, h s.size with
    | some a, some b => some { val := .str (s.extract a.toNat b.toNat), side := 0 ≤ a ∧ a ≤ b ∧ b ≤ s.size }
    | _, _ => none
  | _, _ => none

def sliceOk (P : Program) (d : TK) (x : Dat) : Prop :=
  match d with
  | .slice el => match ti P el with
    | some z => match x with
      | .list st _ => st = z.sz
      | .ref _ _ _ st => st = z.sz
      | _ => True
    | none => False
  | _ => True

def evIndexAddr (P : Program) (σ : St) (t : TypeId) (x ix : Dat) : Option Ef :=
  match ti P t, ix with
  | some ⟨_, _, _, _, .slice e⟩, .int _ n => match ti P e, x with
    | some y, .list st es => some { val := .rop (es.getD n.toNat []) 0 st, side := 0 ≤ n ∧ n < es.length ∧ st = y.sz }
    | some y, .ref i off len st => some { val := .ptr i (off + n.toNat) 0 st, side := 0 ≤ n ∧ n < len ∧ st = y.sz }
    | _, _ => none
  | some ⟨_, _, _, _, .array m e⟩, .int _ n => match ti P e, x with
    | some y, .ptr i k j st => some { val := .ptr i k (j + n.toNat * y.sz) st, side := 0 ≤ n ∧ n < m }
    | some y, .rop cs j st => some { val := .rop cs (j + n.toNat * y.sz) st, side := 0 ≤ n ∧ n < m }
    | _, _ => none
  | _, _ => none

def evFieldAddr (P : Program) (t : TypeId) (x : Dat) (f : Nat) : Option Ef :=
  match ti P t with
  | some ⟨_, _, _, _, .struct fs⟩ => match fs[f]? with
    | some (off, ft) => match ti P ft, x with
      | some y, .ptr i k j st => some { val := .ptr i k (j + off) st, side := y.sz ≠ 0 }
      | some y, .rop cs j st => some { val := .rop cs (j + off) st, side := y.sz ≠ 0 }
      | _, _ => none
    | none => none
  | _ => none

def evField (P : Program) (t : TypeId) (x : Dat) (f : Nat) : Option Ef :=
  match ti P t, x with
  | some ⟨_, _, _, _, .struct fs⟩, .agg cs => match fs[f]? with
    | some (off, ft) => match ti P ft with
      | some y => some { val := cut cs off y.sz y.agg cs.length, side := off + y.sz ≤ cs.length ∧ (y.agg = false → y.sz = 1) }
      | none => none
    | none => none
  | _, _ => none

def evIndex (P : Program) (t : TypeId) (x ix : Dat) : Option Ef :=
  match ti P t, x, ix with
  | some ⟨_, _, _, _, .array m e⟩, .agg cs, .int _ n => match ti P e with
    | some y => some { val := cut cs (n.toNat * y.sz) y.sz y.agg cs.length, side := 0 ≤ n ∧ n < m ∧ n.toNat * y.sz + y.sz ≤ cs.length ∧ (y.agg = false → y.sz = 1) }
    | none => none
  | some ⟨_, _, _, _, .str⟩, .str s, .int _ n => some { val := .int .u8 (s.data.toList.getD n.toNat 0).toNat, side := 0 ≤ n ∧ n < s.size }
  | _, _, _ => none

def mmStep (isMax : Bool) : Option Dat → Dat → Option Dat
  | some (.int k p), .int _ q => some (.int k (if isMax then (if q > p then q else p) else (if q < p then q else p)))
  | _, _ => none
def minMax (isMax : Bool) : List Dat → Option Dat
  | [] => none
  | x :: rest => rest.foldl (mmStep isMax) (some x)

def evClear (P : Program) (σ : St) (t : TypeId) (x : Dat) : Option Ef :=
  match ti P t with
  | some ⟨_, _, _, _, .slice e⟩ => match ti P e, x with
    | some _, .nil => some { val := .tup [] }
    | some y, .ref j off len st => match σ.h j with
      | some B => some { val := .tup [], rd := [j], wr := [(j, some { B with es := B.es.take off ++ List.replicate len y.zero ++ B.es.drop (off + len) })], side := st = y.sz ∧ B.st = y.sz ∧ B.fz = false ∧ off + len ≤ B.es.length ∧ 0 < y.sz ∧ y.zero.length = y.sz ∧ allOne y.zero = true }
      | none => none
    | _, _ => none
  | _ => none
def evBuiltin (P : Program) (σ : St) (i : Nat) (b : Builtin) (ats : Array TypeId) (args : List Dat) : Option Ef :=
  match b, ats.toList, args with
  | .len, [t], [x] => match ti P t, x with
    | some ⟨_, _, _, _, .array n _⟩, _ => some { val := .int .i64 n }
    | some ⟨_, _, _, _, .slice _⟩, .nil => some { val := .int .i64 0 }
    | some ⟨_, _, _, _, .slice _⟩, .list _ es => some { val := .int .i64 es.length }
    | some ⟨_, _, _, _, .slice _⟩, .ref _ _ len _ => some { val := .int .i64 len }
    | some ⟨_, _, _, _, .str⟩, .str s => some { val := .int .i64 s.size }
    | _, _ => none
  | .append, [t1, t2], [s, x] => evAppend P σ i t1 t2 s x
  | .clear, [t], [x] => evClear P σ t x
  | .min, _, l => (minMax false l).map fun v => { val := v }
  | .max, _, l => (minMax true l).map fun v => { val := v }
  | _, _, _ => none

/-- bytes, out of cells -/
def bytesD : List (List Dat) → Option (List Int)
  | [] => some []
  | [.int .u8 n] :: l => match bytesD l with
    | some r => some (n :: r)
    | none => none
  | _ :: _ => none
def evToStr (P : Program) (σ : St) (k : TK) (d : Dat) : Option Ef :=
  match d with
  | .str s => some { val := .str s }
  | d => match k with
    | .slice e => match ti P e, elems σ 1 d with
      | some ⟨_, _, _, _, .int .u8⟩, some (es, r, p) => match bytesD es with
        | some xs => some { val := .str (strOfNums xs), rd := r, side := p }
        | none => none
      | _, _ => none
    | _ => none

/-- all operations but calls of functions -/
def evOp (P : Program) (σ : St) (i : Nat) (o : Op) : Option Ef :=
  match o with
  | .move x | .assign x => some { val := σ.ev x }
  | .pick c a b => match σ.ev c with
    | .bool p => some { val := if p then σ.ev a else σ.ev b }
    | _ => none
  | .alloc e => match ti P e with
    | some x => some { val := .ptr (σ.n + i) 0 0 x.sz, wr := [(σ.n + i, some ⟨e, x.sz, false, [x.zero]⟩)], side := x.zero.length = x.sz ∧ allOne x.zero = true }
    | none => none
  | .box e v => match ti P e with
    | some x => some { val := .ptr (σ.n + i) 0 0 x.sz, wr := [(σ.n + i, some ⟨e, x.sz, false, [(σ.ev v).cells]⟩)], side := (σ.ev v).cells.length = x.sz ∧ allOne (σ.ev v).cells = true }
    | none => none
  | .build t parts => match ti P t with
    | some ⟨_, _, _, zero, .struct fs⟩ => match fillD (fun i => match fs[i]? with | some (off, ft) => (match ti P ft with | some y => some (off, y.sz) | none => none) | none => none) zero (parts.toList.map fun p => (p.1, σ.ev p.2)) with
      | some ds => some { val := .agg ds, side := ∀ p ∈ fs, (ti P p.2).isSome = true }
      | none => none
    | some ⟨_, _, _, zero, .array _ e⟩ => match ti P e with
      | some y => match fillD (fun i => some (i * y.sz, y.sz)) zero (parts.toList.map fun p => (p.1, σ.ev p.2)) with
        | some ds => some { val := .agg ds }
        | none => none
      | none => none
    | _ => none
  | .buildSlice t len parts => match ti P t with
    | some ⟨_, _, _, _, .slice e⟩ => match ti P e with
      | some y => some { val := .ref (σ.n + i) 0 len y.sz, wr := [(σ.n + i, some ⟨e, y.sz, false, parts.toList.map fun p => (σ.ev p.2).cells⟩)], side := parts.toList.map (·.1) = List.range len ∧ len * y.sz ≤ 16777216 ∧ y.zero.length = y.sz ∧ (∀ p ∈ parts.toList, (σ.ev p.2).cells.length = y.sz ∧ allOne (σ.ev p.2).cells = true) ∧ y.sz ≠ 0 }
      | none => none
    | _ => none
  | .load t a => match ti P t with
    | some x => evLoad σ x (σ.ev a)
    | none => none
  | .store t a v => match ti P t with
    | some x => evStore σ x (σ.ev a) (σ.ev v)
    | none => none
  | .nilCheck x => match σ.ev x with
    | .ptr i k j st => some { val := .ptr i k j st }
    | .rop cs j st => some { val := .rop cs j st }
    | _ => none
  | .binOp op t x y _ => evBin P t op (σ.ev x) (σ.ev y)
  | .unOp op _ x => evUn op (σ.ev x)
  | .convert src dst x => match ti P src with
    | some y => match ti P dst with
      | some ⟨_, _, _, _, .str⟩ => evToStr P σ y.d (σ.ev x)
      | some ⟨_, _, _, _, .int k⟩ => match σ.ev x with
        | .int _ n => some { val := .int k (k.wrap n) }
        | _ => none
      | _ => none
    | none => none
  | .makeFunc f first cap => some { val := .fn f (first.toList.map σ.ev) (cap.toList.map σ.ev) }
  | .makeSlice t l c => match ti P t with
    | some ⟨_, _, _, _, .slice e⟩ => match ti P e, σ.ev l, σ.ev c with
      | some y, .int _ a, .int _ b => some { val := .ref (σ.n + i) 0 a.toNat y.sz, wr := [(σ.n + i, some ⟨e, y.sz, false, List.replicate a.toNat y.zero⟩)], side := 0 ≤ a ∧ a = b ∧ y.bytes * b ≤ 281474976710656 ∧ b ≤ 9223372036854775807 ∧ y.zero.length = y.sz ∧ 0 < y.sz ∧ allOne y.zero = true }
      | _, _, _ => none
    | _ => none
  | .slice t x lo hi none => match ti P t with
    | some y => match evSlice σ.h y.d (σ.ev x) (lo.map σ.ev) (hi.map σ.ev) with
      | some e => some { e with side := e.side ∧ sliceOk P y.d (σ.ev x) }
      | none => none
    | none => none
  | .fieldAddr t x f => evFieldAddr P t (σ.ev x) f
  | .field t x f => evField P t (σ.ev x) f
  | .indexAddr t x ix => evIndexAddr P σ t (σ.ev x) (σ.ev ix)
  | .index t x ix => evIndex P t (σ.ev x) (σ.ev ix)
  | .extract x k => match σ.ev x with
    | .tup ds => some { val := ds.getD k (.oth undef), side := k < ds.length }
    | _ => none
  | .call { callee := .builtin b, args, argTypes } => evBuiltin P σ i b argTypes (args.toList.map σ.ev)
  | _ => none
end Go.Ab
