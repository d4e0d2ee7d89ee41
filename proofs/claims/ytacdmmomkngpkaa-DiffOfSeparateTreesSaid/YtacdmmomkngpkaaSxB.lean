/- The symbolic run of a body: what is to be shown of it, as a statement that the kernel reckons. No program in sight. -/
import Derived.Test.YtacdmmomkngpkaaSxA
namespace Go.Proofs.Ytacdmmomkngpkaa.Sx
open Go

/-- A run of an operation that asks nothing of the world. -/
def pureRun (P : Program) {α : Type} : Sem α → Option α
  | .pure a => some a
  | .program k => pureRun P (k P)
  | _ => none

def allVals : List At → Option (List Value)
  | [] => some []
  | .val v :: t => (allVals t).map (v :: ·)
  | _ :: _ => none
def valOf : SV → Option Value
  | .one (.at (.val v)) => some v
  | .one (.agg l) => (allVals l).map fun cs => .agg cs.toArray
  | _ => none
def lift : Value → SV
  | .agg cs => .one (.agg (cs.toList.map .val))
  | .tuple _ => .one (.at .any)
  | v => .one (.at (.val v))
def opnd (T : List SV) : Operand → SV
  | .tmp t => T.getD t (.one (.at .any))
  | .const v => lift v
  | .func f => .one (.at (.fn f []))
  | .global _ => .one (.at .any)
def vb (b : Bool) : SV := .one (.at (.val (.bool b)))
def vi (k : IntKind) (n : Int) : SV := .one (.at (.val (.int k n)))

def splice {α : Type} (l : List α) (off : Nat) (m : List α) : List α := l.take off ++ (m ++ l.drop (off + m.length))

def At.kill (n : Nat) (a : At) : At := if a.names.contains n then .any else a
def TV.kill (n : Nat) : TV → TV
  | .at a => .at (a.kill n)
  | .agg l => .agg (l.map (At.kill n))
def SV.kill (n : Nat) : SV → SV
  | .one x => .one (x.kill n)
  | .tup l => .tup (l.map (TV.kill n))

def setT (T : List SV) (dst : Option Nat) (s : SV) : List SV := match dst with
  | some d => T.set d s
  | none => T

def isAggD : TypeDesc → Bool
  | .struct _ | .array _ _ => true
  | _ => false

def cellTs (P : Program) : Nat → TypeId → List TypeId
  | 0, _ => []
  | d + 1, t => match P.underlying t with
    | some (.struct fs) => fs.toList.flatMap fun f => cellTs P d f.type
    | some (.array n e) => (List.replicate n (cellTs P d e)).flatten
    | _ => [t]

/-- Equality of two values without addresses, by their type. -/
def partV (P : Program) (t : TypeId) (cs : Array Value) (off : Nat) : Option Value :=
  match P.underlying t, P.info? t with
  | some d, some i => if isAggD d then some (.agg (cs.extract off (off + i.size))) else cs[off]?
  | _, _ => none
def eqFs (rec_ : TypeId → Value → Value → Option Bool) (P : Program) (xs ys : Array Value) : List Field → Option Bool
  | [] => some true
  | f :: fs => if f.name = "_" then none else
    match partV P f.type xs f.offset, partV P f.type ys f.offset with
    | some x, some y => match rec_ f.type x y, eqFs rec_ P xs ys fs with
      | some a, some b => some (a && b)
      | _, _ => none
    | _, _ => none
def eqT (P : Program) : Nat → TypeId → Value → Value → Option Bool
  | 0, _, _, _ => none
  | d + 1, t, x, y => match P.underlying t, x, y with
    | some (.int _), .int k a, .int k' b => if k = k' then some (a == b) else none
    | some .bool, .bool a, .bool b => some (a == b)
    | some (.struct fs), .agg xs, .agg ys => if P.stoodInHeld t then none else eqFs (eqT P d) P xs ys fs.toList
    | _, _, _ => none

def eqTop (P : Program) (t : TypeId) (x y : Value) : Option Bool := eqT P Op.maxDepth t x y

section
variable (C : Ctx)

def Chunk.kill {C : Ctx} (n : Nat) : Chunk C → Chunk C
  | .box cells => .box (cells.map (At.kill n))
  | c => c

/-- The kind of element of a slice type. -/
def elemEC (t : TypeId) : Option C.EC := match C.P.underlying t with
  | some (.slice e) => C.byT e
  | _ => none

/-- Is it the slice type of this kind of element? -/
def isEC (t : TypeId) (e : C.EC) : Bool := match elemEC C t with
  | some e' => match C.deq e' e with
    | isTrue _ => true
    | isFalse _ => false
  | none => false

def bytesOf (e : C.EC) : Nat := match C.P.info? (C.tid e) with
  | some i => i.bytes
  | none => 0

/-- A nil slice has a name of its own. -/
def nilFix (H : List (Chunk C)) (t : TypeId) (s : SV) : SV × List (Chunk C) :=
  match s with
  | .one (.at (.val (.slice none 0 0))) => match elemEC C t with
    | some e => (.one (.at (.slc H.length)), H ++ [.row true e []])
    | none => (s, H)
  | s => (s, H)

def nilCells (H : List (Chunk C)) : List At → List TypeId → List At × List (Chunk C)
  | a :: l, t :: ts => match nilFix C H t (.one (.at a)) with
    | (.one (.at b), H1) => let r := nilCells H1 l ts; (b :: r.1, r.2)
    | (_, H1) => let r := nilCells H1 l ts; (a :: r.1, r.2)
  | l, _ => (l, H)

/-- The arguments of a call: each nil slice has a name of its own. -/
def nilArgs (H : List (Chunk C)) : List TV → List TypeId → List TV × List (Chunk C)
  | x :: l, t :: ts => match nilFix C H t (.one x) with
    | (.one y, H1) => let r := nilArgs H1 l ts; (y :: r.1, r.2)
    | (_, H1) => let r := nilArgs H1 l ts; (x :: r.1, r.2)
  | l, _ => (l, H)

def okAt {C : Ctx} (H : List (Chunk C)) : At → Bool
  | .any => false
  | .val (.agg _) | .val (.tuple _) => false
  | .val _ => true
  | .slc n => match H[n]? with
    | some (.row _ _ _) => true
    | _ => false
  | _ => true

/-- The cells of a value that is stored or boxed. -/
def svCells {C : Ctx} (H : List (Chunk C)) : SV → Option (List At)
  | .one (.at a) => if okAt H a then some [a] else none
  | .one (.agg l) => some l
  | .tup _ => none

def cellAt {C : Ctx} (H : List (Chunk C)) : SV → Option (List At × Nat)
  | .one (.at (.ptr n off)) => match H[n]? with
    | some (.box cells) => some (cells, off)
    | _ => none
  | .one (.at (.eptr n i sz off)) => match H[n]? with
    | some (.row _ e l) => if sz = C.sz e then some ((C.enc e (l.getD i (C.dft e))).map .val, off) else none
    | _ => none
  | _ => none

def loadS (H : List (Chunk C)) (t : TypeId) (x : SV) : Option SV :=
  match cellAt H x, C.P.underlying t, C.P.info? t with
  | some (cells, off), some d, some i =>
    if isAggD d then (if off + i.size ≤ cells.length then some (.one (.agg ((cells.drop off).take i.size))) else none)
    else match cells[off]? with
      | some a => some (.one (.at a))
      | none => none
  | _, _, _ => none

def fieldS (t : TypeId) (f : Nat) : Option Nat := match C.P.underlying t with
  | some (.struct fs) => match fs[f]? with
    | some fd => match C.P.info? fd.type with
      | some i => if i.size = 0 then none else some fd.offset
      | none => none
    | none => none
  | _ => none

def partS (t : TypeId) (cells : List At) (off : Nat) : Option SV :=
  match C.P.underlying t, C.P.info? t with
  | some d, some i => if isAggD d then (if off + i.size ≤ cells.length then some (.one (.agg ((cells.drop off).take i.size))) else none)
    else match cells[off]? with
      | some a => some (.one (.at a))
      | none => none
  | _, _ => none

def eqS (t : TypeId) (x y : SV) : Option Bool :=
  match x, y with
  | .one (.at (.ptr _ _)), .one (.at (.val (.pointer none))) => match C.P.underlying t with
    | some (.pointer _) => some false
    | _ => none
  | .one (.at (.val (.pointer none))), .one (.at (.ptr _ _)) => match C.P.underlying t with
    | some (.pointer _) => some false
    | _ => none
  | .one (.agg l), .one (.agg m) => match allVals l, allVals m with
    | some xs, some ys => if C.P.eqGuardType C.P.depth t then none else eqTop C.P t (.agg xs.toArray) (.agg ys.toArray)
    | _, _ => none
  | _, _ => none

def pureOp (T : List SV) (o : Oper) : Option Value :=
  match pureRun C.P (execOp (fun x => (valOf (opnd T x)).getD undef) o) with
  | some (.value v) => some v
  | _ => none

def isConst : Operand → Bool
  | .const _ => true
  | _ => false

abbrev Q3 (C : Ctx) := Option (List Prop × SV × List (Chunk C))

def binS (T : List SV) (H : List (Chunk C)) (o : Oper) (op : BinOp) (t : TypeId) (x y : Operand) : Q3 C :=
  match valOf (opnd T x), valOf (opnd T y), op with
  | some (.int k a), some (.int k' b), .quo => if k = k' then (if isConst y then (pureOp C T o).map fun v => ([], lift v, H) else some ([b ≠ 0], vi k (k.wrap (a.tdiv b)), H)) else none
  | some (.int k a), some (.int k' b), .rem => if k = k' then (if isConst y then (pureOp C T o).map fun v => ([], lift v, H) else some ([b ≠ 0], vi k (a.tmod b), H)) else none
  | some (.int k a), some (.int _ b), .shl => if isConst y then (pureOp C T o).map fun v => ([], lift v, H) else some ([0 ≤ b], vi k (k.wrap (a * 2 ^ (min b.toNat k.bits))), H)
  | some (.int k a), some (.int _ b), .shr => if isConst y then (pureOp C T o).map fun v => ([], lift v, H) else some ([0 ≤ b], vi k (a.fdiv (2 ^ (min b.toNat k.bits))), H)
  | some (.agg _), some (.agg _), .eql => (eqS C t (opnd T x) (opnd T y)).map fun b => ([], vb b, H)
  | some (.agg _), some (.agg _), .neq => (eqS C t (opnd T x) (opnd T y)).map fun b => ([], vb (!b), H)
  | some _, some _, _ => (pureOp C T o).map fun v => ([], lift v, H)
  | _, _, .eql => (eqS C t (opnd T x) (opnd T y)).map fun b => ([], vb b, H)
  | _, _, .neq => (eqS C t (opnd T x) (opnd T y)).map fun b => ([], vb (!b), H)
  | _, _, _ => none

def pickS (H : List (Chunk C)) (t : Bool) (a b : SV) : Q3 C :=
  match a, b with
  | .one (.at (.val (.bool x))), .one (.at (.val (.bool y))) => some ([], vb (match t with | true => x | false => y), H)
  | a, b => match t with
    | true => some ([], a, H)
    | false => some ([], b, H)

def buildS (H : List (Chunk C)) (place : Nat → Option (Nat × Nat)) : List At → List (Nat × SV) → Option (List At)
  | zero, [] => some zero
  | zero, (i, s) :: rest => match place i, svCells H s with
    | some (off, size), some cs => if cs.length = size ∧ off + cs.length ≤ zero.length then buildS H place (splice zero off cs) rest else none
    | _, _ => none

def buildOK (t : TypeId) : Bool := match C.P.underlying t with
  | some (.struct fs) => fs.toList.all (fun f => (C.P.info? f.type).isSome)
  | some (.array _ e) => (C.P.info? e).isSome
  | _ => false

def placeS (t : TypeId) (i : Nat) : Option (Nat × Nat) := match C.P.underlying t with
  | some (.struct fs) => match fs[i]? with
    | some f => (C.P.info? f.type).map fun j => (f.offset, j.size)
    | none => none
  | some (.array _ e) => (C.P.info? e).map fun j => (i * j.size, j.size)
  | _ => none

def zeroS (t : TypeId) : Option (List At) := match C.P.info? t with
  | some i => i.zero.map fun z => z.cells.toList.map .val
  | none => none

def trueInt : SV → Option Int
  | .one (.at (.val (.int _ n))) => some n
  | _ => none

def caps : List SV → Option (List Nat)
  | [] => some []
  | .one (.at (.ptr n 0)) :: t => (caps t).map (n :: ·)
  | _ => none

def atsOf : List SV → Option (List TV)
  | [] => some []
  | .one x :: t => (atsOf t).map (x :: ·)
  | _ => none

/-- An operation that leaves the world alone: what it asks, what it gives, and the chunks behind it. -/
def quietS (T : List SV) (H : List (Chunk C)) (o : Oper) : Q3 C :=
  match o.op with
  | .move x | .assign x => let r := nilFix C H o.type (opnd T x); some ([], r.1, r.2)
  | .pick c a b => match opnd T c with
    | .one (.at (.val (.bool t))) => pickS C H t (opnd T a) (opnd T b)
    | _ => none
  | .nilCheck x => match opnd T x with
    | .one (.at (.ptr n k)) => some ([], .one (.at (.ptr n k)), H)
    | .one (.at (.eptr n i sz k)) => some ([], .one (.at (.eptr n i sz k)), H)
    | .one (.at (.fn f cs)) => some ([], .one (.at (.fn f cs)), H)
    | _ => none
  | .binOp op t x y _ => binS C T H o op t x y
  | .unOp _ _ x => match valOf (opnd T x) with
    | some _ => (pureOp C T o).map fun v => ([], lift v, H)
    | none => none
  | .convert _ _ x => match valOf (opnd T x) with
    | some _ => (pureOp C T o).map fun v => ([], lift v, H)
    | none => none
  | .load t x => (loadS C H t (opnd T x)).map fun s => ([], s, H)
  | .fieldAddr t x f => match fieldS C t f, opnd T x with
    | some d, .one (.at (.ptr n k)) => some ([], .one (.at (.ptr n (k + d))), H)
    | some d, .one (.at (.eptr n i sz k)) => some ([], .one (.at (.eptr n i sz (k + d))), H)
    | _, _ => none
  | .field t x f => match C.P.underlying t, opnd T x with
    | some (.struct fs), .one (.agg l) => match fs[f]? with
      | some fd => (partS C fd.type l fd.offset).map fun s => ([], s, H)
      | none => none
    | _, _ => none
  | .index t x i => match C.P.underlying t, opnd T x, opnd T i with
    | some (.array n e), .one (.agg l), .one (.at (.val (.int _ j))) => match C.P.info? e with
      | some ei => (partS C e l (j.toNat * ei.size)).map fun s => ([0 ≤ j, j < (n : Int)], s, H)
      | none => none
    | _, _, _ => none
  | .indexAddr t x i => match opnd T x, opnd T i with
    | .one (.at (.slc n)), .one (.at (.val (.int _ j))) => match H[n]?, elemEC C t with
      | some (.row _ e l), some e' => match C.deq e' e with
        | isTrue _ => some ([0 ≤ j, j < (l.length : Int)], .one (.at (.eptr n j.toNat (C.sz e) 0)), H)
        | isFalse _ => none
      | _, _ => none
    | .one (.at (.ptr n k)), .one (.at (.val (.int _ j))) => match C.P.underlying t with
      | some (.array m e) => match C.P.info? e with
        | some ei => some ([0 ≤ j, j < (m : Int)], .one (.at (.ptr n (k + j.toNat * ei.size))), H)
        | none => none
      | _ => none
    | _, _ => none
  | .slice t x lo hi mx => match opnd T x, mx with
    | .one (.at (.slc n)), none => match H[n]? with
      | some (.row own e l) => if isEC C t e then
        let a : Option Int := match lo with | some i => trueInt (opnd T i) | none => some 0
        let b : Option Int := match hi with | some i => trueInt (opnd T i) | none => some l.length
        match a, b with
        | some a, some b => match own with
          | false => some ([0 ≤ a, a ≤ b, b ≤ (l.length : Int)], .one (.at (.slc H.length)), H ++ [.row false e ((l.take b.toNat).drop a.toNat)])
          | true => some ([0 ≤ a, a ≤ b, b ≤ (l.length : Int)], .one (.at (.slc H.length)), (H.set n (.row false e l)) ++ [.row false e ((l.take b.toNat).drop a.toNat)])
        | _, _ => none
        else none
      | _ => none
    | _, _ => none
  | .extract x k => match opnd T x with
    | .tup l => (l[k]?).map fun s => ([], .one s, H)
    | _ => none
  | .build t parts => match (if buildOK C t then zeroS C t else none) with
    | some z => match buildS C H (placeS C t) z (parts.toList.map fun p => (p.1, opnd T p.2)) with
      | some cells => let r := nilCells C H cells (cellTs C.P 20 t); some ([], .one (.agg r.1), r.2)
      | none => none
    | none => none
  | .makeFunc (.func f) fs cs => match fs.toList with
    | [] => (caps (cs.toList.map (opnd T))).map fun l => ([], .one (.at (.fn f l)), H)
    | _ => none
  | .call c => match c.callee with
    | .builtin .len => match c.args.toList with
      | [x] => match opnd T x with
        | .one (.at (.slc n)) => match H[n]?, (c.argTypes[0]?).bind C.P.underlying with
          | some (.row _ _ l), some (.slice _) => some ([], vi .i64 l.length, H)
          | _, _ => none
        | s => match valOf s with
          | some _ => (pureOp C T o).map fun v => ([], lift v, H)
          | none => none
      | _ => none
    | .builtin .min => match c.args.toList with
      | [x, y] => match valOf (opnd T x), valOf (opnd T y) with
        | some (.int _ _), some (.int _ _) => (pureOp C T o).map fun v => ([], lift v, H)
        | _, _ => none
      | _ => none
    | .builtin .max => match c.args.toList with
      | [x, y] => match valOf (opnd T x), valOf (opnd T y) with
        | some (.int _ _), some (.int _ _) => (pureOp C T o).map fun v => ([], lift v, H)
        | _, _ => none
      | _ => none
    | _ => none
  | _ => none

def reqs : List Prop → Prop → Prop
  | [], k => k
  | p :: ps, k => p ∧ reqs ps k

def conj : List Prop → Prop
  | [] => True
  | [p] => p
  | p :: q => p ∧ conj q

/-- What a call asks of the caller, and what it leaves: the result, the chunks, the names that it touched. -/
abbrev Tfm := List TV → List (Chunk C) → (SV → List (Chunk C) → List Nat → Prop) → Prop

def getG (Γ : List (FuncId × Tfm C)) (f : FuncId) : Option (Tfm C) := match Γ with
  | [] => none
  | (g, t) :: r => if g = f then some t else getG r f

def isOwn {C : Ctx} (H : List (Chunk C)) (n : Nat) : Bool := match H[n]? with
  | some (.row true _ _) => true
  | _ => false

def dcdN (e : C.EC) : Nat → List Value → Option (List (C.α e))
  | 0, _ => some []
  | n + 1, vs => match C.dcd e (vs.take (C.sz e)), dcdN e n (vs.drop (C.sz e)) with
    | some x, some xs => some (x :: xs)
    | _, _ => none

/-- An operation that makes memory, writes it, or calls. The list that K is handed: the names that were touched. -/
def effS (Γ : List (FuncId × Tfm C)) (trunc : Nat → Bool) (T : List SV) (H : List (Chunk C)) (o : Oper) (K : List Nat → List SV → List (Chunk C) → Prop) : Prop :=
  match o.op with
  | .alloc t => match zeroS C t with
    | some z => let r := nilCells C H z (cellTs C.P 20 t); K [] (setT T o.dst (.one (.at (.ptr r.2.length 0)))) (r.2 ++ [.box r.1])
    | none => False
  | .box _ x => match svCells H (opnd T x) with
    | some cs => K [] (setT T o.dst (.one (.at (.ptr H.length 0)))) (H ++ [.box cs])
    | none => False
  | .store t x y => match opnd T x, svCells H (opnd T y), C.P.info? t with
    | .one (.at (.ptr n off)), some vs, some i => match H[n]? with
      | some (.box cells) => if vs.length = i.size ∧ off + vs.length ≤ cells.length ∧ vs.all (okAt H) then K [n] (setT T o.dst (.one (.at .any))) (H.set n (.box (splice cells off vs))) else False
      | _ => False
    | .one (.at (.eptr n j sz off)), some vs, some i => match H[n]?, allVals vs with
      | some (.row true e l), some us => if sz = C.sz e ∧ vs.length = i.size ∧ off + vs.length ≤ C.sz e ∧ vs.all (okAt H) then
          (match C.dcd e (splice (C.enc e (l.getD j (C.dft e))) off us) with
          | some x => K [n] (setT T o.dst (.one (.at .any))) (H.set n (.row true e (l.set j x)))
          | none => False) else False
      | _, _ => False
    | _, _, _ => False
  | .makeSlice t l c => match elemEC C t, opnd T l, opnd T c with
    | some e, .one (.at (.val (.int _ n))), .one (.at (.val (.int _ m))) =>
      0 ≤ n ∧ n ≤ m ∧ m * (bytesOf C e : Int) ≤ 140737488355328 ∧ K [] (setT T o.dst (.one (.at (.slc H.length)))) (H ++ [.row true e (List.replicate n.toNat (C.dft e))])
    | _, _, _ => False
  | .buildSlice t n parts => match elemEC C t with
    | some e => match (if n * C.sz e ≤ 16777216 then buildS C H (fun i => some (i * C.sz e, C.sz e)) ((flat C e (List.replicate n (C.dft e))).map .val) (parts.toList.map fun p => (p.1, opnd T p.2)) else none) with
      | some cells => match allVals cells with
        | some vs => match dcdN C e n vs with
          | some xs => K [] (setT T o.dst (.one (.at (.slc H.length)))) (H ++ [.row true e xs])
          | none => False
        | none => False
      | none => False
    | none => False
  | .slice t x none (some hi) none => if trunc (o.dst.getD 0) then (match opnd T x, trueInt (opnd T hi) with
    | .one (.at (.slc n)), some b => match H[n]? with
      | some (.row true e l) => if isEC C t e then 0 ≤ b ∧ b ≤ (l.length : Int) ∧ K [n] (setT (T.map (SV.kill n)) o.dst (.one (.at (.slc n)))) ((H.map (Chunk.kill n)).set n (.row true e (l.take b.toNat))) else False
      | _ => False
    | _, _ => False) else False
  | .call c => match c.callee with
    | .builtin .append => match c.args.toList, c.argTypes.toList with
      | [s, x], [t, t'] => if t = t' then (
        let r := nilFix C H t (opnd T s)
        match r.1, elemEC C t with
        | .one (.at (.slc n)), some e0 => match r.2[n]? with
          | some (.row true e l) => match C.deq e0 e with
            | isFalse _ => False
            | isTrue _ => match opnd T x with
              | .one (.at (.val (.slice none 0 0))) => K [n] (setT (T.map (SV.kill n)) o.dst (.one (.at (.slc n)))) ((r.2.map (Chunk.kill n)).set n (.row true e l))
              | .one (.at (.slc m)) => if m = n then False else (match r.2[m]? with
                | some (.row _ e' l') => match C.deq e' e with
                  | isTrue h => (l.length + l'.length) * bytesOf C e ≤ 140737488355328 ∧ K [n] (setT (T.map (SV.kill n)) o.dst (.one (.at (.slc n)))) ((r.2.map (Chunk.kill n)).set n (.row true e (l ++ h ▸ l')))
                  | isFalse _ => False
                | _ => False)
              | _ => False
          | _ => False
        | _, _ => False) else False
      | _, _ => False
    | .value f => match opnd T f, atsOf (c.args.toList.map (opnd T)) with
      | .one (.at (.fn g cs)), some xs => match getG C Γ g with
        | some t => let q := nilArgs C H xs c.argTypes.toList; t (q.1 ++ cs.map fun n => .at (.ptr n 0)) q.2 fun r H' ts => K ts (setT ((ts.filter (isOwn q.2)).foldl (fun T n => T.map (SV.kill n)) T) o.dst r) H'
        | none => False
      | _, _ => False
    | _ => False
  | _ => False

/-- Parting on a test. -/
def brS (b : Bool) (t f : Prop) : Prop := match b with
  | true => t
  | false => f

/-- The slot of an operation that is left out. -/
def undefS : SV := .one (.at (.val (.tuple #[])))

/-- A guard: is the operation carried out? -/
def guardS (ops : Array Oper) (T : List SV) (o : Oper) (yes : List SV → Prop) (no : List SV → Prop) : Prop :=
  match o.guard with
  | none => yes T
  | some (j, want) => match (ops[j]?).bind (·.dst) with
    | some d => match T.getD d (.one (.at .any)) with
      | .one (.at (.val (.bool b))) => brS b (if want then yes (T.set d (vb true)) else no (T.set d (vb true))) (if want then no (T.set d (vb false)) else yes (T.set d (vb false)))
      | .one (.at (.val (.tuple _))) => no T
      | _ => False
    | none => False

def stepS (Γ : List (FuncId × Tfm C)) (trunc : Nat → Bool) (T : List SV) (H : List (Chunk C)) (o : Oper) (K : List Nat → List SV → List (Chunk C) → Prop) : Prop :=
  match o.op with
  | .slice _ _ _ _ _ => if trunc (o.dst.getD 0) then effS C Γ trunc T H o K else (match quietS C T H o with
    | some (ps, s, H') => reqs ps (K [] (setT T o.dst s) H')
    | none => False)
  | .assign x => if trunc (o.dst.getD 0) then (match opnd T x with
    | .one (.at (.slc n)) => match H[n]? with
      | some (.row false e l) => K [] (setT T o.dst (.one (.at (.slc H.length)))) (H ++ [.row false e l])
      | _ => (match quietS C T H o with
        | some (ps, s, H') => reqs ps (K [] (setT T o.dst s) H')
        | none => False)
    | _ => False) else (match quietS C T H o with
    | some (ps, s, H') => reqs ps (K [] (setT T o.dst s) H')
    | none => False)
  | _ => match quietS C T H o with
    | some (ps, s, H') => reqs ps (K [] (setT T o.dst s) H')
    | none => effS C Γ trunc T H o K

def seqS (Γ : List (FuncId × Tfm C)) (trunc : Nat → Bool) (ops : Array Oper) (K : List Nat → List SV → List (Chunk C) → Prop) : List Oper → List Nat → List SV → List (Chunk C) → Prop
  | [], W, T, H => K W T H
  | o :: rest, W, T, H => guardS ops T o (fun T => stepS C Γ trunc T H o fun ts T' H' => seqS Γ trunc ops K rest (ts ++ W) T' H')
      (fun T => seqS Γ trunc ops K rest W (setT T o.dst undefS) H)

/-- Which name an operation reads. -/
def readName (T : List SV) (o : Oper) : Option Nat := match o.op with
  | .load _ x => match opnd T x with
    | .one (.at (.ptr n _)) => some n
    | .one (.at (.eptr n _ _ _)) => some n
    | _ => none
  | _ => none

def isLoad (o : Oper) : Bool := match o.op with
  | .load _ _ => true
  | _ => false

/-- Does an operation of this kind leave the world alone? -/
def quietK (trunc : Nat → Bool) (o : Oper) : Bool := match o.op with
  | .slice _ _ _ _ _ => !trunc (o.dst.getD 0)
  | .alloc _ | .box _ _ | .store _ _ _ | .makeSlice _ _ _ | .buildSlice _ _ _ => false
  | .call c => match c.callee with
    | .builtin .len | .builtin .min | .builtin .max => true
    | _ => false
  | _ => true

/-- The operations with an effect that wait for every load of the region. -/
def lateS (trunc : Nat → Bool) (ops : Array Oper) (j : Nat) : Bool := match ops[j]? with
  | none => false
  | some p => !quietK trunc p && (List.range ops.size).all fun i => match ops[i]? with
    | some o => !isLoad o || p.after.any (fun e => e.on == i && Region.binds .any e)
    | none => true

/-- May the operation be taken first: it is quiet, and reads a name that stays as it is. -/
def takeS (T : List SV) (Z : List Nat) (trunc : Nat → Bool) (o : Oper) : Bool :=
  quietK trunc o &&
  (match readName T o with
  | some n => Z.contains n
  | none => true)

def firstTake (T : List SV) (Z : List Nat) (trunc : Nat → Bool) (ops : Array Oper) (listed : Array Bool) : List Nat → Option Nat
  | [] => none
  | i :: r => match ops[i]? with
    | some o => if takeS T Z trunc o && Region.free .any ops listed i then some i else firstTake T Z trunc ops listed r
    | none => none

def anyS (Γ : List (FuncId × Tfm C)) (trunc : Nat → Bool) (ops : Array Oper) (Z : List Nat) (K : List Nat → List SV → List (Chunk C) → Prop) : Nat → Array Bool → List Nat → List SV → List (Chunk C) → Prop
  | 0, listed, W, T, H => match Region.ready .any ops listed with
    | [] => K W T H
    | _ => False
  | fuel + 1, listed, W, T, H => match Region.ready .any ops listed with
    | [] => K W T H
    | r :: rs => match firstTake T Z trunc ops listed (r :: rs) with
      | some i => match ops[i]? with
        | some o => guardS ops T o (fun T => match (if takeS T Z trunc o then quietS C T H o else none) with
            | some (ps, s, H') => reqs ps (anyS Γ trunc ops Z K fuel (listed.setIfInBounds i true) W (setT T o.dst s) H')
            | none => False)
          (fun T => anyS Γ trunc ops Z K fuel (listed.setIfInBounds i true) W (setT T o.dst undefS) H)
        | none => False
      | none => conj ((r :: rs).map fun i => (match ops[i]? with
        | some o => guardS ops T o (fun T => stepS C Γ trunc T H o fun ts T' H' => (if lateS trunc ops i || !(ts.any Z.contains) then anyS Γ trunc ops Z K fuel (listed.setIfInBounds i true) (ts ++ W) T' H' else False))
          (fun T => anyS Γ trunc ops Z K fuel (listed.setIfInBounds i true) W (setT T o.dst undefS) H)
        | none => False))

/-- The names that the region may hand on or change besides its late stores: those of its calls' arguments, of its appends. -/
def rootOf (T : List SV) (ops : Array Oper) : Nat → Nat → List Nat
  | 0, _ => []
  | d + 1, t => match ops.toList.find? (fun o => o.dst == some t) with
    | some o => match o.op with
      | .move (.tmp u) | .assign (.tmp u) | .nilCheck (.tmp u) | .fieldAddr _ (.tmp u) _ => rootOf T ops d u
      | .load _ (.tmp u) => rootOf T ops d u
      | _ => []
    | none => (T.getD t (.one (.at .any))).names

def handedS (quiet : List FuncId) (T : List SV) (ops : Array Oper) : List Nat := ops.toList.flatMap fun o => match o.op with
  | .call c => match c.callee with
    | .builtin .append => c.args.toList.flatMap fun x => match x with | .tmp t => rootOf T ops 20 t | _ => []
    | .value (.func g) => if quiet.contains g then [] else c.args.toList.flatMap fun x => match x with | .tmp t => rootOf T ops 20 t | _ => []
    | .value _ => c.args.toList.flatMap fun x => match x with | .tmp t => rootOf T ops 20 t | _ => []
    | _ => []
  | _ => []

def subNames {C : Ctx} (H : List (Chunk C)) (n : Nat) : List Nat := match H[n]? with
  | some c => c.names
  | none => []
def reachN {C : Ctx} (H : List (Chunk C)) : Nat → List Nat → List Nat
  | 0, l => l
  | d + 1, l => l ++ reachN H d (l.flatMap (subNames H))

/-- What stores that do not wait for all loads write. -/
def storeS (trunc : Nat → Bool) (T : List SV) (ops : Array Oper) : List Nat := (List.range ops.size).flatMap fun i => match ops[i]? with
  | some o => (match o.op with
    | .store _ (.tmp t) _ => (match lateS trunc ops i with
      | true => []
      | false => rootOf T ops 20 t)
    | _ => [])
  | none => []
/-- What the region's truncating slices cut. -/
def truncS (trunc : Nat → Bool) (T : List SV) (ops : Array Oper) : List Nat := ops.toList.flatMap fun o => match o.op with
  | .slice _ (.tmp t) _ _ _ => if trunc (o.dst.getD 0) then rootOf T ops 20 t else []
  | _ => []
def stayS {C : Ctx} (quiet : List FuncId) (trunc : Nat → Bool) (T : List SV) (H : List (Chunk C)) (ops : Array Oper) : List Nat :=
  let bad := reachN H 3 (handedS quiet T ops ++ truncS trunc T ops) ++ storeS trunc T ops
  (List.range H.length).filter fun n => (!bad.contains n) && (match H[n]? with | some (.box _) | some (.row _ _ _) => true | _ => false)
end

inductive Ex where
  | normal
  | exit (id : Nat)
  | ret

/-- A place where the run goes on from a state of a given form: a loop's head, or a place where ways meet. -/
structure Inv (C : Ctx) where
  X : Type
  sl : List Nat
  tf : X → List SV
  hf : X → List (Chunk C)
  μ : X → Nat := fun _ => 0
  wr : List Nat := []
  rel : List SV → List (Chunk C) → X → Prop := fun _ _ _ => True

structure Ann (C : Ctx) where
  Γ : List (FuncId × Tfm C)
  inv : Nat → Option (Inv C) := fun _ => none
  trunc : Nat → Bool := fun _ => false
  quiet : List FuncId := []
  rounds : Nat → Nat := fun _ => 0
  base : Nat := 0

def headId : Code → Nat
  | .region id _ _ => id
  | .seq a _ => headId a
  | .cond _ a _ => headId a
  | .block _ b => headId b
  | .loop b => headId b
  | .scope b => headId b
  | _ => 0

/-- A cut's key: the first region of the code behind it; where that has none, the first region of the code ahead of it. -/
def cutKey (a b : Code) : Nat := match headId b with
  | 0 => 2000 + headId a
  | n => 1000 + n

def readsOp (o : Op) : List Nat := o.operands.toList.filterMap fun x => match x with | .tmp t => some t | _ => none
def readsC : Code → List Nat
  | .region _ ops _ => ops.toList.flatMap fun o => readsOp o.op
  | .seq a b => readsC a ++ readsC b
  | .cond c a b => (match c with | .tmp t => [t] | _ => []) ++ (readsC a ++ readsC b)
  | .block _ b => readsC b
  | .loop b => readsC b
  | _ => []
def writesC : Code → List Nat
  | .region _ ops _ => ops.toList.filterMap (·.dst)
  | .seq a b => writesC a ++ writesC b
  | .cond _ a b => writesC a ++ writesC b
  | .block _ b => writesC b
  | .loop b => writesC b
  | _ => []

/-- The blocks around that the code may leave. -/
def escC : Code → List Nat
  | .seq a b => escC a ++ escC b
  | .cond _ a b => escC a ++ escC b
  | .block id b => (escC b).filter (fun n => n != id)
  | .loop b => escC b
  | .exit id => [id]
  | _ => []
def exitsC (c : Code) : Bool := match escC c with
  | [] => false
  | _ => true
/-- What is surely written, where the code comes to its end. -/
def mustC : Code → List Nat
  | .region _ ops _ => ops.toList.filterMap (·.dst)
  | .seq a b => mustC a ++ mustC b
  | .block _ b => if exitsC b then [] else mustC b
  | .cond _ a b => if exitsC a || exitsC b then [] else (mustC a).filter (mustC b).contains
  | _ => []
def needO : List Oper → List Nat → List Nat
  | [], _ => []
  | o :: l, wr => (readsOp o.op).filter (fun n => !wr.contains n) ++ needO l (match o.dst with | some d => d :: wr | none => wr)
/-- What is read ahead of being written. -/
def needC : Code → List Nat
  | .region _ ops _ => needO ops.toList []
  | .seq a b => needC a ++ (needC b).filter (fun n => !(mustC a).contains n)
  | .cond c a b => (match c with | .tmp t => [t] | _ => []) ++ (needC a ++ needC b)
  | .block _ b => needC b
  | .loop b => needC b
  | _ => []
def liveC (c : Code) (lv : Nat → Bool) (n : Nat) : Bool := (needC c).contains n || (lv n && (exitsC c || !(mustC c).contains n))

def At.le (a b : At) : Prop := match b with
  | .any => True
  | .ptr n k => match a with | .ptr m j => if n = m ∧ k = j then True else False | _ => False
  | .slc n => match a with | .slc m => if n = m then True else False | _ => False
  | .val v => match a with | .val u => u = v | _ => False
  | b => a = b
def lesAt : List At → List At → Prop
  | [], [] => True
  | a :: l, b :: m => match b with
    | .any => lesAt l m
    | b => At.le a b ∧ lesAt l m
  | _, _ => False
def SV.le (a b : SV) : Prop := match b with
  | .one (.at y) => match y with
    | .any => True
    | y => match a with
      | .one (.at x) => At.le x y
      | _ => False
  | .one (.agg m) => match a with
    | .one (.agg l) => lesAt l m
    | _ => False
  | b => a = b
def Chunk.le {C : Ctx} (a b : Chunk C) : Prop := match b with
  | .gone => True
  | .box m => match a with
    | .box l => lesAt l m
    | _ => False
  | .row o' e' l' => match a with
    | .row o e l => if (!o' || o) then (match C.deq e e' with
      | isTrue h => (h ▸ l) = l'
      | isFalse _ => False) else False
    | _ => False
  | .abs y => match a with
    | .abs x => x = y
    | _ => False

/-- The slots of a state at such a place: those of the list as it says, those that live on and are not written as they are. -/
def maskT (live : Nat → Bool) (T : List SV) (sl : List Nat) (vs : List SV) : List SV :=
  (sl.zip vs).foldl (fun T p => T.set p.1 p.2) ((List.range T.length).map fun i => if live i then T.getD i (.one (.at .any)) else .one (.at .any))

def lesT : List SV → List SV → Prop
  | [], [] => True
  | a :: l, b :: m => match b with
    | .one (.at .any) => lesT l m
    | b => SV.le a b ∧ lesT l m
  | _, _ => False
def lesH {C : Ctx} : List (Chunk C) → List (Chunk C) → Prop
  | _, [] => True
  | a :: l, b :: m => Chunk.le a b ∧ lesH l m
  | [], _ => False

section
variable {C : Ctx}
def idxOf (n : Nat) : List Nat → Option Nat
  | [] => none
  | m :: l => if m = n then some 0 else (idxOf n l).map (· + 1)

def allIdx (ρ : Nat → Option Nat) : List Nat → Option (List Nat)
  | [] => some []
  | n :: l => match ρ n, allIdx ρ l with
    | some m, some r => some (m :: r)
    | _, _ => none

def At.ren (ρ : Nat → Option Nat) : At → At
  | .any => .any
  | .val v => .val v
  | .ptr n off => match ρ n with
    | some m => .ptr m off
    | none => .any
  | .eptr n i sz off => match ρ n with
    | some m => .eptr m i sz off
    | none => .any
  | .slc n => match ρ n with
    | some m => .slc m
    | none => .any
  | .fn f cs => match allIdx ρ cs with
    | some l => .fn f l
    | none => .any
def TV.ren (ρ : Nat → Option Nat) : TV → TV
  | .at x => .at (x.ren ρ)
  | .agg l => .agg (l.map (At.ren ρ))
def SV.ren (ρ : Nat → Option Nat) : SV → SV
  | .one x => .one (x.ren ρ)
  | .tup l => .tup (l.map (TV.ren ρ))
def Chunk.ren (ρ : Nat → Option Nat) : Chunk C → Chunk C
  | .box l => .box (l.map (At.ren ρ))
  | c => c

def pickH (τ : List Nat) (H : List (Chunk C)) : List (Chunk C) := τ.map fun n => (H.getD n .gone).ren (fun n => idxOf n τ)
end

section
variable (C : Ctx) (A : Ann C)

def invS (c : Code) (lv : Nat → Bool) (T : List SV) (i : Inv C) (x : i.X) : List SV :=
  maskT (fun n => lv n && !(writesC c).contains n) T i.sl (i.tf x)

/-- A loop: its first rounds one by one, then by its invariant. -/
def unroll (f : (List Nat → List SV → List (Chunk C) → Prop) → List Nat → List SV → List (Chunk C) → Prop) (base : List Nat → List SV → List (Chunk C) → Prop) : Nat → List Nat → List SV → List (Chunk C) → Prop
  | 0, W, T, H => base W T H
  | k + 1, W, T, H => f (unroll f base k) W T H

/-- Do the state's names stand for chunks, and are the first chunks still there? -/
def okNames {C : Ctx} (base : Nat) (T : List SV) (H : List (Chunk C)) : Bool :=
  decide (base ≤ H.length) && T.all (fun s => s.names.all fun m => decide (m < H.length)) && H.all (fun c => c.names.all fun m => decide (m < H.length))

/-- The first chunks that were not touched are still there. -/
def okBase {C : Ctx} (base : Nat) (wr : List Nat) (H : List (Chunk C)) : Bool :=
  (List.range base).all fun n => wr.contains n || (match H[n]? with | some .gone => false | some _ => true | none => false)

/-- A slot that holds the number n, or a truth value. -/
def slotI (T : List SV) (s : Nat) (n : Int) : Prop := match T.getD s (.one (.at .any)) with
  | .one (.at (.val (.int _ m))) => m = n
  | _ => False
def slotB (T : List SV) (s : Nat) (b : Bool) : Prop := match T.getD s (.one (.at .any)) with
  | .one (.at (.val (.bool c))) => c = b
  | _ => False

/-- Which name of the state each name of the form stands for. -/
def At.pairs (a b : At) : List (Nat × Nat) := match a, b with
  | .slc n, .slc m => [(m, n)]
  | .ptr n _, .ptr m _ => [(m, n)]
  | .eptr n _ _ _, .eptr m _ _ _ => [(m, n)]
  | .fn _ cs, .fn _ ds => ds.zip cs
  | _, _ => []
def pairsAt : List At → List At → List (Nat × Nat)
  | a :: l, b :: m => a.pairs b ++ pairsAt l m
  | _, _ => []
def pairsT : List SV → List SV → List (Nat × Nat)
  | .one (.at a) :: l, .one (.at b) :: m => a.pairs b ++ pairsT l m
  | .one (.agg xs) :: l, .one (.agg ys) :: m => pairsAt xs ys ++ pairsT l m
  | _ :: l, _ :: m => pairsT l m
  | _, _ => []
def pairsC {C : Ctx} (H h : List (Chunk C)) (p : Nat × Nat) : List (Nat × Nat) := match h[p.1]?, H[p.2]? with
  | some (.box ys), some (.box xs) => pairsAt xs ys
  | _, _ => []
def pairsN {C : Ctx} (H h : List (Chunk C)) : Nat → List (Nat × Nat) → List (Nat × Nat)
  | 0, l => l
  | d + 1, l => l ++ pairsN H h d (l.flatMap (pairsC H h))
def lookN (m : Nat) : List (Nat × Nat) → Nat
  | [] => m
  | p :: l => if p.1 = m then p.2 else lookN m l
def meetN {C : Ctx} (base : Nat) (T T1 : List SV) (H h : List (Chunk C)) : List Nat :=
  let ps := pairsN H h 3 (pairsT T T1)
  (List.range h.length).map fun m => if m < base then m else lookN m ps
def nodupB : List Nat → Bool
  | [] => true
  | n :: l => !(l.contains n) && nodupB l

/-- From here on the state has the form of i, at x. -/
def meetS (i : Inv C) (W : List Nat) (T T1 : List SV) (H : List (Chunk C)) (x : i.X) : Prop :=
  let τ := meetN A.base T T1 H (i.hf x)
  if okNames A.base T1 (i.hf x) && (okBase A.base i.wr (i.hf x) && (W.all (fun n => decide (A.base ≤ n) || i.wr.contains n) && (nodupB τ && τ.all fun n => decide (n < H.length))))
  then lesT (T.map (SV.ren fun n => idxOf n τ)) T1 ∧ lesH (pickH τ H) (i.hf x) else False

def run : Code → (Nat → Bool) → (Ex → List Nat → List SV → List (Chunk C) → Prop) → List Nat → List SV → List (Chunk C) → Prop
  | .skip, _, K, W, T, H => K .normal W T H
  | .region _ ops d, _, K, W, T, H => if d then (if Region.noSelect ops then anyS C A.Γ A.trunc ops (stayS A.quiet A.trunc T H ops) (K .normal) ops.size (Array.replicate ops.size false) W T H else False) else seqS C A.Γ A.trunc ops (K .normal) ops.toList W T H
  | .seq a b, lv, K, W, T, H => match A.inv (cutKey a b) with
    | none => run a (liveC b lv) (fun e W' T' H' => match e with
      | .normal => run b lv K W' T' H'
      | e => K e W' T' H') W T H
    | some i => (run a (liveC b lv) (fun e W' T' H' => match e with
      | .normal => ∃ x, i.rel T H x ∧ meetS C A i W' T' (invS C a (liveC b lv) T i x) H' x
      | e => K e W' T' H') W T H) ∧ ∀ x, i.rel T H x → run b lv K i.wr (invS C a (liveC b lv) T i x) (i.hf x)
  | .cond c a b, lv, K, W, T, H => match c with
    | .tmp d => match T.getD d (.one (.at .any)) with
      | .one (.at (.val (.bool t))) => brS t (run a lv K W (T.set d (vb true)) H) (run b lv K W (T.set d (vb false)) H)
      | _ => False
    | _ => False
  | .block id b, lv, K, W, T, H => run b lv (fun e W' T' H' => match e with
    | .exit j => if j = id then K .normal W' T' H' else K (.exit j) W' T' H'
    | e => K e W' T' H') W T H
  | .loop b, lv, K, W, T, H => unroll C (fun J W T H => run b (liveC b lv) (fun e W' T' H' => match e with
      | .normal => J W' T' H'
      | e => K e W' T' H') W T H) (fun W T H => match A.inv (headId b) with
    | none => False
    | some i =>
      (∃ x, i.rel T H x ∧ meetS C A i W T (invS C b (liveC b lv) T i x) H x) ∧
      ∀ x, i.rel T H x → run b (liveC b lv) (fun e W' T' H' => match e with
        | .normal => ∃ x', i.rel T H x' ∧ meetS C A i W' T' (invS C b (liveC b lv) T i x') H' x' ∧ i.μ x' < i.μ x
        | e => K e W' T' H') i.wr (invS C b (liveC b lv) T i x) (i.hf x)) (A.rounds (headId b)) W T H
  | .exit id, _, K, W, T, H => K (.exit id) W T H
  | .ret, _, K, W, T, H => K .ret W T H
  | _, _, _, _, _, _ => False

/-- The results. -/
def resS (T : List SV) (H : List (Chunk C)) : List ResultVar → Option (List SV)
  | [] => some []
  | .tmp t :: r => (resS T H r).map (T.getD t (.one (.at .any)) :: ·)
  | .cell a t :: r => match loadS C H t (T.getD a (.one (.at .any))), resS T H r with
    | some s, some l => some (s :: l)
    | _, _ => none
def retS (T : List SV) (H : List (Chunk C)) (rs : List ResultVar) : Option SV := match resS C T H rs with
  | some [s] => some s
  | some l => (atsOf l).map .tup
  | none => none

def retReads : List ResultVar → List Nat
  | [] => []
  | .tmp t :: r => t :: retReads r
  | .cell a _ :: r => a :: retReads r

def initT (args : List TV) (n : Nat) : List SV := args.map .one ++ List.replicate (n - args.length) (.one (.at .any))

/-- What is to be shown of a function. -/
@[irreducible] def vc (fn : Func) (args : List TV) (H : List (Chunk C)) (Q : SV → List (Chunk C) → List Nat → Prop) : Prop := match fn.body with
  | none => False
  | some c => run C { A with base := H.length } c (fun n => (retReads fn.results.toList).contains n) (fun e W T H' => match e with
    | .normal | .ret => match retS C T H' fn.results.toList with
      | some r => Q r H' W
      | none => False
    | .exit _ => False) [] (initT args fn.ntmps) H
end
end Go.Proofs.Ytacdmmomkngpkaa.Sx
