import Derived.Tactics
import Derived.Below
import Derived.Test.YtjnjofillhdffaaReg
import Derived.Test.YtjnjofillhdffaaFast
import Derived.Laws.BytesArg
/-! L: the program's operations on values without addresses: slices are lists, what a call lays for itself lies in its frame. It answers 'none' where it does not know. -/
set_option linter.unusedVariables false
namespace Go.L

inductive V where
  | int (k : IntKind) (n : Int)
  | bool (b : Bool)
  | str (s : ByteArray)
  /-- another constant without addresses -/
  | val (v : Value)
  /-- a struct or an array: its cells -/
  | agg (l : List V)
  /-- a slice that nobody writes to any more: its elements, each so many cells; whether its capacity is its length -/
  | sl (sz : Nat) (l : List (List V)) (x : Bool)
  | ptr (b off : Nat)
  /-- into an element of such a slice -/
  | iptr (sz : Nat) (l : List V) (off : Nat)
  | map (b : Nat)
  | fn (f : FuncId) (c : List V)
  | iface (t : TypeId) (v : V)
  deriving Inhabited

/-- what a slot of a frame holds -/
inductive S where
  | un
  | sk
  | v (x : V)
  /-- results -/
  | tup (l : List V)
  /-- a slice of the call's own, and nobody else's: its elements' type, their size -/
  | own (e sz : Nat) (l : List (List V))
  /-- a variable of the call's own: its cells -/
  | bx (n : Nat) (cs : List V)
  /-- into what slot d holds: element i (of so many cells), cell c; 'fp d 0 1 _': another name of the slice in slot d -/
  | fp (d sz i c : Nat)
  /-- a slice that was handed away -/
  | gone
  deriving Inhabited

/-- a block that others may see -/
inductive HB where
  | box (n : Nat) (cs : List V)
  | map (es : List (V × V))

abbrev Heap := List HB
inductive Res where
  | ret (vs : List V)
  | pan (v : V)
inductive Ex where
  | nrm
  | ex (id : Nat)
  | ret
  | pan (v : V)

abbrev Rec := FuncId → List V → Heap → Option (Res × Heap)

section types
variable (P : Program)
def tSize (t : TypeId) : Option Nat := match P.info? t, P.underlying t with | some i, some _ => some i.size | _, _ => none
def tAgg (t : TypeId) : Bool := match P.underlying t with | some (.struct _) | some (.array _ _) => true | _ => false
def tSlice (t : TypeId) : Option TypeId := match P.underlying t with | some (.slice e) => some e | _ => none
/-- the size of a slice's element -/
def eSize (t : TypeId) : Option (Nat × Nat) := match P.underlying t with | some (.slice e) => (match P.info? e with | some i => (match i.zero with | some z => if i.size = 0 ∨ 65536 < i.bytes ∨ z.cells.size ≠ i.size then none else some (e, i.size) | none => none) | none => none) | _ => none
/-- offset and size of a field -/
def fAt (s : TypeId) (k : Nat) : Option (Nat × Nat × Bool) := match P.underlying s with
  | some (.struct fs) => (match fs[k]? with
    | some f => (match tSize P f.type with | some n => if n = 0 then none else some (f.offset, n, tAgg P f.type) | none => none)
    | none => none)
  | _ => none
end types

def ofCell : Value → Option V
  | .int k n => some (.int k n)
  | .bool b => some (.bool b)
  | .string s => some (.str s)
  | .pointer none => some (.val (.pointer none))
  | .nilFunc => some (.val .nilFunc)
  | .nilIface => some (.val .nilIface)
  | .map none => some (.val (.map none))
  | .slice none 0 0 => some (.sl 0 [] false)
  | _ => none
def ofCells : List Value → Option (List V)
  | [] => some []
  | v :: l => match ofCell v, ofCells l with | some x, some r => some (x :: r) | _, _ => none
def ofValue : Value → Option V
  | .agg cs => (ofCells cs.toList).map .agg
  | v => ofCell v

/-- the zero value's cells -/
def zCells (P : Program) (t : TypeId) : Option (List V) := match P.info? t with
  | some i => (match i.zero with | some z => if z.cells.size = i.size then ofCells z.cells.toList else none | none => none)
  | none => none
/-- a value of one cell -/
def V.one : V → Bool | .agg _ => false | _ => true
/-- is the zero value a struct's? -/
def zAgg (P : Program) (t : TypeId) : Bool := match P.info? t with | some i => (match i.zero with | some (.agg _) => true | _ => false) | none => false
def V.cells : V → List V
  | .agg l => l
  | v => [v]
/-- a value out of cells -/
def ofPart (agg : Bool) (cs : List V) (off n : Nat) : Option V := if agg then some (.agg ((cs.drop off).take n)) else cs[off]?
def setR (cs : List V) (o : Nat) : List V → List V
  | [v] => cs.set o v
  | vs => cs.take o ++ vs ++ cs.drop (o + vs.length)

/-- another name -/
def isAl (sz i : Nat) : Bool := sz == 0 && i == 1
/-- the slot whose slice it is -/
def rt (F : List S) (t : Nat) : Nat := match F[t]? with | some (.fp d sz i _) => if isAl sz i then d else t | _ => t

def evV (F : List S) : Operand → Option V
  | .tmp t => match F[t]? with | some (.v x) => some x | _ => none
  | .const v => ofValue v
  | .func f => some (.fn f [])
  | .global _ => none
def evN (F : List S) (o : Operand) : Option Nat := match evV F o with | some (.int _ n) => if 0 ≤ n then some n.toNat else none | _ => none
def optN (F : List S) (d : Nat) : Option Operand → Option Nat
  | none => some d
  | some y => evN F y
def optM (F : List S) : Option Operand → Option (Option Nat)
  | none => some none
  | some y => (evN F y).map some
/-- the elements of a slice -/
def evC (F : List S) : Operand → Option (Nat × List (List V))
  | .tmp t => match F[rt F t]? with
    | some (.own _ sz l) => some (sz, l)
    | some (.v (.sl sz l _)) => some (sz, l)
    | _ => none
  | .const (.slice none 0 0) => some (0, [])
  | _ => none

def er1 (d : Nat) : S → S
  | .fp e sz i c => if e = d then .un else .fp e sz i c
  | s => s
/-- a slot written anew -/
def put (F : List S) (d : Option Nat) (s : S) : List S := match d with
  | none => F
  | some d => match F[d]? with
    | some (.own ..) | some (.bx ..) | some .gone => (F.map (er1 d)).set d s
    | _ => F.set d s

def pro1 (d n : Nat) : S → S
  | .fp e sz i c => if e = d then (if i = 0 then .v (.ptr n c) else .un) else .fp e sz i c
  | s => s
/-- a variable that others may see from now on -/
def promote (F : List S) (h : Heap) (d n : Nat) (cs : List V) : List S × Heap := ((F.map (pro1 d h.length)).set d (.v (.ptr h.length 0)), h ++ [.box n cs])
/-- an operand that others may see from now on -/
def evE (F : List S) (h : Heap) : Operand → Option (V × List S × Heap)
  | .tmp t => match F[t]? with
    | some (.v x) => some (x, F, h)
    | some (.own _ sz l) => some (.sl sz l false, (F.map (er1 t)).set t (.v (.sl sz l false)), h)
    | some (.bx n cs) => some (.ptr h.length 0, (promote F h t n cs).1, (promote F h t n cs).2)
    | some (.fp d sz i c) => (match F[d]? with
      | some (.own _ sz' l) => if isAl sz i then some (.sl sz' l false, (F.map (er1 d)).set d (.v (.sl sz' l false)), h) else none
      | some (.bx n cs) => if i = 0 then some (.ptr h.length c, (promote F h d n cs).1, (promote F h d n cs).2) else none
      | _ => none)
    | _ => none
  | .const v => (ofValue v).map (·, F, h)
  | .func f => some (.fn f [], F, h)
  | .global _ => none
def evEs (F : List S) (h : Heap) : List Operand → Option (List V × List S × Heap)
  | [] => some ([], F, h)
  | o :: os => match evE F h o with
    | some (v, F, h) => (match evEs F h os with | some (vs, F, h) => some (v :: vs, F, h) | none => none)
    | none => none
/-- an operand for a call that keeps nothing -/
def evB (F : List S) : Operand → Option V
  | .tmp t => match F[rt F t]? with
    | some (.v x) => some x
    | some (.own _ sz l) => some (.sl sz l false)
    | _ => none
  | .const v => ofValue v
  | .func f => some (.fn f [])
  | .global _ => none
def evBs (F : List S) : List Operand → Option (List V)
  | [] => some []
  | o :: os => match evB F o, evBs F os with | some v, some vs => some (v :: vs) | _, _ => none

/-- no address in it -/
def V.free : V → Bool
  | .int .. | .bool _ | .str _ | .val _ => true
  | .agg l => freeL l
  | .sl _ l _ => freeLL l
  | .fn _ c => freeL c
  | .iface _ v => v.free
  | .ptr .. | .iptr .. | .map _ => false
  where
  freeL : List V → Bool
  | [] => true
  | v :: l => v.free && freeL l
  freeLL : List (List V) → Bool
  | [] => true
  | v :: l => freeL v && freeLL l
/-- no slice in it either -/
def V.simple : V → Bool
  | .int .. | .bool _ | .str _ | .val _ => true
  | .agg l => simpleL l
  | _ => false
  where
  simpleL : List V → Bool
  | [] => true
  | v :: l => v.simple && simpleL l

def bopI (op : BinOp) (k : IntKind) (a b : Int) : Option V :=
  match op with
  | .add => some (.int k (k.wrap (a + b)))
  | .sub => some (.int k (k.wrap (a - b)))
  | .mul => some (.int k (k.wrap (a * b)))
  | .quo => if b = 0 then none else some (.int k (k.wrap (a.tdiv b)))
  | .rem => if b = 0 then none else some (.int k (a.tmod b))
  | .and => some (.int k (k.wrap (BitVec.ofInt k.bits a &&& BitVec.ofInt k.bits b).toNat))
  | .or => some (.int k (k.wrap (BitVec.ofInt k.bits a ||| BitVec.ofInt k.bits b).toNat))
  | .xor => some (.int k (k.wrap (BitVec.ofInt k.bits a ^^^ BitVec.ofInt k.bits b).toNat))
  | .andNot => some (.int k (k.wrap (BitVec.ofInt k.bits a &&& ~~~ (BitVec.ofInt k.bits b)).toNat))
  | .eql => some (.bool (a == b))
  | .neq => some (.bool (a != b))
  | .lss => some (.bool (a < b))
  | .leq => some (.bool (a ≤ b))
  | .gtr => some (.bool (a > b))
  | .geq => some (.bool (a ≥ b))
  | _ => none
def bopS (op : BinOp) (k : IntKind) (a b : Int) : Option V :=
  if b < 0 then none else match op with
  | .shl => some (.int k (k.wrap (a * 2 ^ (min b.toNat k.bits))))
  | .shr => some (.int k (a.fdiv (2 ^ (min b.toNat k.bits))))
  | _ => none
def isShift : BinOp → Bool | .shl | .shr => true | _ => false
/-- the kinds of a type's cells: integers, bools, strings, structs of them -/
def kds (P : Program) : Nat → TypeId → Option (List Nat)
  | 0, _ => none
  | d + 1, t => match P.underlying t with
    | some (.int _) => some [0]
    | some .bool => some [1]
    | some .string => some [2]
    | some (.struct fs) => if P.stoodInHeld t then none else
        fs.toList.foldlM (fun (acc : List Nat) f => if f.name ≠ "_" ∧ f.offset = acc.length then (match kds P d f.type with | some ks => if tSize P f.type = some ks.length then some (acc ++ ks) else none | none => none) else none) []
    | _ => none
/-- are cells the same? -/
def eqK : List Nat → List V → List V → Option Bool
  | [], [], [] => some true
  | 0 :: ks, .int k a :: l, .int k' b :: m => if k = k' then (match eqK ks l m with | some r => some (a == b && r) | none => none) else none
  | 1 :: ks, .bool a :: l, .bool b :: m => (match eqK ks l m with | some r => some (a == b && r) | none => none)
  | 2 :: ks, .str a :: l, .str b :: m => (match eqK ks l m with | some r => some (a.toList == b.toList && r) | none => none)
  | _, _, _ => none
def neg (op : BinOp) (b : Bool) : Bool := match op with | .neq => !b | _ => b
def isEq : BinOp → Bool | .eql | .neq => true | _ => false
def bop (P : Program) (op : BinOp) (t : TypeId) (x y : V) : Option V :=
  match P.underlying t, x, y with
  | some (.int _), .int k a, .int k' b => if isShift op then bopS op k a b else if k = k' then bopI op k a b else none
  | some .bool, .bool a, .bool b => if isEq op then some (.bool (neg op (a == b))) else none
  | some .string, .str a, .str b => if isEq op then some (.bool (neg op (a.toList == b.toList))) else none
  | some (.struct _), .agg l, .agg m => if isEq op && !P.eqGuardType P.depth t then (match kds P 12 t with | some ks => (match eqK ks l m with | some b => some (.bool (neg op b)) | none => none) | none => none) else none
  | some (.pointer _), .val (.pointer none), .val (.pointer none) => if isEq op then some (.bool (neg op true)) else none
  | some (.pointer _), .val (.pointer none), .ptr .. | some (.pointer _), .ptr .., .val (.pointer none) => if isEq op then some (.bool (neg op false)) else none
  | _, _, _ => none
def uop (op : UnOp) (x : V) : Option V := match op, x with
  | .neg, .int k n => some (.int k (k.wrap (0 - n)))
  | .xor, .int k n => some (.int k (k.wrap (BitVec.ofInt k.bits (if k.signed then -1 else k.max) ^^^ BitVec.ofInt k.bits n).toNat))
  | .not, .bool b => some (.bool !b)
  | _, _ => none
def cvt (P : Program) (s d : TypeId) (x : V) : Option V := match P.underlying s, P.underlying d, x with
  | some (.int _), some (.int k), .int _ n => some (.int k (k.wrap n))
  | some .string, some .string, .str a => some (.str a)
  | _, _, _ => none
/-- from bytes to a text? -/
def cvtS (P : Program) (s d : TypeId) : Bool := match P.underlying s, P.underlying d with
  | some (.slice e), some .string => (match P.underlying e with | some (.int .u8) => true | _ => false)
  | _, _ => false
def u8s : List (List V) → Option (List Int)
  | [] => some []
  | [.int .u8 n] :: l => (match u8s l with | some r => some (n :: r) | none => none)
  | _ => none
def mm (mx : Bool) : List V → Option V
  | [.int k a, .int k' b] => if k = k' then some (.int k (if mx then (if a < b then b else a) else (if b < a then b else a))) else none
  | _ => none

/-- parts laid into cells -/
def fillV (place : Nat → Option (Nat × Nat)) (cs : List V) : List (Nat × V) → Option (List V)
  | [] => some cs
  | (i, v) :: rest => match place i with
    | some (off, n) => if v.cells.length = n ∧ off + n ≤ cs.length then fillV place (setR cs off v.cells) rest else none
    | none => none
def fPlaces (P : Program) (t : TypeId) : Option (List (Nat × Nat)) := match P.underlying t with
  | some (.struct fs) => fs.toList.mapM (fun f => (tSize P f.type).map (f.offset, ·))
  | _ => none
def lim : Nat := 2147483648

/-- append to what a slot holds: the elements behind it -/
def app (e sz : Nat) (s : S) (news : List (List V)) : Option (List (List V)) := match s with
  | .own e' sz' l => if e' = e ∧ sz' = sz ∧ l.length + news.length < lim then some (l ++ news) else none
  | .v (.sl sz' l true) => if sz' = sz ∧ l.length + news.length < lim ∧ !news.isEmpty then some (l ++ news) else none
  | _ => none
/-- a struct out of its parts -/
def bldV (P : Program) (t : TypeId) (ps : List (Nat × V)) : Option (List V) := match zCells P t, fPlaces P t with
  | some z, some pl => fillV (fun i => pl[i]?) z ps
  | _, _ => none
/-- a slice's elements out of its parts -/
def bslV (P : Program) (t : TypeId) (n : Nat) (ps : List (Nat × V)) : Option (Nat × List (List V)) := match eSize P t, (tSlice P t).bind (zCells P) with
  | some (_, sz), some z => if z.length = sz ∧ n * sz ≤ 65536 ∧ 0 < n then
      (match ps.foldlM (fun (l : List (List V)) (p : Nat × V) => if p.2.cells.length = sz ∧ p.1 < l.length then some (l.set p.1 p.2.cells) else none) (List.replicate n z) with
      | some l => some (sz, l)
      | none => none) else none
  | _, _ => none

/-- are keys the same? -/
def keq (ks : List Nat) (k x : V) : Option Bool := if k.one = x.one then eqK ks k.cells x.cells else none
/-- the place of a key among a map's entries -/
def findI (ks : List Nat) (k : V) : List (V × V) → Nat → Option (Option Nat)
  | [], _ => some none
  | (x, _) :: es, i => match keq ks k x with
    | some true => some (some i)
    | some false => findI ks k es (i + 1)
    | none => none
/-- what lies there -/
def entryV (es : List (V × V)) (zero : V) : Option Nat → Option V
  | some i => (es[i]?).map (·.2)
  | none => some zero
def upd (es : List (V × V)) (k v : V) : Option Nat → List (V × V)
  | some i => es.set i (k, v)
  | none => es ++ [(k, v)]

/-- a map's entries -/
def mapOf (h : Heap) : V → Option (List (V × V))
  | .map b => (match h[b]? with | some (.map es) => some es | _ => none)
  | .val (.map none) => some []
  | _ => none
/-- where an address leads: the cells there, and how many they are -/
def place (F : List S) (h : Heap) : Operand → Option (List V × Nat × Nat)
  | .tmp s => match F[s]? with
    | some (.bx n cs) => some (cs, n, 0)
    | some (.fp d sz i c) => (match F[d]? with
      | some (.bx n cs) => if i = 0 then some (cs, n, c) else none
      | some (.own _ sz' l) => if sz' = sz ∧ 0 < sz then (match l[i]? with | some es => some (es, sz, c) | none => none) else none
      | _ => none)
    | some (.v (.ptr b o)) => (match h[b]? with | some (.box n cs) => some (cs, n, o) | _ => none)
    | some (.v (.iptr n cs o)) => some (cs, n, o)
    | _ => none
  | _ => none
/-- what an address leads to, written anew -/
def write (F : List S) (h : Heap) (vs : List V) : Operand → Option (List S × Heap)
  | .tmp s => match F[s]? with
    | some (.bx n cs) => if vs.length ≤ n then some (F.set s (.bx n (setR cs 0 vs)), h) else none
    | some (.fp d sz i c) => (match F[d]? with
      | some (.bx n cs) => if i = 0 ∧ c + vs.length ≤ n then some (F.set d (.bx n (setR cs c vs)), h) else none
      | some (.own e sz' l) => if sz' = sz ∧ 0 < sz ∧ c + vs.length ≤ sz then (match l[i]? with | some es => some (F.set d (.own e sz (l.set i (setR es c vs))), h) | none => none) else none
      | _ => none)
    | some (.v (.ptr b o)) => (match h[b]? with | some (.box n cs) => if o + vs.length ≤ n then some (F, h.set b (.box n (setR cs o vs))) else none | _ => none)
    | _ => none
  | _ => none
/-- the same, and on -/
def placex {R : Type} (F : List S) (h : Heap) (x : Operand) (K : List V → Nat → Nat → Option R) : Option R := match x with
  | .tmp s => match F[s]? with
    | some (.bx n cs) => K cs n 0
    | some (.fp d sz i c) => (match F[d]? with
      | some (.bx n cs) => if i = 0 then K cs n c else none
      | some (.own _ sz' l) => if sz' = sz ∧ 0 < sz then (match l[i]? with | some es => K es sz c | none => none) else none
      | _ => none)
    | some (.v (.ptr b o)) => (match h[b]? with | some (.box n cs) => K cs n o | _ => none)
    | some (.v (.iptr n cs o)) => K cs n o
    | _ => none
  | _ => none
def writex {R : Type} (F : List S) (h : Heap) (vs : List V) (x : Operand) (K : List S → Heap → Option R) : Option R := match x with
  | .tmp s => match F[s]? with
    | some (.bx n cs) => if vs.length ≤ n then K (F.set s (.bx n (setR cs 0 vs))) h else none
    | some (.fp d sz i c) => (match F[d]? with
      | some (.bx n cs) => if i = 0 ∧ c + vs.length ≤ n then K (F.set d (.bx n (setR cs c vs))) h else none
      | some (.own e sz' l) => if sz' = sz ∧ 0 < sz ∧ c + vs.length ≤ sz then (match l[i]? with | some es => K (F.set d (.own e sz (l.set i (setR es c vs)))) h | none => none) else none
      | _ => none)
    | some (.v (.ptr b o)) => (match h[b]? with | some (.box n cs) => if o + vs.length ≤ n then K F (h.set b (.box n (setR cs o vs))) else none | _ => none)
    | _ => none
  | _ => none
/-- an address so many cells on -/
def plus (F : List S) (k : Nat) : Operand → Option S
  | .tmp s => match F[s]? with
    | some (.bx _ _) => some (.fp s 0 0 k)
    | some (.fp d sz i c) => if isAl sz i then none else some (.fp d sz i (c + k))
    | some (.v (.ptr b o)) => some (.v (.ptr b (o + k)))
    | some (.v (.iptr n cs o)) => some (.v (.iptr n cs (o + k)))
    | _ => none
  | _ => none

section exec
variable {R : Type} (P : Program) (rec : Rec) (keep gc : FuncId → Bool)

/-- functions of the library that L knows: 0 Clone, 1 Insert (of one), 2 Delete -/
def natK (nm : String) : Option Nat := if nm = "slices.Clone[[]int32,int32]" then some 0 else if nm = "slices.Insert[[]int32,int32]" then some 1 else if nm = "slices.Delete[[]int32,int32]" then some 2 else none
/-- which one, and the elements' type -/
def natF (P : Program) (f : FuncId) : Option (Nat × Nat) := match P.funcs[f]? with
  | some fn => (match natK fn.name with
    | some k => (match fn.params[0]? with
      | some t => (match eSize P t with | some (e, sz) => if sz = 1 then some (k, e) else none | none => none)
      | none => none)
    | none => none)
  | none => none
def evI (F : List S) (o : Operand) : Option Nat := match evV F o with | some (.int .i64 n) => if 0 ≤ n then some n.toNat else none | _ => none
def natx (o : Oper) (k e : Nat) (args : List Operand) (F : List S) (K : List S → Option R) : Option R := match k, args with
  | 0, [x] => (match evC F x with
    | some (sz, l) => if (sz = 1 ∨ l.isEmpty = true) ∧ l.length < lim then K (put F o.dst (.own e 1 l)) else none
    | none => none)
  | 1, [.tmp s, i, .tmp y] => (match F[rt F s]?, evI F i, F[rt F y]? with
    | some (.own e1 s1 l), some n, some (.own e2 s2 [x]) => if (e1 = e ∧ s1 = 1) ∧ (e2 = e ∧ s2 = 1) ∧ rt F s ≠ rt F y ∧ n ≤ l.length ∧ l.length + 1 < lim then K (put (F.set (rt F s) .gone) o.dst (.own e 1 (l.take n ++ [x] ++ l.drop n))) else none
    | _, _, _ => none)
  | 2, [.tmp s, i, j] => (match F[rt F s]?, evI F i, evI F j with
    | some (.own e1 s1 l), some n, some m => if (e1 = e ∧ s1 = 1) ∧ n < m ∧ m ≤ l.length ∧ l.length < lim then K (put (F.set (rt F s) .gone) o.dst (.own e 1 (l.take n ++ l.drop m))) else none
    | _, _, _ => none)
  | _, _ => none
/-- a call -/
def oneRes (P : Program) (f : FuncId) : Bool := match P.funcs[f]? with | some fn => fn.results.size == 1 | none => false
def resK (f : FuncId) (d : Option Nat) (vs : List V) (F : List S) (h : Heap) (K : List S → Heap → Option R) : Option R :=
  if oneRes P f then (match vs with | [v] => K (put F d (.v v)) h | _ => none) else K (put F d (.tup vs)) h
def callx0 (o : Oper) (f : FuncId) (caps : List V) (args : List Operand) (F : List S) (h : Heap) (K : List S → Heap → Option R) (Z : V → List S → Heap → Option R) : Option R :=
  match natF P f with
  | some (k, e) => if caps.isEmpty then natx o k e args F (fun F => K F h) else none
  | none =>
  if keep f then
    match evEs F h args with
    | some (vs, F, h) => (match rec f (vs ++ caps) h with
      | some (.ret vs, h) => resK P f o.dst vs F h K
      | some (.pan v, h) => Z v F h
      | none => none)
    | none => none
  else if gc f then
    match evBs F args with
    | some vs => (match rec f (vs ++ caps) h with
      | some (.ret vs, h) => if V.simple.simpleL vs then resK P f o.dst vs F h K else none
      | some (.pan v, h) => if v.simple then Z v F h else none
      | none => none)
    | none => none
  else none

/-- functions that write to the slice that they are handed first -/
def mutNames : List String := ["slices.SortStableFunc[[]int,int]", "slices.stableCmpFunc[int]", "slices.insertionSortCmpFunc[int]", "slices.symMergeCmpFunc[int]", "slices.rotateCmpFunc[int]", "slices.swapRangeCmpFunc[int]"]
/-- which they are: the element's type, its size -/
def mutF (P : Program) (f : FuncId) : Option (Nat × Nat) := match P.funcs[f]? with
  | some fn => if mutNames.contains fn.name then (match fn.params[0]? with | some t => eSize P t | none => none) else none
  | none => none
/-- a call of such a function: the slice is the callee's own meanwhile; what it is then comes back ahead of the results -/
def callm (o : Oper) (f : FuncId) (e sz : Nat) (caps : List V) (args : List Operand) (F : List S) (h : Heap) (K : List S → Heap → Option R) : Option R := match args with
  | .tmp s :: rest => (match evEs F h rest with
    | some (vs, F1, h1) => (match F1[rt F s]? with
      | some (.own e1 s1 l) => if (e1 = e ∧ s1 = sz) ∧ o.dst ≠ some (rt F s) then (match rec f (.sl sz l false :: (vs ++ caps)) h1 with
        | some (.ret (.sl s2 l' _ :: rs), h2) => if s2 = sz then resK P f o.dst rs (F1.set (rt F s) (.own e sz l')) h2 K else none
        | _ => none) else none
      | _ => none)
    | none => none)
  | _ => none
def callx (o : Oper) (f : FuncId) (caps : List V) (args : List Operand) (F : List S) (h : Heap) (K : List S → Heap → Option R) (Z : V → List S → Heap → Option R) : Option R := match mutF P f with
  | some (e, sz) => callm P rec o f e sz caps args F h K
  | none => callx0 P rec keep gc o f caps args F h K Z
/-- results, whose number is known -/
def resT (tup : Bool) (d : Option Nat) (vs : List V) (F : List S) (h : Heap) (K : List S → Heap → Option R) : Option R :=
  if tup then K (put F d (.tup vs)) h else (match vs with | [v] => K (put F d (.v v)) h | _ => none)
/-- is it a tuple's type? -/
def tupT (P : Program) (t : TypeId) : Bool := match P.underlying t with | some (.tuple _) => true | _ => false
/-- may a function value be called there? -/
def okV (P : Program) (t : TypeId) (f : FuncId) : Bool := (mutF P f).isNone && ((natF P f).isNone && (oneRes P f == !tupT P t))
/-- a call of a function value: none that L knows by itself -/
def callv (o : Oper) (f : FuncId) (caps : List V) (args : List Operand) (F : List S) (h : Heap) (K : List S → Heap → Option R) (Z : V → List S → Heap → Option R) : Option R :=
  if keep f then
    match evEs F h args with
    | some (vs, F, h) => (match rec f (vs ++ caps) h with
      | some (.ret vs, h) => resT (tupT P o.type) o.dst vs F h K
      | some (.pan v, h) => Z v F h
      | none => none)
    | none => none
  else if gc f then
    match evBs F args with
    | some vs => (match rec f (vs ++ caps) h with
      | some (.ret vs, h) => if V.simple.simpleL vs then resT (tupT P o.type) o.dst vs F h K else none
      | some (.pan v, h) => if v.simple then Z v F h else none
      | none => none)
    | none => none
  else none
theorem callv_eq {o : Oper} {f : FuncId} (h : okV P o.type f = true) (caps : List V) (args : List Operand) (F : List S) (hh : Heap) (K : List S → Heap → Option R) (Z : V → List S → Heap → Option R) :
    callv P rec keep gc o f caps args F hh K Z = callx P rec keep gc o f caps args F hh K Z := by
  unfold okV at h
  rw [Bool.and_eq_true, Bool.and_eq_true, beq_iff_eq] at h
  have hm : mutF P f = none := by simpa using h.1
  replace h := h.2
  have hn : natF P f = none := by simpa using h.1
  have hr : ∀ d vs F h (K : List S → Heap → Option R), resT (tupT P o.type) d vs F h K = resK P f d vs F h K := fun d vs F hh K => by
    unfold resT resK
    rw [h.2]
    cases tupT P o.type <;> rfl
  unfold callv callx callx0
  rw [hm, hn]
  simp only [hr]

def _root_.Go.Operand.isTmpOf (o : Operand) (s : Nat) : Bool := match o with | .tmp t => t == s | _ => false
def bltx (o : Oper) (b : Builtin) (ts : List TypeId) (args : List Operand) (F : List S) (h : Heap) (K : List S → Heap → Option R) : Option R :=
  match b, ts, args with
  | .len, [t], [x] => (match P.underlying t with
    | some (.slice _) => (match evC F x with | some (_, l) => K (put F o.dst (.v (.int .i64 l.length))) h | none => none)
    | some .string => (match evV F x with | some (.str s) => K (put F o.dst (.v (.int .i64 s.size))) h | _ => none)
    | some (.map _ _) => (match evV F x with
      | some (.map b) => (match h[b]? with | some (.map es) => K (put F o.dst (.v (.int .i64 es.length))) h | _ => none)
      | _ => none)
    | _ => none)
  | .append, [t, t'], [.tmp s, y] => (match eSize P t, evC F y, F[rt F s]? with
    | some (e, sz), some (sz', news), some x =>
      if t' = t ∧ (sz' = sz ∨ news.isEmpty) then (match app e sz x news with | some l => K (put (put F (some (rt F s)) .un) o.dst (.own e sz l)) h | none => none) else none
    | _, _, _ => none)
  | .append, [t, t'], [.const (.slice none 0 0), y] => (match eSize P t, evC F y with
    | some (e, sz), some (sz', news) =>
      if t' = t ∧ (sz' = sz ∨ news.isEmpty) then (match app e sz (.own e sz []) news with | some l => K (put F o.dst (.own e sz l)) h | none => none) else none
    | _, _ => none)
  | .min, _, args => (match evBs F args with | some vs => (match mm false vs with | some v => K (put F o.dst (.v v)) h | none => none) | none => none)
  | .max, _, args => (match evBs F args with | some vs => (match mm true vs with | some v => K (put F o.dst (.v v)) h | none => none) | none => none)
  | _, _, _ => none

/-- does a slot hold a slice of the call's own? -/
def owns (F : List S) : Option Nat → Bool
  | some d => match F[d]? with | some (.own ..) | some (.v (.sl ..)) => true | _ => false
  | none => false
/-- an operand that is taken as it stands; a variable that holds a slice of its own takes another one -/
def movex (as : Bool) (o : Oper) (x : Operand) (F : List S) (h : Heap) (K : List S → Heap → Option R) : Option R := match x with
  | .tmp t => (match F[t]? with
    | some (.v a) => K (put F o.dst (.v a)) h
    | some (.tup l) => K (put F o.dst (.tup l)) h
    | some (.own e sz l) => if as then K (put (F.set t .gone) o.dst (.own e sz l)) h else (if o.dst = some t then none else K (put F o.dst (.fp t 0 1 0)) h)
    | some (.bx _ _) => if o.dst = some t then none else K (put F o.dst (.fp t 0 0 0)) h
    | some (.fp d sz i c) => (match (if as && isAl sz i && owns F o.dst then F[d]? else none) with
      | some (.own e sz' l) => if o.dst = some d then none else K (put (F.set d .gone) o.dst (.own e sz' l)) h
      | _ => if o.dst = some d then none else K (put F o.dst (.fp d sz i c)) h)
    | _ => none)
  | .const (.slice none 0 0) => (match eSize P o.type with | some (e, sz) => K (put F o.dst (.own e sz [])) h | none => none)
  | x => (match evV F x with | some v => K (put F o.dst (.v v)) h | none => none)
def opx (o : Oper) (F : List S) (h : Heap) (K : List S → Heap → Option R) (Z : V → List S → Heap → Option R) : Option R :=
  let one (x : Option V) : Option R := match x with | some v => K (put F o.dst (.v v)) h | none => none
  match o.op with
  | .move x => movex P false o x F h K
  | .assign x => movex P true o x F h K
  | .pick c a b => (match evV F c, evV F a, evV F b with
    | some (.bool t), some x, some y => K (put F o.dst (.v (if t then x else y))) h
    | some (.bool t), some x, none => if t then K (put F o.dst (.v x)) h else none
    | some (.bool t), none, some y => if t then none else K (put F o.dst (.v y)) h
    | _, _, _ => none)
  | .alloc e => (match zCells P e with | some cs => K (put F o.dst (.bx cs.length cs)) h | none => none)
  | .box e x => (match evE F h x, tSize P e with
    | some (v, F, h), some n => if v.cells.length = n then K (put F o.dst (.bx n v.cells)) h else none
    | _, _ => none)
  | .build t ps => (match evEs F h (ps.toList.map (·.2)) with
    | some (vs, F, h) => (match bldV P t ((ps.toList.map (·.1)).zip vs) with | some cs => K (put F o.dst (.v (.agg cs))) h | none => none)
    | none => none)
  | .buildSlice t n ps => (match evEs F h (ps.toList.map (·.2)), eSize P t with
    | some (vs, F, h), some (e, sz) => (match bslV P t n ((ps.toList.map (·.1)).zip vs) with | some (_, l) => K (put F o.dst (.own e sz l)) h | none => none)
    | _, _ => none)
  | .load t x => (match tSize P t with
    | some n => placex F h x (fun cs m c => if c + n ≤ m ∧ 0 < n then one (ofPart (tAgg P t) cs c n) else none)
    | none => none)
  | .store t x y => (match evE F h y, tSize P t with
    | some (v, F, h), some n => if v.cells.length = n then writex F h v.cells x (fun F h => K (put F o.dst .sk) h) else none
    | _, _ => none)
  | .nilCheck x => (match plus F 0 x with
    | some (.fp d sz i c) => if o.dst = some d then none else K (put F o.dst (.fp d sz i c)) h
    | some s => K (put F o.dst s) h
    | none => none)
  | .binOp op t x y _ => (match evV F x, evV F y with | some a, some b => one (bop P op t a b) | _, _ => none)
  | .unOp op _ x => (match evV F x with | some a => one (uop op a) | none => none)
  | .convert s d x => if cvtS P s d then (match evC F x with | some (_, l) => one ((u8s l).map fun ns => .str (strOfNums ns)) | none => none) else (match evV F x with | some a => one (cvt P s d a) | none => none)
  | .makeFunc (.func f) first caps => if first.size = 0 then (match evEs F h caps.toList with | some (vs, F, h) => K (put F o.dst (.v (.fn f vs))) h | none => none) else none
  | .makeMap t r => (match r with
    | none => K (put F o.dst (.v (.map h.length))) (h ++ [.map []])
    | some _ => none)
  | .makeSlice t l c => (match evN F l, evN F c, eSize P t, (tSlice P t).bind (zCells P) with
    | some n, some m, some (e, sz), some z => if n = m ∧ n < lim ∧ z.length = sz then K (put F o.dst (.own e sz (List.replicate n z))) h else none
    | _, _, _, _ => none)
  | .slice t x lo hi mx => (match eSize P t, evE F h x with
    | some (_, sz), some (.sl sz' l ex, F, h) => (match optN F 0 lo, optN F l.length hi, optM F mx with
      | some a, some b, some m => if a ≤ b ∧ b ≤ l.length ∧ (sz' = sz ∨ l.isEmpty = true) ∧ (m = none ∨ m = some b) ∧ (mx.isNone || hi.isSome) = true then K (put F o.dst (.v (.sl sz ((l.take b).drop a) (m.isSome)))) h else none
      | _, _, _ => none)
    | _, _ => none)
  | .fieldAddr s x k => (match fAt P s k with
    | some (off, _, _) => (match plus F off x with
      | some (.fp d sz i c) => if o.dst = some d then none else K (put F o.dst (.fp d sz i c)) h
      | some y => K (put F o.dst y) h
      | none => none)
    | none => none)
  | .field s x k => (match fAt P s k, evV F x with
    | some (off, n, ag), some (.agg cs) => if off + n ≤ cs.length then one (ofPart ag cs off n) else none
    | _, _ => none)
  | .indexAddr t x i => (match evN F i, eSize P t with
    | some n, some (_, sz) => (match x with
      | .tmp s => (match F[rt F s]? with
        | some (.own _ sz' l) => if sz' = sz ∧ n < l.length ∧ o.dst ≠ some (rt F s) then K (put F o.dst (.fp (rt F s) sz n 0)) h else none
        | some (.v (.sl sz' l _)) => if sz' = sz then (match l[n]? with | some es => K (put F o.dst (.v (.iptr sz es 0))) h | none => none) else none
        | _ => none)
      | _ => none)
    | _, _ => none)
  | .lookup t m k ok => (match P.underlying t, evV F m, evV F k with
    | some (.map kt et), some mv, some key => (match mapOf h mv, zCells P et, kds P 12 kt with
      | some es, some z, some ks => (match findI ks key es 0, ofPart (tAgg P et) z 0 z.length with
        | some r, some zero => (match entryV es zero r with
          | some v => if key.one = !tAgg P kt ∧ key.cells.length = ks.length ∧ zAgg P et = tAgg P et then (if ok then K (put F o.dst (.tup [v, .bool r.isSome])) h else K (put F o.dst (.v v)) h) else none
          | none => none)
        | _, _ => none)
      | _, _, _ => none)
    | _, _, _ => none)
  | .mapUpdate t m k x | .insert t m k x => (match P.underlying t, evV F m, evV F k, evE F h x with
    | some (.map kt _), some (.map b), some key, some (v, F, h) => (match h[b]?, kds P 12 kt with
      | some (.map es), some ks => (match findI ks key es 0 with
        | some r => if key.one = !tAgg P kt ∧ key.cells.length = ks.length then K (put F o.dst .sk) (h.set b (.map (upd es key v r))) else none
        | none => none)
      | _, _ => none)
    | _, _, _, _ => none)
  | .extract x i => (match x with | .tmp t => (match F[t]? with | some (.tup l) => one l[i]? | _ => none) | _ => none)
  | .call c => (match c.callee with
    | .value (.func f) => callx P rec keep gc o f [] c.args.toList F h K Z
    | .value (.tmp t) => (match F[t]? with
      | some (.v (.fn f caps)) => if okV P o.type f = true then callv P rec keep gc o f caps c.args.toList F h K Z else none
      | _ => none)
    | .builtin b => bltx P o b c.argTypes.toList c.args.toList F h K
    | _ => none)
  | .panic x => (match evE F h x with | some (.iface t v, F, h) => Z (.iface t v) F h | _ => none)
  | _ => none

/-- does a region that draws its order come to what its text comes to? -/
def textDraws (P : Program) (ops : Array Oper) : Bool := TR.fastB (TR.cls P) ops && TR.backB ops
/-- a frame, laid out anew (so that the kernel does not carry all that was written to it) -/
def force {R : Type} : List S → (List S → R) → R
  | [], k => k []
  | x :: l, k => force l fun l => k (x :: l)
theorem force_eq {R : Type} : ∀ (F : List S) (k : List S → R), force F k = k F
  | [], _ => rfl
  | x :: l, k => by rw [force, force_eq l]
/-- a region's operations, in the order of the text -/
def opsx (all : Array Oper) (Z : V → List S → Heap → Option R) : List Oper → List S → Heap → (List S → Heap → Option R) → Option R
  | [], F, h, K => K F h
  | o :: l, F, h, K => match o.guard with
    | none => opx P rec keep gc o F h (fun F h => force F fun F => opsx all Z l F h K) Z
    | some (j, want) => match (all[j]?).bind (·.dst) with
      | some d => (match F[d]? with
        | some (.v (.bool b)) => if b
          then (if want then opx P rec keep gc o (F.set d (.v (.bool true))) h (fun F h => force F fun F => opsx all Z l F h K) Z else force (put (F.set d (.v (.bool true))) o.dst .sk) fun F => opsx all Z l F h K)
          else (if want then force (put (F.set d (.v (.bool false))) o.dst .sk) fun F => opsx all Z l F h K else opx P rec keep gc o (F.set d (.v (.bool false))) h (fun F h => force F fun F => opsx all Z l F h K) Z)
        | some .sk => force (put F o.dst .sk) fun F => opsx all Z l F h K
        | _ => none)
      | none => none

/-! an operation by what it writes: for regions whose operations may be turned round -/
def evVs (F : List S) : List Operand → Option (List V)
  | [] => some []
  | o :: os => match evV F o, evVs F os with | some v, some vs => some (v :: vs) | _, _ => none
/-- may the slot be written without more ado? -/
def dstOk (F : List S) : Option Nat → Bool
  | none => true
  | some d => match F[d]? with | some (.own ..) | some (.bx ..) | some .gone | none => false | _ => true
def wr (d : Option Nat) (s : S) : List (Nat × S) := match d with | some d => [(d, s)] | none => []
def appF (F : List S) : List (Nat × S) → List S
  | [] => F
  | (k, s) :: us => appF (F.set k s) us
/-- what becomes of the heap: blocks written, or all of it anew -/
inductive HE where
  | sets (l : List (Nat × HB))
  | all (h : Heap)
def appH (h : Heap) : List (Nat × HB) → Heap
  | [] => h
  | (k, s) :: us => appH (h.set k s) us
def appE (h : Heap) : HE → Heap
  | .sets l => appH h l
  | .all h' => h'
/-- the blocks that it writes -/
def hwE (h : Heap) : HE → List Nat
  | .sets l => l.map (·.1)
  | .all h' => List.range (max h.length h'.length + 1)
def writeux (F : List S) (h : Heap) (vs : List V) (x : Operand) (K : List (Nat × S) → HE → Option R) : Option R := match x with
  | .tmp s => match F[s]? with
    | some (.bx n cs) => if vs.length ≤ n then K [(s, .bx n (setR cs 0 vs))] (.sets []) else none
    | some (.fp d sz i c) => (match F[d]? with
      | some (.bx n cs) => if i = 0 ∧ c + vs.length ≤ n then K [(d, .bx n (setR cs c vs))] (.sets []) else none
      | some (.own e sz' l) => if sz' = sz ∧ 0 < sz ∧ c + vs.length ≤ sz then (match l[i]? with | some es => K [(d, .own e sz (l.set i (setR es c vs)))] (.sets []) | none => none) else none
      | _ => none)
    | some (.v (.ptr b o)) => (match h[b]? with | some (.box n cs) => if o + vs.length ≤ n then K [] (.sets [(b, .box n (setR cs o vs))]) else none | _ => none)
    | _ => none
  | _ => none
/-- all slots -/
def allS (F : List S) : List (Nat × S) := F.zipIdx.map fun p => (p.2, p.1)
def resu (f : FuncId) (d : Option Nat) (vs : List V) (e : HE) (K : List (Nat × S) → HE → Option R) : Option R :=
  if oneRes P f then (match vs with | [v] => K (wr d (.v v)) e | _ => none) else K (wr d (.tup vs)) e
def natux (o : Oper) (k e : Nat) (args : List Operand) (F : List S) (K : List (Nat × S) → HE → Option R) : Option R := match k, args with
  | 0, [x] => (match evC F x with
    | some (sz, l) => if (sz = 1 ∨ l.isEmpty = true) ∧ l.length < lim then K (wr o.dst (.own e 1 l)) (.sets []) else none
    | none => none)
  | 1, [.tmp s, i, .tmp y] => (match F[rt F s]?, evI F i, F[rt F y]? with
    | some (.own e1 s1 l), some n, some (.own e2 s2 [x]) => if (e1 = e ∧ s1 = 1) ∧ (e2 = e ∧ s2 = 1) ∧ rt F s ≠ rt F y ∧ n ≤ l.length ∧ l.length + 1 < lim then K ((rt F s, .gone) :: wr o.dst (.own e 1 (l.take n ++ [x] ++ l.drop n))) (.sets []) else none
    | _, _, _ => none)
  | 2, [.tmp s, i, j] => (match F[rt F s]?, evI F i, evI F j with
    | some (.own e1 s1 l), some n, some m => if (e1 = e ∧ s1 = 1) ∧ n < m ∧ m ≤ l.length ∧ l.length < lim then K ((rt F s, .gone) :: wr o.dst (.own e 1 (l.take n ++ l.drop m))) (.sets []) else none
    | _, _, _ => none)
  | _, _ => none
def callux0 (o : Oper) (f : FuncId) (caps : List V) (args : List Operand) (F : List S) (h : Heap) (K : List (Nat × S) → HE → Option R) : Option R :=
  match natF P f with
  | some (k, e) => if caps.isEmpty then natux o k e args F K else none
  | none =>
  if gc f then
    if keep f then
      match evVs F args with
      | some vs => (match rec f (vs ++ caps) [] with
        | some (.ret vs, _) => resu P f o.dst vs (.sets []) K
        | _ => none)
      | none => none
    else
      match evBs F args with
      | some vs => (match rec f (vs ++ caps) [] with
        | some (.ret vs, _) => if V.simple.simpleL vs then resu P f o.dst vs (.sets []) K else none
        | _ => none)
      | none => none
  else if keep f then
    match evVs F args with
    | some vs => (match rec f (vs ++ caps) h with
      | some (.ret vs, h') => resu P f o.dst vs (.all h') K
      | _ => none)
    | none => (match evEs F h args with
      | some (vs, F', h0) => if dstOk F' o.dst = true then (match rec f (vs ++ caps) h0 with
        | some (.ret vs, h') => resu P f o.dst vs (.all h') (fun us e => K (allS F' ++ us) e)
        | _ => none) else none
      | none => none)
  else none
def callux (o : Oper) (f : FuncId) (caps : List V) (args : List Operand) (F : List S) (h : Heap) (K : List (Nat × S) → HE → Option R) : Option R := match mutF P f with
  | some _ => none
  | none => callux0 P rec keep gc o f caps args F h K
def resuT (tup : Bool) (d : Option Nat) (vs : List V) (e : HE) (K : List (Nat × S) → HE → Option R) : Option R :=
  if tup then K (wr d (.tup vs)) e else (match vs with | [v] => K (wr d (.v v)) e | _ => none)
/-- a call of a function value: none that L knows by itself -/
def calluv (o : Oper) (f : FuncId) (caps : List V) (args : List Operand) (F : List S) (h : Heap) (K : List (Nat × S) → HE → Option R) : Option R :=
  if gc f then
    if keep f then
      match evVs F args with
      | some vs => (match rec f (vs ++ caps) [] with
        | some (.ret vs, _) => resuT (tupT P o.type) o.dst vs (.sets []) K
        | _ => none)
      | none => none
    else
      match evBs F args with
      | some vs => (match rec f (vs ++ caps) [] with
        | some (.ret vs, _) => if V.simple.simpleL vs then resuT (tupT P o.type) o.dst vs (.sets []) K else none
        | _ => none)
      | none => none
  else if keep f then
    match evVs F args with
    | some vs => (match rec f (vs ++ caps) h with
      | some (.ret vs, h') => resuT (tupT P o.type) o.dst vs (.all h') K
      | _ => none)
    | none => (match evEs F h args with
      | some (vs, F', h0) => if dstOk F' o.dst = true then (match rec f (vs ++ caps) h0 with
        | some (.ret vs, h') => resuT (tupT P o.type) o.dst vs (.all h') (fun us e => K (allS F' ++ us) e)
        | _ => none) else none
      | none => none)
  else none
theorem calluv_eq {o : Oper} {f : FuncId} (h : okV P o.type f = true) (caps : List V) (args : List Operand) (F : List S) (hh : Heap) (K : List (Nat × S) → HE → Option R) :
    calluv P rec keep gc o f caps args F hh K = callux P rec keep gc o f caps args F hh K := by
  unfold okV at h
  rw [Bool.and_eq_true, Bool.and_eq_true, beq_iff_eq] at h
  have hm : mutF P f = none := by simpa using h.1
  replace h := h.2
  have hn : natF P f = none := by simpa using h.1
  have hr : ∀ d vs e (K : List (Nat × S) → HE → Option R), resuT (tupT P o.type) d vs e K = resu P f d vs e K := fun d vs e K => by
    unfold resuT resu
    rw [h.2]
    cases tupT P o.type <;> rfl
  unfold calluv callux callux0
  rw [hm, hn]
  simp only [hr]
def bltux (o : Oper) (b : Builtin) (ts : List TypeId) (args : List Operand) (F : List S) (K : List (Nat × S) → HE → Option R) : Option R :=
  match b, ts, args with
  | .len, [t], [x] => (match P.underlying t with
    | some (.slice _) => (match evC F x with | some (_, l) => K (wr o.dst (.v (.int .i64 l.length))) (.sets []) | none => none)
    | _ => none)
  | .append, [t, t'], [.tmp s, y] => (match eSize P t, evC F y, F[s]? with
    | some (e, sz), some (sz', news), some (.v x) =>
      if t' = t ∧ (sz' = sz ∨ news.isEmpty) then (match app e sz (.v x) news with | some l => K ((s, .un) :: wr o.dst (.own e sz l)) (.sets []) | none => none) else none
    | _, _, _ => none)
  | .min, _, args => (match evBs F args with | some vs => (match mm false vs with | some v => K (wr o.dst (.v v)) (.sets []) | none => none) | none => none)
  | .max, _, args => (match evBs F args with | some vs => (match mm true vs with | some v => K (wr o.dst (.v v)) (.sets []) | none => none) | none => none)
  | _, _, _ => none
def movux (as : Bool) (o : Oper) (x : Operand) (F : List S) (K : List (Nat × S) → HE → Option R) : Option R := match x with
  | .tmp t => (match F[t]? with
    | some (.v a) => K (wr o.dst (.v a)) (.sets [])
    | some (.tup l) => K (wr o.dst (.tup l)) (.sets [])
    | some (.own e sz l) => if as then K ((t, .gone) :: wr o.dst (.own e sz l)) (.sets []) else if o.dst = some t then none else K (wr o.dst (.fp t 0 1 0)) (.sets [])
    | some (.fp d sz i c) => if as || o.dst == some d then none else K (wr o.dst (.fp d sz i c)) (.sets [])
    | _ => none)
  | .const v => (match v with
    | .slice none 0 0 => none
    | v => (match ofValue v with | some a => K (wr o.dst (.v a)) (.sets []) | none => none))
  | .func f => K (wr o.dst (.v (.fn f []))) (.sets [])
  | .global _ => none
def actx (o : Oper) (F : List S) (h : Heap) (K : List (Nat × S) → HE → Option R) : Option R :=
  let one (x : Option V) : Option R := match x with | some v => K (wr o.dst (.v v)) (.sets []) | none => none
  match o.op with
  | .move x => movux false o x F K
  | .assign x => movux true o x F K
  | .pick c a b => (match evV F c, evV F a, evV F b with
    | some (.bool t), some x, some y => K (wr o.dst (.v (if t then x else y))) (.sets [])
    | some (.bool t), some x, none => if t then K (wr o.dst (.v x)) (.sets []) else none
    | some (.bool t), none, some y => if t then none else K (wr o.dst (.v y)) (.sets [])
    | _, _, _ => none)
  | .alloc e => (match zCells P e with | some cs => K (wr o.dst (.bx cs.length cs)) (.sets []) | none => none)
  | .box e x => (match evV F x, tSize P e with
    | some v, some n => if v.cells.length = n then K (wr o.dst (.bx n v.cells)) (.sets []) else none
    | _, _ => none)
  | .build t ps => (match evVs F (ps.toList.map (·.2)) with
    | some vs => (match bldV P t ((ps.toList.map (·.1)).zip vs) with | some cs => K (wr o.dst (.v (.agg cs))) (.sets []) | none => none)
    | none => none)
  | .buildSlice t n ps => (match evVs F (ps.toList.map (·.2)), eSize P t with
    | some vs, some (e, sz) => (match bslV P t n ((ps.toList.map (·.1)).zip vs) with | some (_, l) => K (wr o.dst (.own e sz l)) (.sets []) | none => none)
    | _, _ => none)
  | .load t x => (match tSize P t with
    | some n => placex F h x (fun cs m c => if c + n ≤ m ∧ 0 < n then one (ofPart (tAgg P t) cs c n) else none)
    | none => none)
  | .store t x y => (match evV F y, tSize P t with
    | some v, some n => if v.cells.length = n then writeux F h v.cells x (fun us hs => K (us ++ wr o.dst .sk) hs) else none
    | _, _ => none)
  | .nilCheck x => (match plus F 0 x with
    | some (.fp d sz i c) => if o.dst = some d then none else K (wr o.dst (.fp d sz i c)) (.sets [])
    | some s => K (wr o.dst s) (.sets [])
    | none => none)
  | .binOp op t x y _ => (match evV F x, evV F y with | some a, some b => one (bop P op t a b) | _, _ => none)
  | .unOp op _ x => (match evV F x with | some a => one (uop op a) | none => none)
  | .convert s d x => if cvtS P s d then (match evC F x with | some (_, l) => one ((u8s l).map fun ns => .str (strOfNums ns)) | none => none) else (match evV F x with | some a => one (cvt P s d a) | none => none)
  | .slice t x lo hi mx => (match eSize P t, evV F x with
    | some (_, sz), some (.sl sz' l ex) => (match optN F 0 lo, optN F l.length hi, optM F mx with
      | some a, some b, some m => if a ≤ b ∧ b ≤ l.length ∧ (sz' = sz ∨ l.isEmpty = true) ∧ (m = none ∨ m = some b) ∧ (mx.isNone || hi.isSome) = true then K (wr o.dst (.v (.sl sz ((l.take b).drop a) (m.isSome)))) (.sets []) else none
      | _, _, _ => none)
    | _, _ => none)
  | .fieldAddr s x k => (match fAt P s k with
    | some (off, _, _) => (match plus F off x with
      | some (.fp d sz i c) => if o.dst = some d then none else K (wr o.dst (.fp d sz i c)) (.sets [])
      | some y => K (wr o.dst y) (.sets [])
      | none => none)
    | none => none)
  | .field s x k => (match fAt P s k, evV F x with
    | some (off, n, ag), some (.agg cs) => if off + n ≤ cs.length then one (ofPart ag cs off n) else none
    | _, _ => none)
  | .indexAddr t x i => (match evN F i, eSize P t with
    | some n, some (_, sz) => (match x with
      | .tmp s => (match F[rt F s]? with
        | some (.own _ sz' l) => if sz' = sz ∧ n < l.length ∧ o.dst ≠ some (rt F s) then K (wr o.dst (.fp (rt F s) sz n 0)) (.sets []) else none
        | some (.v (.sl sz' l _)) => if sz' = sz then (match l[n]? with | some es => K (wr o.dst (.v (.iptr sz es 0))) (.sets []) | none => none) else none
        | _ => none)
      | _ => none)
    | _, _ => none)
  | .lookup t m k ok => (match P.underlying t, evV F m, evV F k with
    | some (.map kt et), some mv, some key => (match mapOf h mv, zCells P et, kds P 12 kt with
      | some es, some z, some ks => (match findI ks key es 0, ofPart (tAgg P et) z 0 z.length with
        | some r, some zero => (match entryV es zero r with
          | some v => if key.one = !tAgg P kt ∧ key.cells.length = ks.length ∧ zAgg P et = tAgg P et then (if ok then K (wr o.dst (.tup [v, .bool r.isSome])) (.sets []) else K (wr o.dst (.v v)) (.sets [])) else none
          | none => none)
        | _, _ => none)
      | _, _, _ => none)
    | _, _, _ => none)
  | .extract x i => (match x with | .tmp t => (match F[t]? with | some (.tup l) => one l[i]? | _ => none) | _ => none)
  | .call c => (match c.callee with
    | .value (.func f) => callux P rec keep gc o f [] c.args.toList F h K
    | .value (.tmp t) => (match F[t]? with
      | some (.v (.fn f caps)) => if okV P o.type f = true then calluv P rec keep gc o f caps c.args.toList F h K else none
      | _ => none)
    | .builtin b => bltux P o b c.argTypes.toList c.args.toList F K
    | _ => none)
  | _ => none
/-- .. where it is wanted -/
def gactx (all : Array Oper) (o : Oper) (F : List S) (h : Heap) (K : List (Nat × S) → HE → Option R) : Option R :=
  match o.guard with
  | none => actx P rec keep gc o F h K
  | some (j, want) => match (all[j]?).bind (·.dst) with
    | some d => (match F[d]? with
      | some (.v (.bool b)) => if b then (if want then actx P rec keep gc o F h K else K (wr o.dst .sk) (.sets [])) else (if want then K (wr o.dst .sk) (.sets []) else actx P rec keep gc o F h K)
      | some .sk => K (wr o.dst .sk) (.sets [])
      | _ => none)
    | none => none
/-- what an operation reads and writes: slots, blocks of the heap -/
structure Fpr where
  i : Nat
  r : List Nat
  w : List Nat
  hr : List Nat
  hw : List Nat
def disj (a b : List Nat) : Bool := a.all fun x => !b.contains x
def Fpr.ok (x y : Fpr) : Bool := disj x.w (y.r ++ y.w) && disj y.w x.r && disj x.hw (y.hr ++ y.hw) && disj y.hw x.hr
/-- whatever the text does not order, may be turned round -/
def okAll (ops : Array Oper) : List Fpr → Bool
  | [] => true
  | x :: l => l.all (fun y => (TR.descM x.i ops.toList 0 0).testBit y.i || x.ok y) && okAll ops l
def baseOf : Option S → Option Nat
  | some (.fp d _ _ _) => some d
  | _ => none
def blkOf : Option S → Option Nat
  | some (.v (.ptr b _)) => some b
  | some (.v (.map b)) => some b
  | _ => none
/-- is it a call that the heap is handed to? -/
def hcall (P : Program) (keep gc : FuncId → Bool) (o : Oper) (F : List S) : Bool := match o.op with
  | .call c => (match c.callee with
    | .value (.func f) => keep f && !gc f && (natF P f).isNone
    | .value (.tmp t) => (match F[t]? with | some (.v (.fn f _)) => keep f && !gc f && (natF P f).isNone | _ => false)
    | _ => false)
  | _ => false
/-- .. and slots, too? -/
def coarse (P : Program) (keep gc : FuncId → Bool) (o : Oper) (F : List S) : Bool := hcall P keep gc o F && (match o.op with | .call c => (evVs F c.args.toList).isNone | _ => false)
def rdS (P : Program) (keep gc : FuncId → Bool) (all : Array Oper) (o : Oper) (F : List S) : List Nat := o.looksAt all ++ (o.looksAt all).filterMap (fun s => baseOf F[s]?) ++ o.dst.toList ++ (if coarse P keep gc o F then List.range F.length else [])
def rdH (P : Program) (keep gc : FuncId → Bool) (all : Array Oper) (o : Oper) (F : List S) (h : Heap) : List Nat := (o.looksAt all).filterMap (fun s => blkOf F[s]?) ++ (if hcall P keep gc o F then List.range (h.length + 1) else [])
def loosex (all : Array Oper) : List (Oper × Nat) → List Fpr → List S → Heap → (List S → Heap → Option R) → Option R
  | [], acc, F, h, K => if okAll all acc = true then K F h else none
  | (o, i) :: l, acc, F, h, K =>
    if dstOk F o.dst = true then
      gactx P rec keep gc all o F h (fun us hs => loosex all l (acc ++ [⟨i, rdS P keep gc all o F, us.map (·.1), rdH P keep gc all o F h, hwE h hs⟩]) (appF F us) (appE h hs) K)
    else none
def opOf (ops : List Oper) (t : Nat) : Option Op := match ops.find? (fun o => o.dst == some t) with | some o => some o.op | none => none
/-- where a slot's value comes from: from elsewhere, not from what the call itself lays -/
def valSrc (P : Program) (V : List Nat) (ops : List Oper) : Nat → Nat → Bool
  | 0, _ => false
  | n + 1, t => match opOf ops t with
    | some (.move (.tmp j)) => V.contains j || valSrc P V ops n j
    | some (.call c) => (match c.callee with | .builtin _ => false | .value (.func f) => (natF P f).isNone | _ => true)
    | some (.extract ..) | some (.load ..) | some (.field ..) | some (.lookup ..) | some (.slice ..) => true
    | _ => V.contains t
/-- variables that are given such values in a code -/
def valSlots (P : Program) (V : List Nat) : Code → List Nat
  | .region _ ops _ => ops.toList.filterMap fun o => match o.op, o.dst with
    | .assign (.tmp t), some d => if valSrc P V ops.toList 8 t then some d else none
    | _, _ => none
  | .seq a b | .cond _ a b => valSlots P V a ++ valSlots P V b
  | .block _ b | .loop b | .scope b => valSlots P V b
  | _ => []
def valsOf (P : Program) (b : Code) : List Nat :=
  let v1 := valSlots P [] b
  let v2 := valSlots P v1 b
  valSlots P v2 b
/-- these are not the call's own any more -/
def freezeAll : List Nat → List S → List S
  | [], F => F
  | i :: l, F => freezeAll l (match F[i]? with
    | some (.own _ sz x) => (F.map (er1 i)).set i (.v (.sl sz x false))
    | _ => F)
/-- slots that are written, and that none looks at, are let go -/
def release (ops : Array Oper) : List Oper → List S → List S
  | [], F => F
  | o :: l, F => release ops l (match o.dst with
    | some d => (match F[d]? with
      | some (.own ..) | some (.bx ..) | some .gone => if ops.toList.all (fun p => !(p.looksAt ops).contains d) then put F (some d) .un else F
      | _ => F)
    | none => F)
/-- a loop: its state is handed from round to round -/
def loopx : Nat → (List V → Heap → (List V → Heap → Option R) → Option R) → List V → Heap → Option R
  | 0, _, _, _ => none
  | n + 1, body, st, h => body st h (loopx n body)

/-- the slots that a code writes -/
def mods : Code → List Nat
  | .region _ ops _ => ops.toList.filterMap (·.dst)
  | .seq a b | .cond _ a b => mods a ++ mods b
  | .block _ b | .loop b | .scope b => mods b
  | _ => []
/-- which slots a loop carries: those that it writes and that held something ahead of it; and what is the frame's own -/
def carried (ms : List Nat) : Nat → List S → List (Nat × Nat × Nat × Nat)
  | _, [] => []
  | i, .own e sz _ :: F => (i, 1, sz, e) :: carried ms (i + 1) F
  | i, .bx n _ :: F => (i, 2, n, 0) :: carried ms (i + 1) F
  | i, .gone :: F => (i, 3, 0, 0) :: carried ms (i + 1) F
  | i, .v _ :: F => if ms.contains i then (i, 0, 0, 0) :: carried ms (i + 1) F else carried ms (i + 1) F
  | i, _ :: F => carried ms (i + 1) F
def lsl : V → List (List V) | .sl _ l _ => l | _ => []
def lcs : V → List V | .agg l => l | _ => []
def gv (st : List V) (i : Nat) : V := st.getD i (.bool false)
/-- what is carried, as a slot -/
def restS (k n e : Nat) (v : V) : S := match k with | 1 => .own e n (lsl v) | 2 => .bx n (lcs v) | 3 => .gone | _ => .v v
/-- the frame at a round's head -/
def restore (F : List S) (st : List V) : List (Nat × Nat × Nat × Nat) → Nat → List S
  | [], _ => F
  | (s, k, n, e) :: cs, i => restore (F.set s (restS k n e (gv st i))) st cs (i + 1)
/-- what is carried, out of a frame -/
def gather (F : List S) : List (Nat × Nat × Nat × Nat) → Option (List V)
  | [] => some []
  | (s, k, n, e) :: cs => match F[s]?, gather F cs with
    | some (.own e' sz l), some r => if k = 1 ∧ sz = n ∧ e' = e then some (.sl sz l false :: r) else none
    | some (.bx m l), some r => if k = 2 ∧ m = n then some (.agg l :: r) else none
    | some (.v x), some r => if k = 0 then some (x :: r) else none
    | some .gone, some r => if k = 3 then some (.bool false :: r) else none
    | _, _ => none
/-- slots that mean nothing at a round's head -/
def forget (ms : List Nat) (cs : List (Nat × Nat × Nat × Nat)) : Nat → List S → List S
  | _, [] => []
  | i, s :: F => (if ms.contains i && !(cs.any (·.1 == i)) then .un else match s with | .fp d sz i c => if isAl sz i && !ms.contains d then .fp d sz i c else .un | s => s) :: forget ms cs (i + 1) F

variable (lp : (List V → Heap → (List V → Heap → Option R) → Option R) → List V → Heap → Option R) (draws : Array Oper → Bool)

def exec : Code → List S → Heap → (Ex → List S → Heap → Option R) → Option R
  | .skip, F, h, K | .label _, F, h, K => K .nrm F h
  | .region _ ops d, F, h, K => if d && !draws ops then (if (Region.noSelect ops && TR.backB ops) = true then loosex P rec keep gc ops ops.toList.zipIdx [] (release ops ops.toList F) h (fun F h => force F fun F => K .nrm F h) else none) else opsx P rec keep gc ops (if d then fun _ _ _ => none else fun v F h => K (.pan v) F h) ops.toList F h (fun F h => force F fun F => K .nrm F h)
  | .seq a b, F, h, K => exec a F h (fun e F h => match e with | .nrm => exec b F h K | e => K e F h)
  | .cond c a b, F, h, K => (match c with
    | .tmp t => (match F[t]? with
      | some (.v (.bool x)) => if x then exec a (F.set t (.v (.bool true))) h K else exec b (F.set t (.v (.bool false))) h K
      | _ => none)
    | .const (.bool x) => if x then exec a F h K else exec b F h K
    | _ => none)
  | .block id b, F, h, K => exec b F h (fun e F h => match e with | .ex i => if i = id then K .nrm F h else K (.ex i) F h | e => K e F h)
  | .exit id, F, h, K => K (.ex id) F h
  | .ret, F, h, K => K .ret F h
  | .loop b, F0, h, K =>
    let F := freezeAll (valsOf P b) F0
    let ms := mods b
    let cs := carried ms 0 F
    let F1 := forget ms cs 0 F
    match gather F cs with
    | some st => lp (fun st h next => exec b (restore F1 st cs 0) h (fun e F h => match e with
      | .nrm => (match gather F cs with | some st => next st h | none => none)
      | e => K e F h)) st h
    | none => none
  | _, _, _, _ => none

end exec

/-- a result that lies in a variable -/
def cellV (P : Program) (F : List S) (h : Heap) (x : Nat) (t : TypeId) : Option V := match place F h (.tmp x), tSize P t with
  | some (cs, m, c), some n => if c + n ≤ m ∧ 0 < n then ofPart (tAgg P t) cs c n else none
  | _, _ => none
/-- results -/
def resx (P : Program) (F : List S) (h : Heap) : List ResultVar → Option (List V × List S × Heap)
  | [] => some ([], F, h)
  | .tmp t :: rs => (match evE F h (.tmp t) with
    | some (v, F, h) => (match resx P F h rs with | some (vs, F, h) => some (v :: vs, F, h) | none => none)
    | none => none)
  | .cell x t :: rs => (match cellV P F h x t with
    | some v => (match resx P F h rs with | some (vs, F, h) => some (v :: vs, F, h) | none => none)
    | none => none)
/-- functions that are taken by what they answer -/
abbrev Ext := FuncId → Option (List V → Option (List V))
def callF (P : Program) (keep gc : FuncId → Bool) (draws : Array Oper → Bool) (ext : Ext) : Nat → FuncId → List V → Heap → Option (Res × Heap)
  | 0, _, _, _ => none
  | n + 1, f, args, h0 => match ext f with
   | some e => (match e args with | some vs => some (.ret vs, h0) | none => none)
   | none => match P.funcs[f]? with
    | none => none
    | some fn => match fn.body with
      | none => none
      | some c =>
        if fn.ntmps < args.length ∨ fn.name = "runtime.NumGoroutine" then none else
        let run (h : Heap) : Option (Res × Heap) := exec P (callF P keep gc draws ext n) keep gc (loopx n) draws c (args.map S.v ++ List.replicate (fn.ntmps - args.length) .un) h (fun e F h => match e with
          | .nrm | .ret => (match resx P F h fn.results.toList with | some (vs, _, h) => some (.ret vs, h) | none => none)
          | .pan v => some (.pan v, h)
          | _ => none)
        match mutF P f with
        | some (e, sz) => (match args with
          | .sl s1 l _ :: rest => if (s1 = sz ∧ (mods c).contains 0 = false) ∧ gc f = false then exec P (callF P keep gc draws ext n) keep gc (loopx n) draws c (.own e sz l :: (rest.map S.v ++ List.replicate (fn.ntmps - args.length) .un)) h0 (fun (x : Ex) (F : List S) (h : Heap) => match x with
            | .nrm | .ret => (match resx P F h fn.results.toList with
              | some (vs, F2, h) => (match F2[0]? with | some (S.own e' s' l') => if e' = e ∧ s' = sz then some (Res.ret (V.sl sz l' false :: vs), h) else none | _ => none)
              | none => none)
            | _ => none) else none
          | _ => none)
        | none =>
        if gc f then
          if V.free.freeL args then (match run [] with
            | some (.ret vs, _) => if V.free.freeL vs then some (.ret vs, h0) else none
            | some (.pan v, _) => if v.free then some (.pan v, h0) else none
            | none => none) else none
        else run h0
end Go.L
