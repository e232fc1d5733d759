/- Lsem: what the law needs of these -/import Derived.Below
import Derived.Laws.BytesArg
import Derived.Test.YtclhmdhdpejhhaaGreatJsv1
set_option linter.unusedVariables false
namespace Go.L
inductive V where
 | int (k:IntKind) (n:Int)
 | bool (b:Bool)
 | str (s:ByteArray)
 | val (v:Value)
 | agg (l:List V)
 | sl (sz:Nat) (l:List (List V)) (x:Bool)
 | ptr (b off:Nat)
 | iptr (sz:Nat) (l:List V) (off:Nat)
 | map (b:Nat)
 | row (b sz lo hi:Nat)
 | rptr (b sz i c:Nat)
 | fn (f:FuncId) (c:List V)
 | iface (t:TypeId) (v:V)
 | yld (b:Nat)
 | bf (f:FuncId) (c:List V)
 | mo (t:TypeId) (nm:String)
 deriving Inhabited
inductive S where
 | un
 | sk
 | v (x:V)
 | tup (l:List V)
 | own (e sz:Nat) (l:List (List V))
 | bx (n:Nat) (cs:List V)
 | fp (d sz i c:Nat)
 | gone
 deriving Inhabited
inductive Jmp where
 | ret
 | ex (id:Nat)
inductive LSt where
 | ready
 | busy
 | done (j:Jmp)
inductive HB where
 | box (n:Nat) (cs:List V)
 | map (es:List (V×V))
 | row (e sz:Nat) (l:List (List V)) (z:Bool)
 | dead
 | defb
 | loop (d:Nat) (vc:Bool) (fr:List (Option V)) (ps:List Nat) (as_ bd:Code) (st:LSt)
abbrev ze:=List HB
inductive Res where
 | ret (vs:List V)
 | pan (v:V)
inductive Ex where
 | nrm
 | ex (id:Nat)
 | ret
 | pan (v:V)
abbrev Rec:=FuncId->List V->ze->Option (Res×ze)
abbrev Ry:=Nat->List V->ze->Option (Bool×ze)
inductive Df where
 | call (f:FuncId) (vs:List V)
 | mark (d:Nat)
section types
variable (P:Program)
def Jy(t:TypeId):Option Nat:=match P.info? t,P.underlying t with|some i,some _=>some i.size|_,_=>none
def XY(t:TypeId):Bool:=match P.underlying t with|some (.struct _)|some (.array _ _)=>true|_=>false
def Ki(t:TypeId):Option TypeId:=match P.underlying t with|some (.slice e)=>some e|_=>none
def QQ(t:TypeId):Option (Nat×Nat):=match P.underlying t with|some (.slice e)=>(match P.info? e with|some i=>(match i.zero with|some z=>if i.size=0\/65536 < i.bytes\/z.cells.size≠i.size then none else some (e,i.size)|none=>none)|none=>none)|_=>none
def zcU(t:TypeId):Option (Nat×Nat):=match P.underlying t with|some (.array len e)=>(match P.info? e with|some i=>if i.size=0 then none else some (len,i.size)|none=>none)|_=>none
def aAt(t:TypeId):Option (Nat×TypeId×Nat):=match P.underlying t with
 | some (.array len e)=>(match Jy P e with|some n=>if n=0 then none else some (len,e,n)|none=>none)
 | _=>none
def fAt(s:TypeId)(k:Nat):Option (Nat×Nat×Bool):=match P.underlying s with
 | some (.struct fs)=>(match fs[k]? with
   | some f=>(match Jy P f.type with|some n=>if n=0 then none else some (f.offset,n,XY P f.type)|none=>none)
   | none=>none)
 | _=>none
def fTy(s:TypeId)(k:Nat):Option TypeId:=match P.underlying s with
 | some (.struct fs)=>(fs[k]?).map (·.type)
 | _=>none
end types
def qz : Value -> Option V
 | .int k n=>some (.int k n)
 | .bool b=>some (.bool b)
 | .string s=>some (.str s)
 | .pointer none=>some (.val (.pointer none))
 | .nilFunc=>some (.val .nilFunc)
 | .nilIface=>some (.val .nilIface)
 | .map none=>some (.val (.map none))
 | .slice none 0 0=>some (.sl 0 [] true)
 | _=>none
def KP : List Value -> Option (List V)
 | []=>some []
 | v :: l=>match qz v,KP l with|some x,some r=>some (x :: r)|_,_=>none
def ofValue : Value -> Option V
 | .agg cs=>(KP cs.toList).map .agg
 | v=>qz v
def Q1(P:Program)(t:TypeId):Option (List V):=match P.info? t with
 | some i=>(match i.zero with|some z=>if z.cells.size=i.size then KP z.cells.toList else none|none=>none)
 | none=>none
def V.one:V->Bool|.agg _=>false|_=>true
def zd1(P:Program)(t:TypeId):Bool:=match P.info? t with|some i=>(match i.zero with|some (.agg _)=>true|_=>false)|none=>false
def V.cells : V -> List V
 | .agg l=>l
 | v=>[v]
def Jd(agg:Bool)(cs:List V)(off n:Nat):Option V:=if agg then some (.agg ((cs.drop off).take n)) else cs[off]?
def setR (cs : List V) (o : Nat) : List V -> List V
 | [v]=>cs.set o v
 | vs=>cs.take o++vs++cs.drop (o+vs.length)
def qA(sz i:Nat):Bool:=sz == 0 && i == 1
def rt(F:List S)(t:Nat):Nat:=match F[t]? with|some (.fp d sz i _)=>if qA sz i then d else t|_=>t
def evV (F : List S) : Operand -> Option V
 | .tmp t=>match F[t]? with|some (.v x)=>some x|_=>none
 | .const v=>ofValue v
 | .func f=>some (.fn f [])
 | .global _=>none
def evN(F:List S)(o:Operand):Option Nat:=match evV F o with|some (.int _ n)=>if 0<=n then some n.toNat else none|_=>none
def qq(F:List S)(d:Nat):Option Operand->Option Nat
 | none=>some d
 | some y=>evN F y
def zdn (F : List S) : Option Operand -> Option (Option Nat)
 | none=>some none
 | some y=>(evN F y).map some
def jc(h:ze)(b sz lo hi:Nat):Option (List (List V)):=match h[b]? with
 | some (.row _ sz' l _)=>if sz'=sz/\lo<=hi/\hi<=l.length then some ((l.take hi).drop lo) else none
 | _=>none
def ZI (h : ze) : V -> Option (Nat × List (List V))
 | .sl sz l _=>some (sz,l)
 | .row b sz lo hi=>(jc h b sz lo hi).map fun l=>(sz,l)
 | _=>none
def evC (F : List S) (h : ze) : Operand -> Option (Nat × List (List V))
 | .tmp t=>match F[rt F t]? with
   | some (.own _ sz l)=>some (sz,l)
   | some (.v y)=>ZI h y
   | _=>none
 | .const (.slice none 0 0)=>some (0,[])
 | _=>none
def er1 (d : Nat) : S -> S
 | .fp e sz i c=>if e=d then .un else .fp e sz i c
 | s=>s
def put(F:List S)(d:Option Nat)(s:S):List S:=match d with
 | none=>F
 | some d=>match F[d]? with
   | some (.own ..)|some (.bx ..)|some .gone=>(F.map (er1 d)).set d s
   | _=>F.set d s
def zpW (d n : Nat) : S -> S
 | .fp e sz i c=>if e=d then(if i=0 then .v (.ptr n c) else .un) else .fp e sz i c
 | s=>s
def YV(F:List S)(h:ze)(d n:Nat)(cs:List V):List S×ze:=((F.map (zpW d h.length)).set d (.v (.ptr h.length 0)),h++[.box n cs])
def evE (vc : Bool) (F : List S) (h : ze) : Operand -> Option (V × List S × ze)
 | .tmp t=>match F[t]? with
   | some (.v x)=>some (x,F,h)
   | some (.own e sz l)=>if vc then some (.row h.length sz 0 l.length,(F.map (er1 t)).set t (.v (.row h.length sz 0 l.length)),h++[.row e sz l true]) else some (.sl sz l false,(F.map (er1 t)).set t (.v (.sl sz l false)),h)
   | some (.bx n cs)=>some (.ptr h.length 0,(YV F h t n cs).1,(YV F h t n cs).2)
   | some (.fp d sz i c)=>(match F[d]? with
     | some (.own e sz' l)=>if qA sz i then(if vc then some (.row h.length sz' 0 l.length,(F.map (er1 d)).set d (.v (.row h.length sz' 0 l.length)),h++[.row e sz' l true]) else some (.sl sz' l false,(F.map (er1 d)).set d (.v (.sl sz' l false)),h)) else none
     | some (.bx n cs)=>if i=0 then some (.ptr h.length c,(YV F h d n cs).1,(YV F h d n cs).2) else none
     | _=>none)
   | _=>none
 | .const v=>(ofValue v).map (·,F,h)
 | .func f=>some (.fn f [],F,h)
 | .global _=>none
def YL (vc : Bool) (F : List S) (h : ze) : List Operand -> Option (List V × List S × ze)
 | []=>some ([],F,h)
 | o :: os=>match evE vc F h o with
   | some (v,F,h)=>(match YL vc F h os with|some (vs,F,h)=>some (v :: vs,F,h)|none=>none)
   | none=>none
def frzNames:List String:=["reaper/sorted.by[reaper/api.Op,int32]$1","reaper/match.Apply$2","reaper/match.Apply$3","reaper/ends.Apply$1"]
def zwM(P:Program)(f:FuncId):Bool:=match P.funcs[f]? with|some fn=>frzNames.contains fn.name|none=>false
def zpX (d n : Nat) (cs : List V) : S -> S
 | .fp e sz i c=>if e=d then(if i=0 then .v (.iptr n cs c) else .un) else .fp e sz i c
 | s=>s
def zu8(z vc:Bool)(F:List S)(h:ze)(o:Operand):Option (V×List S×ze):=match z,o with
 | true,.tmp t=>(match F[t]? with
   | some (.bx n cs)=>some (.iptr n cs 0,(F.map (zpX t n cs)).set t (.v (.iptr n cs 0)),h)
   | _=>evE vc F h (.tmp t))
 | _,o=>evE vc F h o
def zin (z vc : Bool) (F : List S) (h : ze) : List Operand -> Option (List V × List S × ze)
 | []=>some ([],F,h)
 | o :: os=>match zu8 z vc F h o with
   | some (v,F,h)=>(match zin z vc F h os with|some (vs,F,h)=>some (v :: vs,F,h)|none=>none)
   | none=>none
def Wp (h : ze) : V -> Option V
 | .row b sz lo hi=>(jc h b sz lo hi).map fun l=>.sl sz l false
 | x=>some x
def evB (F : List S) (h : ze) : Operand -> Option V
 | .tmp t=>match F[rt F t]? with
   | some (.v x)=>Wp h x
   | some (.own _ sz l)=>some (.sl sz l false)
   | _=>none
 | .const v=>ofValue v
 | .func f=>some (.fn f [])
 | .global _=>none
def YW (F : List S) (h : ze) : List Operand -> Option (List V)
 | []=>some []
 | o :: os=>match evB F h o,YW F h os with|some v,some vs=>some (v :: vs)|_,_=>none
def V.free : V -> Bool
 | .int ..|.bool _|.str _|.val _=>true
 | .agg l=>freeL l
 | .sl _ l _=>freeLL l
 | .fn _ c|.bf _ c=>freeL c
 | .mo ..=>true
 | .iface _ v=>v.free
 | .ptr ..|.iptr ..|.map _|.row ..|.rptr ..|.yld _=>false
 where
 freeL:List V->Bool
 | []=>true
 | v :: l=>v.free && freeL l
 freeLL:List (List V)->Bool
 | []=>true
 | v :: l=>freeL v && freeLL l
def V.simple : V -> Bool
 | .int ..|.bool _|.str _|.val _=>true
 | .agg l=>simpleL l
 | _=>false
 where
 simpleL:List V->Bool
 | []=>true
 | v :: l=>v.simple && simpleL l
def zs4(op:BinOp)(k:IntKind)(a b:Int):Option V :=
 match op with
 | .add=>some (.int k (k.wrap (a+b)))
 | .sub=>some (.int k (k.wrap (a - b)))
 | .mul=>some (.int k (k.wrap (a * b)))
 | .quo=>if b=0 then none else some (.int k (k.wrap (a.tdiv b)))
 | .rem=>if b=0 then none else some (.int k (a.tmod b))
 | .and=>some (.int k (k.wrap (BitVec.ofInt k.bits a &&& BitVec.ofInt k.bits b).toNat))
 | .or=>some (.int k (k.wrap (BitVec.ofInt k.bits a ||| BitVec.ofInt k.bits b).toNat))
 | .xor=>some (.int k (k.wrap (BitVec.ofInt k.bits a ^^^ BitVec.ofInt k.bits b).toNat))
 | .andNot=>some (.int k (k.wrap (BitVec.ofInt k.bits a &&& ~~~ (BitVec.ofInt k.bits b)).toNat))
 | .eql=>some (.bool (a == b))
 | .neq=>some (.bool (a != b))
 | .lss=>some (.bool (a < b))
 | .leq=>some (.bool (a<=b))
 | .gtr=>some (.bool (a > b))
 | .geq=>some (.bool (a ≥ b))
 | _=>none
def zu9(op:BinOp)(k:IntKind)(a b:Int):Option V :=
 if b < 0 then none else match op with
 | .shl=>some (.int k (k.wrap (a * 2 ^ (min b.toNat k.bits))))
 | .shr=>some (.int k (a.fdiv (2 ^ (min b.toNat k.bits))))
 | _=>none
def zdH:BinOp->Bool|.shl|.shr=>true|_=>false
def kds (P : Program) : Nat -> TypeId -> Option (List Nat)
 | 0,_=>none
 | d+1,t=>match P.underlying t with
   | some (.int _)=>some [0]
   | some .bool=>some [1]
   | some .string=>some [2]
   | some (.struct fs)=>if P.stoodInHeld t then none else
       fs.toList.foldlM (fun(acc:List Nat) f=>if f.name≠ "_"/\f.offset=acc.length then(match kds P d f.type with|some ks=>if Jy P f.type=some ks.length then some (acc++ks) else none|none=>none) else none) []
   | _=>none
def eqK : List Nat -> List V -> List V -> Option Bool
 | [],[],[]=>some true
 | 0 :: ks,.int k a :: l,.int k' b :: m=>if k=k' then(match eqK ks l m with|some r=>some (a == b && r)|none=>none) else none
 | 1 :: ks,.bool a :: l,.bool b :: m=>(match eqK ks l m with|some r=>some (a == b && r)|none=>none)
 | 2 :: ks,.str a :: l,.str b :: m=>(match eqK ks l m with|some r=>some (a.toList == b.toList && r)|none=>none)
 | _,_,_=>none
def neg(op:BinOp)(b:Bool):Bool:=match op with|.neq=>!b|_=>b
def YM:BinOp->Bool|.eql|.neq=>true|_=>false
def bop(P:Program)(op:BinOp)(t:TypeId)(x y:V):Option V :=
 match P.underlying t,x,y with
 | some (.int _),.int k a,.int k' b=>if zdH op then zu9 op k a b else if k=k' then zs4 op k a b else none
 | some .bool,.bool a,.bool b=>if YM op then some (.bool (neg op (a == b))) else none
 | some .string,.str a,.str b=>if YM op then some (.bool (neg op (a.toList == b.toList))) else none
 | some (.struct _),.agg l,.agg m=>if YM op && !P.eqGuardType P.depth t then(match kds P 12 t with|some ks=>(match eqK ks l m with|some b=>some (.bool (neg op b))|none=>none)|none=>none) else none
 | some (.pointer _),.val (.pointer none),.val (.pointer none)=>if YM op then some (.bool (neg op true)) else none
 | some (.pointer _),.val (.pointer none),.ptr ..|some (.pointer _),.ptr ..,.val (.pointer none)=>if YM op then some (.bool (neg op false)) else none
 | some (.pointer _),.rptr ..,.val (.pointer none)|some (.pointer _),.iptr ..,.val (.pointer none)=>if YM op then some (.bool (neg op false)) else none
 | _,_,_=>none
def Qq(P:Program)(h:ze)(op:BinOp)(t:TypeId)(x y:V):Option V :=
 match P.underlying t,x,y with
 | some (.pointer e),.ptr p i,.ptr q j=>if YM op && (P.info? e).any (·.size != 0) then(match h[p]?,h[q]? with|some (.box ..),some (.box ..)=>some (.bool (neg op (p == q && i == j)))|_,_=>none) else none
 | _,_,_=>bop P op t x y
def isC:Operand->Bool|.const _=>true|_=>false
def za3(P:Program)(h:ze)(op:BinOp)(t:TypeId)(c:Bool)(x y:V):Option V :=
 match P.underlying t,x,y with
 | some (.interface _),.val .nilIface,.val .nilIface=>if YM op && c then some (.bool (neg op true)) else none
 | some (.interface _),.iface ..,.val .nilIface=>if YM op then some (.bool (neg op false)) else none
 | some (.func _ _ _),.val .nilFunc,.val .nilFunc=>if YM op then some (.bool (neg op true)) else none
 | some (.func _ _ _),.fn ..,.val .nilFunc|some (.func _ _ _),.bf ..,.val .nilFunc|some (.func _ _ _),.mo ..,.val .nilFunc=>if YM op then some (.bool (neg op false)) else none
 | _,_,_=>Qq P h op t x y
def zv4(P:Program)(t:TypeId):Bool:=match P.underlying t with|some (.interface _)|some (.func _ _ _)=>true|_=>false
def zog:V->Bool|.fn ..|.bf ..|.mo ..|.iface ..=>true|_=>false
def zd2(P:Program)(t:TypeId):Bool:=match P.underlying t with|some (.interface _)=>true|_=>false
def zpY(P:Program)(t:TypeId)(ok:Bool)(x:V):Option (V×Bool):=match P.underlying t,Q1 P t with
 | some _,some z=>if zd2 P t || !(zd1 P t == XY P t) then none else(match x,Jd (XY P t) z 0 z.length with
   | .iface t' v,some zero=>if t'=t then some (v,true) else(if ok then some (zero,false) else none)
   | .val .nilIface,some zero=>if ok then some (zero,false) else none
   | _,_=>none)
 | _,_=>none
def zut(ok:Bool)(v:V)(b:Bool):S:=match ok with|true=>.tup [v,.bool b]|false=>.v v
def uop(op:UnOp)(x:V):Option V:=match op,x with
 | .neg,.int k n=>some (.int k (k.wrap (0 - n)))
 | .xor,.int k n=>some (.int k (k.wrap (BitVec.ofInt k.bits (if k.signed then -1 else k.max) ^^^ BitVec.ofInt k.bits n).toNat))
 | .not,.bool b=>some (.bool !b)
 | _,_=>none
def cvt(P:Program)(s d:TypeId)(x:V):Option V:=match P.underlying s,P.underlying d,x with
 | some (.int _),some (.int k),.int _ n=>some (.int k (k.wrap n))
 | some .string,some .string,.str a=>some (.str a)
 | _,_,_=>none
def zoh(P:Program)(s d:TypeId):Bool:=match P.underlying s,P.underlying d with
 | some (.slice e),some .string=>(match P.underlying e with|some (.int .u8)=>true|_=>false)
 | _,_=>false
def u8s : List (List V) -> Option (List Int)
 | []=>some []
 | [.int .u8 n] :: l=>(match u8s l with|some r=>some (n :: r)|none=>none)
 | _=>none
def mm (mx : Bool) : List V -> Option V
 | [.int k a,.int k' b]=>if k=k' then some (.int k (if mx then(if a < b then b else a) else(if b < a then b else a))) else none
 | _=>none
def zcV (place : Nat -> Option (Nat × Nat)) (cs : List V) : List (Nat × V) -> Option (List V)
 | []=>some cs
 | (i,v) :: rest=>match place i with
   | some (off,n)=>if v.cells.length=n/\off+n<=cs.length then zcV place (setR cs off v.cells) rest else none
   | none=>none
def zg5(P:Program)(t:TypeId):Option (List (Nat×Nat)):=match P.underlying t with
 | some (.struct fs)=>fs.toList.mapM (fun f=>(Jy P f.type).map (f.offset,·))
 | _=>none
def lim:Nat:=2147483648
def app(e sz:Nat)(s:S)(news:List (List V)):Option (List (List V)):=match s with
 | .own e' sz' l=>if e'=e/\sz'=sz/\l.length+news.length < lim then some (l++news) else none
 | .v (.sl sz' l true)=>if (sz'=sz\/l.isEmpty=true)/\l.length+news.length < lim/\!news.isEmpty then some (l++news) else none
 | _=>none
def Wz(P:Program)(t:TypeId)(ps:List (Nat×V)):Option (List V):=match Q1 P t,zg5 P t with
 | some z,some pl=>zcV (fun i=>pl[i]?) z ps
 | some z,none=>(match zcU P t with|some (_,sz)=>zcV (fun i=>some (i * sz,sz)) z ps|none=>none)
 | _,_=>none
def K6(P:Program)(t:TypeId)(n:Nat)(ps:List (Nat×V)):Option (Nat×List (List V)):=match QQ P t,(Ki P t).bind (Q1 P) with
 | some (_,sz),some z=>if z.length=sz/\n * sz<=65536/\0 < n then
     (match ps.foldlM (fun(l:List (List V)) (p:Nat×V)=>if p.2.cells.length=sz/\p.1 < l.length then some (l.set p.1 p.2.cells) else none) (List.replicate n z) with
     | some l=>some (sz,l)
     | none=>none) else none
 | _,_=>none
def keq(ks:List Nat)(k x:V):Option Bool:=if k.one=x.one then eqK ks k.cells x.cells else none
def Qp (ks : List Nat) (k : V) : List (V × V) -> Nat -> Option (Option Nat)
 | [],_=>some none
 | (x,_) :: es,i=>match keq ks k x with
   | some true=>some (some i)
   | some false=>Qp ks k es (i+1)
   | none=>none
def J1 (es : List (V × V)) (zero : V) : Option Nat -> Option V
 | some i=>(es[i]?).map (·.2)
 | none=>some zero
def upd (es : List (V × V)) (k v : V) : Option Nat -> List (V × V)
 | some i=>es.set i (k,v)
 | none=>es++[(k,v)]
def Yy (h : ze) : V -> Option (List (V × V))
 | .map b=>(match h[b]? with|some (.map es)=>some es|_=>none)
 | .val (.map none)=>some []
 | _=>none
def Zv (h : ze) : V -> Option (List V × Nat × Nat)
 | .ptr b o=>(match h[b]? with|some (.box n cs)=>some (cs,n,o)|_=>none)
 | .iptr n cs o=>some (cs,n,o)
 | .rptr b sz i c=>(match h[b]? with|some (.row _ sz' l _)=>if sz'=sz/\0 < sz then(match l[i]? with|some es=>some (es,sz,c)|none=>none) else none|_=>none)
 | _=>none
def Zl (h : ze) (vs : List V) : V -> Option (Nat × HB)
 | .ptr b o=>(match h[b]? with|some (.box n cs)=>if o+vs.length<=n then some (b,.box n (setR cs o vs)) else none|_=>none)
 | .rptr b sz i c=>(match h[b]? with|some (.row e sz' l z)=>if sz'=sz/\0 < sz/\c+vs.length<=sz then(match l[i]? with|some es=>some (b,.row e sz (l.set i (setR es c vs)) z)|none=>none) else none|_=>none)
 | _=>none
def ZD (k : Nat) : V -> Option V
 | .ptr b o=>some (.ptr b (o+k))
 | .iptr n cs o=>some (.iptr n cs (o+k))
 | .rptr b sz i c=>some (.rptr b sz i (c+k))
 | _=>none
def zcm:V->Option Nat
 | .sl _ l _=>some l.length
 | .row _ _ lo hi=>some (hi - lo)
 | _=>none
def Je (sz a b : Nat) (m : Option Nat) (ok : Bool) : V -> Option V
 | .sl sz' l _=>if a<=b/\b<=l.length/\(sz'=sz\/l.isEmpty=true)/\(m=none\/m=some b)/\ok=true then some (.sl sz ((l.take b).drop a) m.isSome) else none
 | .row r sz' u v=>if (a<=b/\b<=v - u/\sz'=sz)/\m=none then some (.row r sz (u+a) (u+b)) else(if (a=b/\b<=v - u/\sz'=sz)/\m=some b/\ok=true then some (.sl sz [] true) else none)
 | _=>none
def Jz (sz n : Nat) : V -> Option V
 | .sl sz' l _=>if sz'=sz then(match l[n]? with|some es=>some (.iptr sz es 0)|none=>none) else none
 | .row b sz' lo hi=>if sz'=sz/\n < hi - lo then some (.rptr b sz (lo+n) 0) else none
 | _=>none
def esP:V->List V|.iptr _ es _=>es|_=>[]
def ixP:V->Nat|.rptr _ _ i _=>i|_=>0
def jd(y z:V):V:=match y with
 | .sl sz _ _=>.iptr sz (esP z) 0
 | .row b sz _ _=>.rptr b sz (ixP z) 0
 | _=>z
theorem zs5{sz n:Nat}{y z:V}(h:Jz sz n y=some z):jd y z=z:=by
 cases y with
 | sl sz' l b =>
   simp only[Jz] at h;split at h
   . rename_i hc;split at h
     . cases h;subst hc;rfl
     . cases h
   . cases h
 | row b sz' lo hi =>
   simp only[Jz] at h;split at h
   . rename_i hc;cases h;obtain⟨rfl,_⟩:=hc;rfl
   . cases h
 | _=>rfl
def Ws (e sz : Nat) (h : ze) (news : List (List V)) : V -> Option (V × ze)
 | .row b sz1 lo hi=>(match h[b]? with
   | some (.row e1 sz2 l z)=>if (e1=e/\sz2=sz/\sz1=sz)/\(lo<=hi/\hi<=l.length)/\(hi - lo)+news.length < lim then some (.row h.length sz 0 ((hi - lo)+news.length),h.set b .dead++[.row e sz ((l.take hi).drop lo++news) (z && lo == 0)]) else none
   | _=>none)
 | .sl s1 l1 x=>if news.isEmpty=true/\x=true then some (.sl s1 l1 x,h) else(match app e sz (.v (.sl s1 l1 x)) news with|some l=>some (.row h.length sz 0 l.length,h++[.row e sz l true])|none=>none)
 | _=>none
def place (F : List S) (h : ze) : Operand -> Option (List V × Nat × Nat)
 | .tmp s=>match F[s]? with
   | some (.bx n cs)=>some (cs,n,0)
   | some (.fp d sz i c)=>(match F[d]? with
     | some (.bx n cs)=>if i=0 then some (cs,n,c) else none
     | some (.own _ sz' l)=>if sz'=sz/\0 < sz then(match l[i]? with|some es=>some (es,sz,c)|none=>none) else none
     | _=>none)
   | some (.v y)=>Zv h y
   | _=>none
 | _=>none
def write (F : List S) (h : ze) (vs : List V) : Operand -> Option (List S × ze)
 | .tmp s=>match F[s]? with
   | some (.bx n cs)=>if vs.length<=n then some (F.set s (.bx n (setR cs 0 vs)),h) else none
   | some (.fp d sz i c)=>(match F[d]? with
     | some (.bx n cs)=>if i=0/\c+vs.length<=n then some (F.set d (.bx n (setR cs c vs)),h) else none
     | some (.own e sz' l)=>if sz'=sz/\0 < sz/\c+vs.length<=sz then(match l[i]? with|some es=>some (F.set d (.own e sz (l.set i (setR es c vs))),h)|none=>none) else none
     | _=>none)
   | some (.v y)=>(match Zl h vs y with|some (b,x)=>some (F,h.set b x)|none=>none)
   | _=>none
 | _=>none
def YN{R:Type}(F:List S)(h:ze)(x:Operand)(K:List V->Nat->Nat->Option R):Option R:=match x with
 | .tmp s=>match F[s]? with
   | some (.bx n cs)=>K cs n 0
   | some (.fp d sz i c)=>(match F[d]? with
     | some (.bx n cs)=>if i=0 then K cs n c else none
     | some (.own _ sz' l)=>if sz'=sz/\0 < sz then(match l[i]? with|some es=>K es sz c|none=>none) else none
     | _=>none)
   | some (.v y)=>(match Zv h y with|some (cs,n,c)=>K cs n c|none=>none)
   | _=>none
 | _=>none
def zd3{R:Type}(F:List S)(h:ze)(vs:List V)(x:Operand)(K:List S->ze->Option R):Option R:=match x with
 | .tmp s=>match F[s]? with
   | some (.bx n cs)=>if vs.length<=n then K (F.set s (.bx n (setR cs 0 vs))) h else none
   | some (.fp d sz i c)=>(match F[d]? with
     | some (.bx n cs)=>if i=0/\c+vs.length<=n then K (F.set d (.bx n (setR cs c vs))) h else none
     | some (.own e sz' l)=>if sz'=sz/\0 < sz/\c+vs.length<=sz then(match l[i]? with|some es=>K (F.set d (.own e sz (l.set i (setR es c vs)))) h|none=>none) else none
     | _=>none)
   | some (.v y)=>(match Zl h vs y with|some (b,x)=>K F (h.set b x)|none=>none)
   | _=>none
 | _=>none
def zs6 (F : List S) (k : Nat) : Operand -> Option S
 | .tmp s=>match F[s]? with
   | some (.bx _ _)=>some (.fp s 0 0 k)
   | some (.fp d sz i c)=>if qA sz i then none else some (.fp d sz i (c+k))
   | some (.v y)=>(match ZD k y with|some z=>some (.v z)|none=>none)
   | _=>none
 | _=>none
def Kj{R:Type}(F:List S)(k:Nat)(x:Operand)(dst:Option Nat)(K:S->Option R):Option R:=match x with
 | .tmp s=>match F[s]? with
   | some (.bx _ _)=>if dst=some s then none else K (.fp s 0 0 k)
   | some (.fp d sz i c)=>if qA sz i then none else if dst=some d then none else K (.fp d sz i (c+k))
   | some (.v y)=>(match ZD k y with|some z=>K (.v z)|none=>none)
   | _=>none
 | _=>none
def zdI (P : Program) : List FieldStep -> TypeId -> V -> Option (TypeId × V)
 | [],t,x=>some (t,x)
 | s :: r,_,x=>if s.deref then none else(match fAt P s.struct s.index,fTy P s.struct s.index,x with
   | some (off,n,ag),some ft,.agg cs=>if off+n<=cs.length then(match Jd ag cs off n with|some y=>zdI P r ft y|none=>none) else none
   | _,_,_=>none)
def JR(P:Program)(t:TypeId)(v:V)(nm:String):Option (FuncId×V):=match P.info? t with
 | some i=>(match i.methods.find? (·.name == nm) with
   | some m=>(match m.func,zdI P m.path.toList t v with
     | some (f,pr),some (xt,x)=>(match P.underlying xt,pr with
       | some (.pointer _),true=>some (f,x)
       | some (.pointer _),false|some _,true|none,_=>none
       | some _,false=>some (f,x))
     | _,_=>none)
   | none=>none)
 | none=>none
section exec
variable {R:Type} (P:Program) (rec:Rec) (keep gc:FuncId->Bool) (vc:Bool)
def zwN(nm:String):Option Nat:=if nm= "slices.Clone[[]int32,int32]"\/nm= "slices.Clone[[]bool,bool]"\/nm= "slices.Clone[[]int64,int64]" then some 0 else if nm= "slices.Clone[[]reaper/api.Item,reaper/api.Item]" then some 3 else if nm= "slices.Insert[[]int32,int32]" then some 1 else if nm= "slices.Delete[[]int32,int32]" then some 2 else none
def zv5(k:Nat):Nat:=if k=3 then 3 else 1
def natF(P:Program)(f:FuncId):Option (Nat×Nat):=match P.funcs[f]? with
 | some fn=>(match zwN fn.name with
   | some k=>(match fn.params[0]? with
     | some t=>(match QQ P t with|some (e,sz)=>if sz=zv5 k then some (k,e) else none|none=>none)
     | none=>none)
   | none=>none)
 | none=>none
def evI(F:List S)(o:Operand):Option Nat:=match evV F o with|some (.int .i64 n)=>if 0<=n then some n.toNat else none|_=>none
def zio(o:Oper)(k e:Nat)(args:List Operand)(F:List S)(h:ze)(K:List S->Option R):Option R:=match k,args with
 | 0,[x]=>(match evC F h x with
   | some (sz,l)=>if (sz=1\/l.isEmpty=true)/\l.length < lim then K (put F o.dst (.own e 1 l)) else none
   | none=>none)
 | 3,[x]=>(match evC F h x with
   | some (sz,l)=>if (sz=3\/l.isEmpty=true)/\l.length < lim then K (put F o.dst (.own e 3 l)) else none
   | none=>none)
 | 1,[.tmp s,i,.tmp y]=>(match F[rt F s]?,evI F i,F[rt F y]? with
   | some (.own e1 s1 l),some n,some (.own e2 s2 [x])=>if (e1=e/\s1=1)/\(e2=e/\s2=1)/\rt F s≠rt F y/\n<=l.length/\l.length+1 < lim then K (put (F.set (rt F s) .gone) o.dst (.own e 1 (l.take n++[x]++l.drop n))) else none
   | _,_,_=>none)
 | 2,[.tmp s,i,j]=>(match F[rt F s]?,evI F i,evI F j with
   | some (.own e1 s1 l),some n,some m=>if (e1=e/\s1=1)/\n < m/\m<=l.length/\l.length < lim then K (put (F.set (rt F s) .gone) o.dst (.own e 1 (l.take n++l.drop m))) else none
   | _,_,_=>none)
 | _,_=>none
def zcn(P:Program)(f:FuncId):Bool:=match P.funcs[f]? with|some fn=>fn.results.size == 1|none=>false
def zco(f:FuncId)(d:Option Nat)(vs:List V)(F:List S)(h:ze)(K:List S->ze->Option R):Option R :=
 if zcn P f then(match vs with|[v]=>K (put F d (.v v)) h|_=>none) else K (put F d (.tup vs)) h
def zcp(o:Oper)(f:FuncId)(caps:List V)(args:List Operand)(F:List S)(h:ze)(K:List S->ze->Option R)(Z:V->List S->ze->Option R):Option R :=
 match natF P f with
 | some (k,e)=>if caps.isEmpty then zio o k e args F h (fun F=>K F h) else none
 | none =>
 if keep f then
  match YL vc F h args with
  | some (vs,F,h)=>(match rec f (vs++caps) h with
    | some (.ret vs,h)=>zco P f o.dst vs F h K
    | some (.pan v,h)=>Z v F h
    | none=>none)
  | none=>none
 else if gc f then
  match YW F h args with
  | some vs=>(match rec f (vs++caps) h with
    | some (.ret vs,h)=>if V.simple.simpleL vs then zco P f o.dst vs F h K else none
    | some (.pan v,h)=>if v.simple then Z v F h else none
    | none=>none)
  | none=>none
 else none
def mutNames:List String:=["slices.SortStableFunc[[]int,int]","slices.stableCmpFunc[int]","slices.insertionSortCmpFunc[int]","slices.symMergeCmpFunc[int]","slices.rotateCmpFunc[int]","slices.swapRangeCmpFunc[int]"]
def YX(P:Program)(f:FuncId):Option (Nat×Nat):=match P.funcs[f]? with
 | some fn=>if mutNames.contains fn.name then(match fn.params[0]? with|some t=>QQ P t|none=>none) else none
 | none=>none
def zuu(o:Oper)(f:FuncId)(e sz:Nat)(caps:List V)(args:List Operand)(F:List S)(h:ze)(K:List S->ze->Option R):Option R:=match args with
 | .tmp s :: rest=>(match YL vc F h rest with
   | some (vs,F1,h1)=>(match F1[rt F s]? with
     | some (.own e1 s1 l)=>if (e1=e/\s1=sz)/\o.dst≠some (rt F s) then(match rec f (.sl sz l false :: (vs++caps)) h1 with
       | some (.ret (.sl s2 l' _ :: rs),h2)=>if s2=sz then zco P f o.dst rs (F1.set (rt F s) (.own e sz l')) h2 K else none
       | _=>none) else none
     | some (.v (.row b s1 lo hi))=>(match h1[b]? with
       | some (.row e1 s3 l true)=>if (e1=e/\s1=sz/\s3=sz)/\(lo=0/\hi=l.length) then(match rec f (.sl sz l false :: (vs++caps)) (h1.set b .dead) with
         | some (.ret (.sl s2 l' _ :: rs),h2)=>if s2=sz/\l'.length=l.length then zco P f o.dst rs F1 (h2.set b (.row e sz l' true)) K else none
         | _=>none) else none
       | _=>none)
     | _=>none)
   | none=>none)
 | _=>none
def zd4(o:Oper)(f:FuncId)(caps:List V)(args:List Operand)(F:List S)(h:ze)(K:List S->ze->Option R)(Z:V->List S->ze->Option R):Option R:=match YX P f with
 | some (e,sz)=>zuu P rec vc o f e sz caps args F h K
 | none=>zcp P rec keep gc vc o f caps args F h K Z
def zk8(tup:Bool)(d:Option Nat)(vs:List V)(F:List S)(h:ze)(K:List S->ze->Option R):Option R :=
 if tup then K (put F d (.tup vs)) h else(match vs with|[v]=>K (put F d (.v v)) h|_=>none)
def qs(P:Program)(t:TypeId):Bool:=match P.underlying t with|some (.tuple _)=>true|_=>false
def okV(P:Program)(t:TypeId)(f:FuncId):Bool:=(YX P f).isNone && ((natF P f).isNone && (zcn P f == !qs P t))
def zmK(o:Oper)(f:FuncId)(caps:List V)(args:List Operand)(F:List S)(h:ze)(K:List S->ze->Option R)(Z:V->List S->ze->Option R):Option R :=
 if keep f then
  match YL vc F h args with
  | some (vs,F,h)=>(match rec f (vs++caps) h with
    | some (.ret vs,h)=>zk8 (qs P o.type) o.dst vs F h K
    | some (.pan v,h)=>Z v F h
    | none=>none)
  | none=>none
 else if gc f then
  match YW F h args with
  | some vs=>(match rec f (vs++caps) h with
    | some (.ret vs,h)=>if V.simple.simpleL vs then zk8 (qs P o.type) o.dst vs F h K else none
    | some (.pan v,h)=>if v.simple then Z v F h else none
    | none=>none)
  | none=>none
 else none
def zd5(o:Oper)(f:FuncId)(pre:List V)(args:List Operand)(F:List S)(h:ze)(K:List S->ze->Option R)(Z:V->List S->ze->Option R):Option R :=
 if keep f=true/\okV P o.type f=true then
  match YL vc F h args with
  | some (vs,F,h)=>(match rec f (pre++vs) h with
    | some (.ret vs,h)=>zk8 (qs P o.type) o.dst vs F h K
    | some (.pan v,h)=>Z v F h
    | none=>none)
  | none=>none
 else none
def zuv(o:Oper)(t:TypeId)(nm:String)(args:List Operand)(F:List S)(h:ze)(K:List S->ze->Option R)(Z:V->List S->ze->Option R):Option R:=match args with
 | x :: rest=>(match evE vc F h x with
   | some (v,F,h)=>if zd2 P t=false/\(P.underlying t).isSome=true then(match JR P t v nm with
     | some (f,r)=>zd5 P rec keep vc o f [r] rest F h K Z
     | none=>none) else none
   | none=>none)
 | []=>none
theorem zbr {o : Oper} {f : FuncId} (h : okV P o.type f = true) (caps : List V) (args : List Operand) (F : List S) (hh : ze) (K : List S -> ze -> Option R) (Z : V -> List S -> ze -> Option R) :
    zmK P rec keep gc vc o f caps args F hh K Z=zd4 P rec keep gc vc o f caps args F hh K Z:=by
 unfold okV at h;rw[zE,zE,beq_iff_eq] at h;have hm:YX P f=none:=by simpa using h.1
 replace h:=h.2
 have hn:natF P f=none:=by simpa using h.1
 have hr:∀ d vs F h (K:List S->ze->Option R),zk8 (qs P o.type) d vs F h K=zco P f d vs F h K:=fun d vs F hh K=>by
  unfold zk8 zco;rw[h.2];cases qs P o.type <;> rfl
 unfold zmK zd4 zcp;rw[hm,hn];simp only[hr]
def zg6(P:Program)(t:TypeId):Bool:=match P.underlying t with|some (.int _)=>true|_=>false
def zg7:V->Bool|.sl _ [] true=>true|_=>false
def zmL:V->Bool|.row ..=>true|_=>false
def zfs(o:Oper)(b:Builtin)(ts:List TypeId)(args:List Operand)(F:List S)(h:ze)(K:List S->ze->Option R):Option R :=
 match b,ts,args with
 | .len,[t],[x]=>(match P.underlying t with
   | some (.slice _)=>(match evC F h x with|some (_,l)=>K (put F o.dst (.v (.int .i64 l.length))) h|none=>none)
   | some .string=>(match evV F x with|some (.str s)=>K (put F o.dst (.v (.int .i64 s.size))) h|_=>none)
   | some (.map _ _)=>(match evV F x with
     | some (.map b)=>(match h[b]? with|some (.map es)=>K (put F o.dst (.v (.int .i64 es.length))) h|_=>none)
     | _=>none)
   | _=>none)
 | .append,[t,t'],[.tmp s,y]=>if zg6 P t'=true then(match QQ P t,(Ki P t).bind (Q1 P),evN F y,F[rt F s]? with
   | some (e, sz), some z, some n, some (.v x) => if n < lim /\ z.length = sz then (if zg7 x = true /\ 0 < n then K (put F o.dst (.own e sz (List.replicate n z))) h
     else if vc=true/\zmL x=true then(match Ws e sz h (List.replicate n z) x with|some (y,h')=>K (put F o.dst (.v y)) h'|none=>none) else if zg7 x=true then K (put F o.dst (.v x)) h else none) else none
   | _,_,_,_=>none) else(match QQ P t,evC F h y,F[rt F s]? with
   | some (e,sz),some (sz',news),some x =>
     if t'=t/\(sz'=sz\/news.isEmpty) then(match x with
      | .v y => if vc = true then (match Ws e sz h news y with | some (z, h') => K (put F o.dst (.v z)) h' | none => none)
        else(match app e sz (.v y) news with|some l=>K (put (put F (some (rt F s)) .un) o.dst (.own e sz l)) h|none=>none)
      | x=>(match app e sz x news with|some l=>K (put (put F (some (rt F s)) .un) o.dst (.own e sz l)) h|none=>none)) else none
   | _,_,_=>none)
 | .append,[t,t'],[.const (.slice none 0 0),y]=>(match QQ P t,evC F h y with
   | some (e,sz),some (sz',news) =>
     if t'=t/\(sz'=sz\/news.isEmpty) then(match app e sz (.own e sz []) news with|some l=>K (put F o.dst (.own e sz l)) h|none=>none) else none
   | _,_=>none)
 | .min,_,args=>(match YW F h args with|some vs=>(match mm false vs with|some v=>K (put F o.dst (.v v)) h|none=>none)|none=>none)
 | .max,_,args=>(match YW F h args with|some vs=>(match mm true vs with|some v=>K (put F o.dst (.v v)) h|none=>none)|none=>none)
 | _,_,_=>none
def zwO (F : List S) : Option Nat -> Bool
 | some d=>match F[d]? with|some (.own ..)|some (.v (.sl ..))|some (.v (.row ..))=>true|_=>false
 | none=>false
def qB(as_:Bool)(o:Oper)(x:Operand)(F:List S)(h:ze)(K:List S->ze->Option R):Option R:=match x with
 | .tmp t=>(match F[t]? with
   | some (.v a)=>K (put F o.dst (.v a)) h
   | some (.tup l)=>K (put F o.dst (.tup l)) h
   | some (.own e sz l)=>if as_ then K (put (F.set t .gone) o.dst (.own e sz l)) h else(if o.dst=some t then none else K (put F o.dst (.fp t 0 1 0)) h)
   | some (.bx _ _)=>if o.dst=some t then none else K (put F o.dst (.fp t 0 0 0)) h
   | some (.fp d sz i c)=>(match (if as_ && qA sz i && zwO F o.dst then F[d]? else none) with
     | some (.own e sz' l)=>if o.dst=some d then K F h else K (put (F.set d .gone) o.dst (.own e sz' l)) h
     | _=>if o.dst=some d then none else K (put F o.dst (.fp d sz i c)) h)
   | _=>none)
 | .const (.slice none 0 0)=>(match QQ P o.type with|some (e,sz)=>K (put F o.dst (.own e sz [])) h|none=>none)
 | x=>(match evV F x with|some v=>K (put F o.dst (.v v)) h|none=>none)
def opx(o:Oper)(F:List S)(h:ze)(K:List S->ze->Option R)(Z:V->List S->ze->Option R):Option R :=
 let one (x:Option V):Option R:=match x with|some v=>K (put F o.dst (.v v)) h|none=>none
 match o.op with
 | .move x=>qB P false o x F h K
 | .assign x=>qB P true o x F h K
 | .pick c a b=>(match evV F c,evV F a,evV F b with
   | some (.bool t),some x,some y=>K (put F o.dst (.v (if t then x else y))) h
   | some (.bool t),some x,none=>if t then K (put F o.dst (.v x)) h else none
   | some (.bool t),none,some y=>if t then none else K (put F o.dst (.v y)) h
   | _,_,_=>none)
 | .alloc e=>(match Q1 P e with|some cs=>K (put F o.dst (.bx cs.length cs)) h|none=>none)
 | .box e x=>(match evE vc F h x,Jy P e with
   | some (v,F,h),some n=>if v.cells.length=n then K (put F o.dst (.bx n v.cells)) h else none
   | _,_=>none)
 | .build t ps=>(match YL vc F h (ps.toList.map (·.2)) with
   | some (vs,F,h)=>(match Wz P t ((ps.toList.map (·.1)).zip vs) with|some cs=>K (put F o.dst (.v (.agg cs))) h|none=>none)
   | none=>none)
 | .buildSlice t n ps=>(match YL vc F h (ps.toList.map (·.2)),QQ P t with
   | some (vs,F,h),some (e,sz)=>(match K6 P t n ((ps.toList.map (·.1)).zip vs) with|some (_,l)=>K (put F o.dst (.own e sz l)) h|none=>none)
   | _,_=>none)
 | .load t x=>(match Jy P t with
   | some n=>YN F h x (fun cs m c=>if c+n<=m/\0 < n then one (Jd (XY P t) cs c n) else none)
   | none=>none)
 | .store t x y=>(match evE vc F h y,Jy P t with
   | some (v,F,h),some n=>if v.cells.length=n then zd3 F h v.cells x (fun F h=>K (put F o.dst .sk) h) else none
   | _,_=>none)
 | .nilCheck x=>if zv4 P o.type=true then(match evV F x with|some y=>if zog y=true then K (put F o.dst (.v y)) h else none|none=>none) else Kj F 0 x o.dst (fun s=>K (put F o.dst s) h)
 | .binOp op t x y _=>(match evV F x,evV F y with|some a,some b=>one (za3 P h op t (isC x || isC y) a b)|_,_=>none)
 | .unOp op _ x=>(match evV F x with|some a=>one (uop op a)|none=>none)
 | .convert s d x=>if zoh P s d then(match evC F h x with|some (_,l)=>one ((u8s l).map fun ns=>.str (strOfNums ns))|none=>none) else(match evV F x with|some a=>one (cvt P s d a)|none=>none)
 | .makeInterface t x=>if zd2 P t then none else(match P.underlying t,evE vc F h x with|some _,some (v,F,h)=>K (put F o.dst (.v (.iface t v))) h|_,_=>none)
 | .typeAssert x _ t ok=>(match evV F x with|some a=>(match zpY P t ok a with|some (v,b)=>K (put F o.dst (zut ok v b)) h|none=>none)|none=>none)
 | .makeFunc (.func f) first caps=>if first.size=0 then(match zin (zwM P f) vc F h caps.toList with|some (vs,F,h)=>K (put F o.dst (.v (.fn f vs))) h|none=>none) else
   (if caps.size=0 then(match YL vc F h first.toList with|some (vs,F,h)=>K (put F o.dst (.v (.bf f vs))) h|none=>none) else none)
 | .makeFunc (.methodOf t nm) first caps=>if first.size=0/\caps.size=0 then K (put F o.dst (.v (.mo t nm))) h else none
 | .makeMap t r=>(match r with
   | none=>K (put F o.dst (.v (.map h.length))) (h++[.map []])
   | some _=>none)
 | .makeSlice t l c=>(match evN F l,evN F c,QQ P t,(Ki P t).bind (Q1 P) with
   | some n,some m,some (e,sz),some z=>if n<=m/\m < lim/\z.length=sz then K (put F o.dst (.own e sz (List.replicate n z))) h else none
   | _,_,_,_=>none)
 | .slice t x lo hi mx=>(match QQ P t,evE vc F h x with
   | some (_,sz),some (y,F,h)=>(match zcm y with
     | some len=>(match qq F 0 lo,qq F len hi,zdn F mx with
       | some a,some b,some m=>(match Je sz a b m (mx.isNone || hi.isSome) y with|some z=>K (put F o.dst (.v z)) h|none=>none)
       | _,_,_=>none)
     | none=>none)
   | _,_=>none)
 | .fieldAddr s x k=>(match fAt P s k with
   | some (off,_,_)=>Kj F off x o.dst (fun s=>K (put F o.dst s) h)
   | none=>none)
 | .field s x k=>(match fAt P s k,evV F x with
   | some (off,n,ag),some (.agg cs)=>if off+n<=cs.length then one (Jd ag cs off n) else none
   | _,_=>none)
 | .indexAddr t x i=>(match zcU P t with
  | some (len,sz)=>(match evN F i with
   | some n=>if n < len then Kj F (n * sz) x o.dst (fun s=>K (put F o.dst s) h) else none
   | none=>none)
  | none=>(match evN F i,QQ P t with
   | some n,some (_,sz)=>(match x with
     | .tmp s=>(match F[rt F s]? with
       | some (.own _ sz' l)=>if sz'=sz/\n < l.length/\o.dst≠some (rt F s) then K (put F o.dst (.fp (rt F s) sz n 0)) h else none
       | some (.v y)=>(match Jz sz n y with|some z=>K (put F o.dst (.v z)) h|none=>none)
       | _=>none)
     | _=>none)
   | _,_=>none))
 | .index t x i=>(match aAt P t,evN F i,evV F x with
   | some (len,e,sz),some n,some (.agg cs)=>if n < len/\n * sz+sz<=cs.length then one (Jd (XY P e) cs (n * sz) sz) else none
   | _,_,_=>none)
 | .lookup t m k ok=>(match P.underlying t,evV F m,evV F k with
   | some (.map kt et),some mv,some key=>(match Yy h mv,Q1 P et,kds P 12 kt with
     | some es,some z,some ks=>(match Qp ks key es 0,Jd (XY P et) z 0 z.length with
       | some r,some zero=>(match J1 es zero r with
         | some v=>if key.one=!XY P kt/\key.cells.length=ks.length/\zd1 P et=XY P et then(if ok then K (put F o.dst (.tup [v,.bool r.isSome])) h else K (put F o.dst (.v v)) h) else none
         | none=>none)
       | _,_=>none)
     | _,_,_=>none)
   | _,_,_=>none)
 | .mapUpdate t m k x|.insert t m k x=>(match P.underlying t,evV F m,evV F k,evE vc F h x with
   | some (.map kt _),some (.map b),some key,some (v,F,h)=>(match h[b]?,kds P 12 kt with
     | some (.map es),some ks=>(match Qp ks key es 0 with
       | some r=>if key.one=!XY P kt/\key.cells.length=ks.length then K (put F o.dst .sk) (h.set b (.map (upd es key v r))) else none
       | none=>none)
     | _,_=>none)
   | _,_,_,_=>none)
 | .extract x i=>(match x with|.tmp t=>(match F[t]? with|some (.tup l)=>one l[i]?|_=>none)|_=>none)
 | .call c=>(match c.callee with
   | .value (.func f)=>zd4 P rec keep gc vc o f [] c.args.toList F h K Z
   | .value (.tmp t)=>if vc=true then(match F[t]? with
     | some (.v (.fn f caps))=>if okV P o.type f=true then zmK P rec keep gc vc o f caps c.args.toList F h K Z else none
     | some (.v (.bf f pre))=>zd5 P rec keep vc o f pre c.args.toList F h K Z
     | some (.v (.mo t nm))=>zuv P rec keep vc o t nm c.args.toList F h K Z
     | _=>none) else(match F[t]? with
     | some (.v (.fn f caps))=>if okV P o.type f=true then zmK P rec keep gc vc o f caps c.args.toList F h K Z else none
     | _=>none)
   | .invoke rcv nm=>(match evV F rcv with
     | some (.iface t v)=>(match JR P t v nm with
       | some (f,r)=>zd5 P rec keep vc o f [r] c.args.toList F h K Z
       | none=>none)
     | _=>none)
   | .builtin b=>zfs P vc o b c.argTypes.toList c.args.toList F h K
   | _=>none)
 | .panic x=>(match evE vc F h x with|some (.iface t v,F,h)=>Z (.iface t v) F h|_=>none)
 | _=>none
def textDraws(P:Program)(ops:Array Oper):Bool:=TR.fastB (TR.cls P) ops && TR.backB ops
def JU {R : Type} : List S -> (List S -> R) -> R
 | [],k=>k []
 | x :: l,k=>JU l fun l=>k (x :: l)
theorem je {R : Type} : ∀ (F : List S) (k : List S -> R), JU F k = k F
 | [],_=>rfl
 | x :: l,k=>by rw[JU,je l]
def zdo (all : Array Oper) (Z : V -> List S -> ze -> Option R) : List Oper -> List S -> ze -> (List S -> ze -> Option R) -> Option R
 | [],F,h,K=>K F h
 | o :: l,F,h,K=>match o.guard with
   | none=>opx P rec keep gc vc o F h (fun F h=>JU F fun F=>zdo all Z l F h K) Z
   | some (j,want)=>match (all[j]?).bind (·.dst) with
     | some d=>(match F[d]? with
       | some (.v (.bool b)) => if b
         then(if want then opx P rec keep gc vc o (F.set d (.v (.bool true))) h (fun F h=>JU F fun F=>zdo all Z l F h K) Z else JU (put (F.set d (.v (.bool true))) o.dst .sk) fun F=>zdo all Z l F h K)
         else(if want then JU (put (F.set d (.v (.bool false))) o.dst .sk) fun F=>zdo all Z l F h K else opx P rec keep gc vc o (F.set d (.v (.bool false))) h (fun F h=>JU F fun F=>zdo all Z l F h K) Z)
       | some .sk=>JU (put F o.dst .sk) fun F=>zdo all Z l F h K
       | _=>none)
     | none=>none
def evF (F : List S) : Operand -> Option (FuncId × List V)
 | .func f=>some (f,[])
 | .tmp t=>(match F[t]? with|some (.v (.fn f caps))=>some (f,caps)|_=>none)
 | _=>none
def opy(ry:Ry)(o:Oper)(F:List S)(h:ze)(D:List Df)(K:List S->ze->List Df->Option R)(Z:V->List S->ze->List Df->Option R):Option R :=
 match o.op with
 | .defer c=>(match c.callee with
   | .value fo=>(match evF F fo with
     | some (f,caps)=>(match YL vc F h c.args.toList with
       | some (vs,F,h)=>K (put F o.dst .sk) h (.call f (vs++caps) :: D)
       | none=>none)
     | none=>none)
   | _=>none)
 | .call c=>(match c.callee with
   | .value (.tmp t)=>(match F[t]? with
     | some (.v (.yld b))=>(match YL vc F h c.args.toList with
       | some (vs,F,h)=>(match ry b vs h with
         | some (t,h)=>K (put F o.dst (.v (.bool t))) h D
         | none=>none)
       | none=>none)
     | _=>opx P rec keep gc vc o F h (fun F h=>K F h D) (fun v F h=>Z v F h D))
   | _=>opx P rec keep gc vc o F h (fun F h=>K F h D) (fun v F h=>Z v F h D))
 | _=>opx P rec keep gc vc o F h (fun F h=>K F h D) (fun v F h=>Z v F h D)
def zdp (ry : Ry) (all : Array Oper) (Z : V -> List S -> ze -> List Df -> Option R) : List Oper -> List S -> ze -> List Df -> (List S -> ze -> List Df -> Option R) -> Option R
 | [],F,h,D,K=>K F h D
 | o :: l,F,h,D,K=>match o.guard with
   | none=>opy P rec keep gc vc ry o F h D (fun F h D=>JU F fun F=>zdp ry all Z l F h D K) Z
   | some (j,want)=>match (all[j]?).bind (·.dst) with
     | some d=>(match F[d]? with
       | some (.v (.bool b)) => if b
         then(if want then opy P rec keep gc vc ry o (F.set d (.v (.bool true))) h D (fun F h D=>JU F fun F=>zdp ry all Z l F h D K) Z else JU (put (F.set d (.v (.bool true))) o.dst .sk) fun F=>zdp ry all Z l F h D K)
         else(if want then JU (put (F.set d (.v (.bool false))) o.dst .sk) fun F=>zdp ry all Z l F h D K else opy P rec keep gc vc ry o (F.set d (.v (.bool false))) h D (fun F h D=>JU F fun F=>zdp ry all Z l F h D K) Z)
       | some .sk=>JU (put F o.dst .sk) fun F=>zdp ry all Z l F h D K
       | _=>none)
     | none=>none
def jf (F : List S) : List Operand -> Option (List V)
 | []=>some []
 | o :: os=>match evV F o,jf F os with|some v,some vs=>some (v :: vs)|_,_=>none
def JA (F : List S) : Option Nat -> Bool
 | none=>true
 | some d=>match F[d]? with|some (.own ..)|some (.bx ..)|some .gone|none=>false|_=>true
def wr(d:Option Nat)(s:S):List (Nat×S):=match d with|some d=>[(d,s)]|none=>[]
def QL (F : List S) : List (Nat × S) -> List S
 | []=>F
 | (k,s) :: us=>QL (F.set k s) us
inductive HE where
 | sets (l:List (Nat×HB))
 | all (h:ze)
def Qc (h : ze) : List (Nat × HB) -> ze
 | []=>h
 | (k,s) :: us=>Qc (h.set k s) us
def XA (h : ze) : HE -> ze
 | .sets l=>Qc h l
 | .all h'=>h'
def hwE(h:ze):HE->List Nat
 | .sets l=>l.map (·.1)
 | .all h'=>List.range (max h.length h'.length+1)
def KQ(F:List S)(h:ze)(vs:List V)(x:Operand)(K:List (Nat×S)->HE->Option R):Option R:=match x with
 | .tmp s=>match F[s]? with
   | some (.bx n cs)=>if vs.length<=n then K [(s,.bx n (setR cs 0 vs))] (.sets []) else none
   | some (.fp d sz i c)=>(match F[d]? with
     | some (.bx n cs)=>if i=0/\c+vs.length<=n then K [(d,.bx n (setR cs c vs))] (.sets []) else none
     | some (.own e sz' l)=>if sz'=sz/\0 < sz/\c+vs.length<=sz then(match l[i]? with|some es=>K [(d,.own e sz (l.set i (setR es c vs)))] (.sets [])|none=>none) else none
     | _=>none)
   | some (.v y)=>(match Zl h vs y with|some (b,x)=>K [] (.sets [(b,x)])|none=>none)
   | _=>none
 | _=>none
def zd6(F:List S):List (Nat×S):=F.zipIdx.map fun p=>(p.2,p.1)
def zdq(f:FuncId)(d:Option Nat)(vs:List V)(e:HE)(K:List (Nat×S)->HE->Option R):Option R :=
 if zcn P f then(match vs with|[v]=>K (wr d (.v v)) e|_=>none) else K (wr d (.tup vs)) e
def qC(o:Oper)(k e:Nat)(args:List Operand)(F:List S)(h:ze)(K:List (Nat×S)->HE->Option R):Option R:=match k,args with
 | 0,[x]=>(match evC F h x with
   | some (sz,l)=>if (sz=1\/l.isEmpty=true)/\l.length < lim then K (wr o.dst (.own e 1 l)) (.sets []) else none
   | none=>none)
 | 3,[x]=>(match evC F h x with
   | some (sz,l)=>if (sz=3\/l.isEmpty=true)/\l.length < lim then K (wr o.dst (.own e 3 l)) (.sets []) else none
   | none=>none)
 | 1,[.tmp s,i,.tmp y]=>(match F[rt F s]?,evI F i,F[rt F y]? with
   | some (.own e1 s1 l),some n,some (.own e2 s2 [x])=>if (e1=e/\s1=1)/\(e2=e/\s2=1)/\rt F s≠rt F y/\n<=l.length/\l.length+1 < lim then K ((rt F s,.gone) :: wr o.dst (.own e 1 (l.take n++[x]++l.drop n))) (.sets []) else none
   | _,_,_=>none)
 | 2,[.tmp s,i,j]=>(match F[rt F s]?,evI F i,evI F j with
   | some (.own e1 s1 l),some n,some m=>if (e1=e/\s1=1)/\n < m/\m<=l.length/\l.length < lim then K ((rt F s,.gone) :: wr o.dst (.own e 1 (l.take n++l.drop m))) (.sets []) else none
   | _,_,_=>none)
 | _,_=>none
def QR(o:Oper)(f:FuncId)(caps:List V)(args:List Operand)(F:List S)(h:ze)(K:List (Nat×S)->HE->Option R):Option R :=
 match natF P f with
 | some (k,e)=>if caps.isEmpty then qC o k e args F h K else none
 | none =>
 if gc f then
  if keep f then
   match jf F args with
   | some vs=>(match rec f (vs++caps) [] with
     | some (.ret vs,_)=>zdq P f o.dst vs (.sets []) K
     | _=>none)
   | none=>none
  else
   match YW F h args with
   | some vs=>(match rec f (vs++caps) [] with
     | some (.ret vs,_)=>if V.simple.simpleL vs then zdq P f o.dst vs (.sets []) K else none
     | _=>none)
   | none=>none
 else if keep f then
  match jf F args with
  | some vs=>(match rec f (vs++caps) h with
    | some (.ret vs,h')=>zdq P f o.dst vs (.all h') K
    | _=>none)
  | none=>(match YL vc F h args with
    | some (vs,F',h0)=>if JA F' o.dst=true then(match rec f (vs++caps) h0 with
      | some (.ret vs,h')=>zdq P f o.dst vs (.all h') (fun us e=>K (zd6 F'++us) e)
      | _=>none) else none
    | none=>none)
 else none
def WT(o:Oper)(f:FuncId)(caps:List V)(args:List Operand)(F:List S)(h:ze)(K:List (Nat×S)->HE->Option R):Option R:=match YX P f with
 | some _=>none
 | none=>QR P rec keep gc vc o f caps args F h K
def zaL(tup:Bool)(d:Option Nat)(vs:List V)(e:HE)(K:List (Nat×S)->HE->Option R):Option R :=
 if tup then K (wr d (.tup vs)) e else(match vs with|[v]=>K (wr d (.v v)) e|_=>none)
def zg8(o:Oper)(f:FuncId)(caps:List V)(args:List Operand)(F:List S)(h:ze)(K:List (Nat×S)->HE->Option R):Option R :=
 if gc f then
  if keep f then
   match jf F args with
   | some vs=>(match rec f (vs++caps) [] with
     | some (.ret vs,_)=>zaL (qs P o.type) o.dst vs (.sets []) K
     | _=>none)
   | none=>none
  else
   match YW F h args with
   | some vs=>(match rec f (vs++caps) [] with
     | some (.ret vs,_)=>if V.simple.simpleL vs then zaL (qs P o.type) o.dst vs (.sets []) K else none
     | _=>none)
   | none=>none
 else if keep f then
  match jf F args with
  | some vs=>(match rec f (vs++caps) h with
    | some (.ret vs,h')=>zaL (qs P o.type) o.dst vs (.all h') K
    | _=>none)
  | none=>(match YL vc F h args with
    | some (vs,F',h0)=>if JA F' o.dst=true then(match rec f (vs++caps) h0 with
      | some (.ret vs,h')=>zaL (qs P o.type) o.dst vs (.all h') (fun us e=>K (zd6 F'++us) e)
      | _=>none) else none
    | none=>none)
 else none
def jN(o:Oper)(f:FuncId)(pre:List V)(args:List Operand)(F:List S)(h:ze)(K:List (Nat×S)->HE->Option R):Option R :=
 if keep f=true/\okV P o.type f=true then
  match jf F args with
  | some vs=>(match rec f (pre++vs) h with
    | some (.ret vs,h')=>zaL (qs P o.type) o.dst vs (.all h') K
    | _=>none)
  | none=>(match YL vc F h args with
    | some (vs,F',h0)=>if JA F' o.dst=true then(match rec f (pre++vs) h0 with
      | some (.ret vs,h')=>zaL (qs P o.type) o.dst vs (.all h') (fun us e=>K (zd6 F'++us) e)
      | _=>none) else none
    | none=>none)
 else none
theorem Y5 {o : Oper} {f : FuncId} (h : okV P o.type f = true) (caps : List V) (args : List Operand) (F : List S) (hh : ze) (K : List (Nat × S) -> HE -> Option R) :
    zg8 P rec keep gc vc o f caps args F hh K=WT P rec keep gc vc o f caps args F hh K:=by
 unfold okV at h;rw[zE,zE,beq_iff_eq] at h;have hm:YX P f=none:=by simpa using h.1
 replace h:=h.2
 have hn:natF P f=none:=by simpa using h.1
 have hr:∀ d vs e (K:List (Nat×S)->HE->Option R),zaL (qs P o.type) d vs e K=zdq P f d vs e K:=fun d vs e K=>by
  unfold zaL zdq;rw[h.2];cases qs P o.type <;> rfl
 unfold zg8 WT QR;rw[hm,hn];simp only[hr]
def zaM(o:Oper)(b:Builtin)(ts:List TypeId)(args:List Operand)(F:List S)(h:ze)(K:List (Nat×S)->HE->Option R):Option R :=
 match b,ts,args with
 | .len,[t],[x]=>(match P.underlying t with
   | some (.slice _)=>(match evC F h x with|some (_,l)=>K (wr o.dst (.v (.int .i64 l.length))) (.sets [])|none=>none)
   | _=>none)
 | .append,[t,t'],[.tmp s,y]=>(match QQ P t,evC F h y,F[s]? with
   | some (e,sz),some (sz',news),some (.v x) =>
     if t' = t /\ (sz' = sz \/ news.isEmpty) then (if vc = true then (match Ws e sz h news x with | some (z, h') => K (wr o.dst (.v z)) (.all h') | none => none)
         else(match app e sz (.v x) news with|some l=>K ((s,.un) :: wr o.dst (.own e sz l)) (.sets [])|none=>none)) else none
   | _,_,_=>none)
 | .min,_,args=>(match YW F h args with|some vs=>(match mm false vs with|some v=>K (wr o.dst (.v v)) (.sets [])|none=>none)|none=>none)
 | .max,_,args=>(match YW F h args with|some vs=>(match mm true vs with|some v=>K (wr o.dst (.v v)) (.sets [])|none=>none)|none=>none)
 | _,_,_=>none
def jg(as_:Bool)(o:Oper)(x:Operand)(F:List S)(K:List (Nat×S)->HE->Option R):Option R:=match x with
 | .tmp t=>(match F[t]? with
   | some (.v a)=>K (wr o.dst (.v a)) (.sets [])
   | some (.tup l)=>K (wr o.dst (.tup l)) (.sets [])
   | some (.own e sz l)=>if as_ then K ((t,.gone) :: wr o.dst (.own e sz l)) (.sets []) else if o.dst=some t then none else K (wr o.dst (.fp t 0 1 0)) (.sets [])
   | some (.bx _ _)=>if o.dst=some t then none else K (wr o.dst (.fp t 0 0 0)) (.sets [])
   | some (.fp d sz i c)=>if as_ || o.dst == some d then none else K (wr o.dst (.fp d sz i c)) (.sets [])
   | _=>none)
 | .const v=>(match v with
   | .slice none 0 0=>(match QQ P o.type with|some (e,sz)=>K (wr o.dst (.own e sz [])) (.sets [])|none=>none)
   | v=>(match ofValue v with|some a=>K (wr o.dst (.v a)) (.sets [])|none=>none))
 | .func f=>K (wr o.dst (.v (.fn f []))) (.sets [])
 | .global _=>none
def zpZ(F:List S)(xs:List Operand):Bool:=xs.any fun x=>match x with
 | .tmp t=>(match F[t]? with|some (.own ..)=>true|_=>false)
 | _=>false
def zcq(o:Oper)(F:List S)(h:ze)(K:List (Nat×S)->HE->Option R):Option R :=
 let one (x:Option V):Option R:=match x with|some v=>K (wr o.dst (.v v)) (.sets [])|none=>none
 match o.op with
 | .move x=>jg P false o x F K
 | .assign x=>jg P true o x F K
 | .pick c a b=>(match evV F c,evV F a,evV F b with
   | some (.bool t),some x,some y=>K (wr o.dst (.v (if t then x else y))) (.sets [])
   | some (.bool t),some x,none=>if t then K (wr o.dst (.v x)) (.sets []) else none
   | some (.bool t),none,some y=>if t then none else K (wr o.dst (.v y)) (.sets [])
   | _,_,_=>none)
 | .alloc e=>(match Q1 P e with|some cs=>K (wr o.dst (.bx cs.length cs)) (.sets [])|none=>none)
 | .box e x=>(match evV F x,Jy P e with
   | some v,some n=>if v.cells.length=n then K (wr o.dst (.bx n v.cells)) (.sets []) else none
   | _,_=>none)
 | .build t ps=>(match jf F (ps.toList.map (·.2)) with
   | some vs=>(match Wz P t ((ps.toList.map (·.1)).zip vs) with|some cs=>K (wr o.dst (.v (.agg cs))) (.sets [])|none=>none)
   | none=>if zpZ F (ps.toList.map (·.2))=true then(match YL vc F h (ps.toList.map (·.2)) with
     | some (vs,F',h0)=>if JA F' o.dst=true then(match Wz P t ((ps.toList.map (·.1)).zip vs) with|some cs=>K (zd6 F'++wr o.dst (.v (.agg cs))) (.all h0)|none=>none) else none
     | none=>none) else none)
 | .buildSlice t n ps=>(match jf F (ps.toList.map (·.2)),QQ P t with
   | some vs,some (e,sz)=>(match K6 P t n ((ps.toList.map (·.1)).zip vs) with|some (_,l)=>K (wr o.dst (.own e sz l)) (.sets [])|none=>none)
   | _,_=>none)
 | .load t x=>(match Jy P t with
   | some n=>YN F h x (fun cs m c=>if c+n<=m/\0 < n then one (Jd (XY P t) cs c n) else none)
   | none=>none)
 | .store t x y=>(match evV F y,Jy P t with
   | some v,some n=>if v.cells.length=n then KQ F h v.cells x (fun us hs=>K (us++wr o.dst .sk) hs) else none
   | _,_=>none)
 | .nilCheck x=>if zv4 P o.type=true then(match evV F x with|some y=>if zog y=true then K (wr o.dst (.v y)) (.sets []) else none|none=>none) else Kj F 0 x o.dst (fun s=>K (wr o.dst s) (.sets []))
 | .binOp op t x y _=>(match evV F x,evV F y with|some a,some b=>one (za3 P h op t (isC x || isC y) a b)|_,_=>none)
 | .unOp op _ x=>(match evV F x with|some a=>one (uop op a)|none=>none)
 | .convert s d x=>if zoh P s d then(match evC F h x with|some (_,l)=>one ((u8s l).map fun ns=>.str (strOfNums ns))|none=>none) else(match evV F x with|some a=>one (cvt P s d a)|none=>none)
 | .slice t x lo hi mx=>(match QQ P t,evV F x with
   | some (_,sz),some y=>(match zcm y with
     | some len=>(match qq F 0 lo,qq F len hi,zdn F mx with
       | some a,some b,some m=>(match Je sz a b m (mx.isNone || hi.isSome) y with|some z=>K (wr o.dst (.v z)) (.sets [])|none=>none)
       | _,_,_=>none)
     | none=>none)
   | _,_=>none)
 | .fieldAddr s x k=>(match fAt P s k with
   | some (off,_,_)=>Kj F off x o.dst (fun s=>K (wr o.dst s) (.sets []))
   | none=>none)
 | .field s x k=>(match fAt P s k,evV F x with
   | some (off,n,ag),some (.agg cs)=>if off+n<=cs.length then one (Jd ag cs off n) else none
   | _,_=>none)
 | .indexAddr t x i=>(match zcU P t with
  | some (len,sz)=>(match evN F i with
   | some n=>if n < len then Kj F (n * sz) x o.dst (fun s=>K (wr o.dst s) (.sets [])) else none
   | none=>none)
  | none=>(match evN F i,QQ P t with
   | some n,some (_,sz)=>(match x with
     | .tmp s=>(match F[rt F s]? with
       | some (.own _ sz' l)=>if sz'=sz/\n < l.length/\o.dst≠some (rt F s) then K (wr o.dst (.fp (rt F s) sz n 0)) (.sets []) else none
       | some (.v y)=>(match Jz sz n y with|some z=>K (wr o.dst (.v (jd y z))) (.sets [])|none=>none)
       | _=>none)
     | _=>none)
   | _,_=>none))
 | .index t x i=>(match aAt P t,evN F i,evV F x with
   | some (len,e,sz),some n,some (.agg cs)=>if n < len/\n * sz+sz<=cs.length then one (Jd (XY P e) cs (n * sz) sz) else none
   | _,_,_=>none)
 | .lookup t m k ok=>(match P.underlying t,evV F m,evV F k with
   | some (.map kt et),some mv,some key=>(match Yy h mv,Q1 P et,kds P 12 kt with
     | some es,some z,some ks=>(match Qp ks key es 0,Jd (XY P et) z 0 z.length with
       | some r,some zero=>(match J1 es zero r with
         | some v=>if key.one=!XY P kt/\key.cells.length=ks.length/\zd1 P et=XY P et then(if ok then K (wr o.dst (.tup [v,.bool r.isSome])) (.sets []) else K (wr o.dst (.v v)) (.sets [])) else none
         | none=>none)
       | _,_=>none)
     | _,_,_=>none)
   | _,_,_=>none)
 | .mapUpdate t m k x|.insert t m k x=>(match P.underlying t,evV F m,evV F k,evV F x with
   | some (.map kt _),some (.map b),some key,some v=>(match h[b]?,kds P 12 kt with
     | some (.map es),some ks=>(match Qp ks key es 0 with
       | some r=>if key.one=!XY P kt/\key.cells.length=ks.length then K (wr o.dst .sk) (.sets [(b,.map (upd es key v r))]) else none
       | none=>none)
     | _,_=>none)
   | _,_,_,_=>none)
 | .extract x i=>(match x with|.tmp t=>(match F[t]? with|some (.tup l)=>one l[i]?|_=>none)|_=>none)
 | .call c=>(match c.callee with
   | .value (.func f)=>WT P rec keep gc vc o f [] c.args.toList F h K
   | .value (.tmp t)=>if vc=true then(match F[t]? with
     | some (.v (.fn f caps))=>if okV P o.type f=true then zg8 P rec keep gc vc o f caps c.args.toList F h K else none
     | some (.v (.bf f pre))=>jN P rec keep vc o f pre c.args.toList F h K
     | _=>none) else(match F[t]? with
     | some (.v (.fn f caps))=>if okV P o.type f=true then zg8 P rec keep gc vc o f caps c.args.toList F h K else none
     | _=>none)
   | .invoke rcv nm=>(match evV F rcv with
     | some (.iface t v)=>(match JR P t v nm with
       | some (f,r)=>jN P rec keep vc o f [r] c.args.toList F h K
       | none=>none)
     | _=>none)
   | .builtin b=>zaM P vc o b c.argTypes.toList c.args.toList F h K
   | _=>none)
 | _=>none
def panNames:List String:=["reaper/history.must"]
def zv6 (P : Program) (draws : Array Oper -> Bool) (ops : Array Oper) : Op -> Bool
 | .call c=>(match c.callee with
   | .value (.func f)=>(match P.funcs[f]? with
     | some fn=>panNames.contains fn.name
     | none=>false)
   | _=>false)
 | .store ..=>!draws ops
 | _=>false
def zuw(P:Program)(draws:Array Oper->Bool)(ops:Array Oper):Bool:=match ops.toList.getLast? with
 | some o=>zv6 P draws ops o.op && (o.guard.isNone && ((List.range (ops.size - 1)).all fun i=>(TR.descM i ops.toList 0 0).testBit (ops.size - 1)))
 | none=>false
def zbs(all:Array Oper)(o:Oper)(F:List S)(h:ze)(K:List (Nat×S)->HE->Option R):Option R :=
 match o.guard with
 | none=>zcq P rec keep gc vc o F h K
 | some (j,want)=>match (all[j]?).bind (·.dst) with
   | some d=>(match F[d]? with
     | some (.v (.bool b))=>if b then(if want then zcq P rec keep gc vc o F h K else K (wr o.dst .sk) (.sets [])) else(if want then K (wr o.dst .sk) (.sets []) else zcq P rec keep gc vc o F h K)
     | some .sk=>K (wr o.dst .sk) (.sets [])
     | _=>none)
   | none=>none
structure Fpr where
 i:Nat
 r:List Nat
 w:List Nat
 hr:List Nat
 hw:List Nat
 wa:Bool
 q:Option Nat
def zoi(a b:List Nat):Bool:=a.all fun x=>!b.contains x
def zmM(w:Bool)(a b:List Nat):Bool:=if w then b.isEmpty else zoi a b
def HE.isAll:HE->Bool|.all _=>true|_=>false
def Fpr.ok0(x y:Fpr):Bool:=zoi x.w (y.r++y.w) && zoi y.w x.r && zmM x.wa x.hw (y.hr++y.hw) && zmM y.wa y.hw x.hr
def qok : List Nat -> List Nat -> Bool
 | [],_=>true
 | n :: l,hr=>hr.all (fun b=>decide (b < n)) && qok l hr
def Fpr.sl(x y:Fpr):Bool:=zoi x.w (y.r++y.w) && zoi y.w x.r
def Fpr.okq(x y:Fpr):Bool:=(match x.q with|some n=>y.hw.isEmpty && qok [n] y.hr|none=>false) || (match y.q with|some n=>x.hw.isEmpty && qok [n] x.hr|none=>false)
def Fpr.ok(x y:Fpr):Bool:=x.ok0 y || (x.sl y && x.okq y)
def Fpr.okS(x y:Fpr):Bool:=match x.q,y.q with
 | none,none=>x.ok0 y
 | some _,none=>x.sl y && y.hw.isEmpty
 | none,some _=>x.sl y && x.hw.isEmpty
 | some _,some _=>false
def zd7 (ops : Array Oper) : List Fpr -> Bool
 | []=>true
 | x :: l=>l.all (fun y=>(TR.descM x.i ops.toList 0 0).testBit y.i || x.okS y) && zd7 ops l
def qn (ops : Array Oper) : List Fpr -> Bool
 | []=>true
 | x :: l=>l.all (fun y=>(TR.descM x.i ops.toList 0 0).testBit y.i || x.ok y) && qn ops l
def zg9:Option S->Option Nat
 | some (.fp d _ _ _)=>some d
 | _=>none
def zcW:Option S->Option Nat
 | some (.v (.ptr b _))=>some b
 | some (.v (.map b))=>some b
 | some (.v (.row b _ _ _))=>some b
 | some (.v (.rptr b _ _ _))=>some b
 | _=>none
def X0(P:Program)(keep gc:FuncId->Bool)(o:Oper)(F:List S):Bool:=match o.op with
 | .call c=>(match c.callee with
   | .value (.func f)=>keep f && !gc f && (natF P f).isNone
   | .value (.tmp t)=>(match F[t]? with|some (.v (.fn f _))=>keep f && !gc f && (natF P f).isNone|some (.v (.bf ..))=>true|_=>false)
   | .invoke ..=>true
   | _=>false)
 | _=>false
def jj(o:Oper)(F:List S):Bool:=match o.op with
 | .call c=>(match c.callee,c.args.toList with
   | .builtin .append,.tmp s :: _=>(match F[s]? with|some (.v _)=>true|_=>false)
   | _,_=>false)
 | _=>false
def zk9(o:Oper)(F:List S):Bool:=match o.op with
 | .build _ ps=>zpZ F (ps.toList.map (·.2))
 | _=>false
def hall(P:Program)(keep gc:FuncId->Bool)(o:Oper)(F:List S):Bool:=X0 P keep gc o F || (jj o F || zk9 o F)
def Ye(P:Program)(keep gc:FuncId->Bool)(o:Oper)(F:List S):Bool:=X0 P keep gc o F && (match o.op with|.call c=>(jf F c.args.toList).isNone|_=>false) || zk9 o F
def rdS(P:Program)(keep gc:FuncId->Bool)(all:Array Oper)(o:Oper)(F:List S):List Nat:=o.looksAt all++(o.looksAt all).filterMap (fun s=>zg9 F[s]?)++o.dst.toList++(if Ye P keep gc o F then List.range F.length else[])
def zf4 (P : Program) : Op -> Bool
 | .nilCheck _|.fieldAddr ..|.move _|.assign _|.pick ..|.box ..|.build ..|.buildSlice ..|.unOp ..|.field ..|.index ..|.indexAddr ..|.extract ..|.slice ..=>true
 | .binOp _ t _ _ _=>(match P.underlying t with|some (.pointer _)=>false|_=>true)
 | _=>false
def rdH(P:Program)(keep gc:FuncId->Bool)(all:Array Oper)(o:Oper)(F:List S)(h:ze):List Nat:=(if zf4 P o.op then[] else(o.looksAt all).filterMap (fun s=>zcW F[s]?)++(o.looksAt all).filterMap (fun s=>zcW F[rt F s]?))++(if hall P keep gc o F then List.range (h.length+1) else[])
def zva(all:Array Oper)(o:Oper)(F:List S)(k:List S->Option R):Option R:=match o.guard with
 | none=>k F
 | some (j,_)=>match (all[j]?).bind (·.dst) with
   | some d=>(match F[d]? with
     | some (.v (.bool b))=>if b then k (F.set d (.v (.bool true))) else k (F.set d (.v (.bool false)))
     | some .sk=>k F
     | _=>none)
   | none=>none
def quietNames:List String:=["(*reaper/coin.Coin).Copy","reaper/skip.tall","(*reaper/object.Object).Len"]
def zvb(P:Program)(o:Oper):Bool:=match o.op with
 | .call c=>(match c.callee with
   | .value (.func f)=>(match P.funcs[f]? with|some fn=>quietNames.contains fn.name|none=>false)
   | .invoke _ nm=>nm == "reaper/object.copy"
   | _=>false)
 | _=>false
def pre(h h':ze):Prop:=∀ i,i < h.length->h'[i]?=h[i]?
open Classical in
noncomputable def zvc{R:Type}(h h':ze)(k:Option R):Option R:=if pre h h' then k else none
theorem zoj{R:Type}{h h':ze}{k:Option R}{r:R}(hx:zvc h h' k=some r):pre h h'/\k=some r:=by
 unfold zvc at hx;split at hx
 . exact⟨by assumption,hx⟩
 . cases hx
noncomputable def qx{R:Type}(P:Program)(o:Oper)(h:ze)(hs:HE)(k:Option Nat->Option R):Option R:=match hs with
 | .sets _=>k none
 | .all h'=>if zvb P o=true then zvc h h' (k (some h.length)) else k none
def zmN(all:Array Oper)(i j:Nat):Bool:=!(TR.descM i all.toList 0 0).testBit j
def zwP(all:Array Oper)(acc:List Fpr)(i:Nat):List Nat:=acc.filterMap fun x=>match x.q with|some n=>if zmN all x.i i=true then some n else none|none=>none
def rds(all:Array Oper)(acc:List Fpr)(i:Nat):List Nat:=acc.flatMap fun x=>match x.q with|some _=>[]|none=>if zmN all x.i i=true then x.hr else[]
noncomputable def jO (all : Array Oper) : List (Oper × Nat) -> List Fpr -> List S -> ze -> (List S -> ze -> Option R) -> Option R
 | [],acc,F,h,K=>if zd7 all acc=true then K F h else none
 | (o,i) :: l,acc,F,h,K =>
   zva all o F fun F=>if JA F o.dst=true then if qok (zwP all acc i) (rdH P keep gc all o F h)=true then
    zbs P rec keep gc vc all o F h (fun us hs=>qx P o h hs fun q=>if qok q.toList (rds all acc i)=true then jO all l (acc++[⟨i,rdS P keep gc all o F,us.map (·.1),rdH P keep gc all o F h,hwE h hs,hs.isAll,q⟩]) (QL F us) (XA h hs) K else none)
   else none else none
def opOf(ops:List Oper)(t:Nat):Option Op:=match ops.find? (fun o=>o.dst == some t) with|some o=>some o.op|none=>none
def zp0 (P : Program) (V : List Nat) (ops : List Oper) : Nat -> Nat -> Bool
 | 0,_=>false
 | n+1,t=>match opOf ops t with
   | some (.move (.tmp j))=>V.contains j || zp0 P V ops n j
   | some (.call c)=>(match c.callee with|.builtin _=>false|.value (.func f)=>(natF P f).isNone|_=>true)
   | some (.extract ..)|some (.load ..)|some (.field ..)|some (.lookup ..)|some (.slice ..)=>true
   | _=>V.contains t
def jl(P:Program)(V:List Nat):Code->List Nat
 | .region _ ops _=>ops.toList.filterMap fun o=>match o.op,o.dst with
   | .assign (.tmp t),some d=>if zp0 P V ops.toList 8 t then some d else none
   | _,_=>none
 | .seq a b|.cond _ a b=>jl P V a++jl P V b
 | .block _ b|.loop b|.scope b=>jl P V b
 | _=>[]
def valsOf(P:Program)(b:Code):List Nat :=
 let v1:=jl P [] b
 let v2:=jl P v1 b
 jl P v2 b
def jm : List Nat -> List S -> List S
 | [],F=>F
 | i :: l,F=>jm l (match F[i]? with
   | some (.own _ sz x)=>(F.map (er1 i)).set i (.v (.sl sz x false))
   | _=>F)
def WU (ops : Array Oper) : List Oper -> List S -> List S
 | [],F=>F
 | o :: l,F=>WU ops l (match o.dst with
   | some d=>(match F[d]? with
     | some (.own ..)|some (.bx ..)|some .gone=>if ops.toList.all (fun p=>!(p.looksAt ops).contains d) then put F (some d) .un else F
     | _=>F)
   | none=>F)
def zV : Nat -> (List V -> ze -> (List V -> ze -> Option R) -> Option R) -> List V -> ze -> Option R
 | 0,_,_,_=>none
 | n+1,body,st,h=>body st h (zV n body)
def Wq:Code->List Nat
 | .region _ ops _=>ops.toList.filterMap (·.dst)
 | .seq a b|.cond _ a b=>Wq a++Wq b
 | .block _ b|.loop b|.scope b=>Wq b
 | _=>[]
def XW (ms : List Nat) : Nat -> List S -> List (Nat × Nat × Nat × Nat)
 | _,[]=>[]
 | i,.own e sz _ :: F=>(i,1,sz,e) :: XW ms (i+1) F
 | i,.bx n _ :: F=>(i,2,n,0) :: XW ms (i+1) F
 | i,.gone :: F=>(i,3,0,0) :: XW ms (i+1) F
 | i,.v _ :: F=>if ms.contains i then(i,0,0,0) :: XW ms (i+1) F else XW ms (i+1) F
 | i,_ :: F=>XW ms (i+1) F
def lsl:V->List (List V)|.sl _ l _=>l|_=>[]
def lcs:V->List V|.agg l=>l|_=>[]
def gv(st:List V)(i:Nat):V:=st.getD i (.bool false)
def zux(k n e:Nat)(v:V):S:=match k with|1=>.own e n (lsl v)|2=>.bx n (lcs v)|3=>.gone|_=>.v v
def Wb (F : List S) (st : List V) : List (Nat × Nat × Nat × Nat) -> Nat -> List S
 | [],_=>F
 | (s,k,n,e) :: cs,i=>Wb (F.set s (zux k n e (gv st i))) st cs (i+1)
def Kk (F : List S) : List (Nat × Nat × Nat × Nat) -> Option (List V)
 | []=>some []
 | (s,k,n,e) :: cs=>match F[s]?,Kk F cs with
   | some (.own e' sz l),some r=>if k=1/\sz=n/\e'=e then some (.sl sz l false :: r) else none
   | some (.bx m l),some r=>if k=2/\m=n then some (.agg l :: r) else none
   | some (.v x),some r=>if k=0 then some (x :: r) else none
   | some .gone,some r=>if k=3 then some (.bool false :: r) else none
   | _,_=>none
def WA (ms : List Nat) (cs : List (Nat × Nat × Nat × Nat)) : Nat -> List S -> List S
 | _,[]=>[]
 | i,s :: F=>(if ms.contains i && !(cs.any (·.1 == i)) then .un else match s with|.fp d sz i c=>if qA sz i && !ms.contains d then .fp d sz i c else .un|s=>s) :: WA ms cs (i+1) F
variable (ry:Ry) (lp:(List V->ze->(List V->ze->Option R)->Option R)->List V->ze->Option R) (draws:Array Oper->Bool)
def zp1 (vc : Bool) : Nat -> List S -> ze -> Option (List S × ze)
 | 0,F,h=>some (F,h)
 | n+1,F,h=>match F[n]? with
   | some (.own ..)|some (.bx ..)=>(match evE vc F h (.tmp n) with|some (_,F,h)=>zp1 vc n F h|none=>none)
   | _=>zp1 vc n F h
def escNames:List String:=["(*reaper/comb.turn).places"]
def zwQ(P:Program)(ops:Array Oper):Bool:=ops.toList.any fun o=>match o.op with
 | .call c=>(match c.callee with
   | .value (.func f)=>(match P.funcs[f]? with|some fn=>escNames.contains fn.name|none=>false)
   | _=>false)
 | _=>false
def zwR(ops:Array Oper):List Nat:=ops.toList.filterMap fun o=>match o.op with|.move (.tmp x)=>some x|_=>none
def zp2 (vc : Bool) : List Nat -> List S -> ze -> Option (List S × ze)
 | [],F,h=>some (F,h)
 | n :: l,F,h=>match F[n]? with
   | some (.bx ..)|some (.fp _ 0 0 _)=>(match evE vc F h (.tmp n) with|some (_,F,h)=>zp2 vc l F h|none=>none)
   | _=>zp2 vc l F h
def frV:S->Option V|.v x=>some x|_=>none
def toS:Option V->S|some x=>.v x|none=>.un
def ziq : List Nat -> List V -> List S -> List S
 | p :: ps,y :: ys,F=>ziq ps ys (F.set p (.v y))
 | _,_,F=>F
def zir(ops:List Oper):Bool:=ops.all fun o=>match o.op with|.defer _=>false|_=>true
def QT : Code -> Bool
 | .region _ ops _=>zir ops.toList
 | .seq a b|.cond _ a b=>QT a && QT b
 | .block _ b|.loop b|.scope b=>QT b
 | .rangeFunc ..=>false
 | _=>true
def lpR{R:Type}(o:Option HB)(k:Nat->Bool->List (Option V)->List Nat->Code->Code->Option R):Option R:=match o with|some (.loop d vc fr ps as_ bd .ready)=>k d vc fr ps as_ bd|_=>none
def lpB{R:Type}(o:Option HB)(k:Nat->Bool->List (Option V)->List Nat->Code->Code->Option R):Option R:=match o with|some (.loop d vc fr ps as_ bd .busy)=>k d vc fr ps as_ bd|_=>none
def lpE{R:Type}(o:Option HB)(x y:Option R):Option R:=match o with|some (.loop _ _ _ _ _ _ .ready)=>x|some (.loop _ _ _ _ _ _ (.done .ret))=>y|_=>none
def dfB{R:Type}(o:Option HB)(x:Option R):Option R:=match o with|some .defb=>x|_=>none
def clN{R:Type}(o:Option (Res×ze))(k:ze->Option R):Option R:=match o with|some (.ret _,h)=>k h|_=>none
noncomputable def exec : Code -> List S -> ze -> List Df -> (Ex -> List S -> ze -> List Df -> Option R) -> Option R
 | .skip,F,h,D,K|.label _,F,h,D,K=>K .nrm F h D
 | .region _ ops d,F,h,D,K =>
   if d then(if (Region.noSelect ops && TR.backB ops && zuw P draws ops)=true then(match ops.toList.getLast? with
         | some o=>jO P rec keep gc vc ops ops.toList.dropLast.zipIdx [] (WU ops ops.toList F) h (fun F h=>JU F fun F=>opx P rec keep gc vc o F h (fun F h=>JU F fun F=>K .nrm F h D) (fun v F h=>K (.pan v) F h D))
         | none=>none)
    else if draws ops then zdo P rec keep gc vc ops (fun _ _ _=>none) ops.toList F h (fun F h=>JU F fun F=>K .nrm F h D)
    else if (Region.noSelect ops && TR.backB ops)=true then(if zwQ P ops=true then(match zp2 vc (zwR ops) F h with
        | some (F,h)=>jO P rec keep gc vc ops ops.toList.zipIdx [] (WU ops ops.toList F) h (fun F h=>JU F fun F=>K .nrm F h D)
        | none=>none)
     else jO P rec keep gc vc ops ops.toList.zipIdx [] (WU ops ops.toList F) h (fun F h=>JU F fun F=>K .nrm F h D)) else none)
   else zdp P rec keep gc vc ry ops (fun v F h D=>K (.pan v) F h D) ops.toList F h D (fun F h D=>JU F fun F=>K .nrm F h D)
 | .seq a b,F,h,D,K=>exec a F h D (fun e F h D=>match e with|.nrm=>exec b F h D K|e=>K e F h D)
 | .cond c a b,F,h,D,K=>(match c with
   | .tmp t=>(match F[t]? with
     | some (.v (.bool x))=>if x then exec a (F.set t (.v (.bool true))) h D K else exec b (F.set t (.v (.bool false))) h D K
     | _=>none)
   | .const (.bool x)=>if x then exec a F h D K else exec b F h D K
   | _=>none)
 | .block id b,F,h,D,K=>exec b F h D (fun e F h D=>match e with|.ex i=>if i=id then K .nrm F h D else K (.ex i) F h D|e=>K e F h D)
 | .scope b,F,h,D,K=>exec b F h D K
 | .exit id,F,h,D,K=>K (.ex id) F h D
 | .ret,F,h,D,K=>K .ret F h D
 | .loop b,F0,h,D,K =>
   let F:=jm (valsOf P b) F0
   let ms:=Wq b
   let cs:=XW ms 0 F
   let F1:=WA ms cs 0 F
   match Kk F cs with
   | some st=>lp (fun st h next=>exec b (Wb F1 st cs 0) h [] (fun e F h D1=>match e with
     | .nrm=>(match D1 with|[]=>(match Kk F cs with|some st=>next st h|none=>none)|_=>none)
     | e=>K e F h (D1++D))) st h
   | none=>none
 | .rangeFunc g ps as_ bd,F0,h0,D,K=>(match zp1 vc F0.length F0 h0 with
   | some (F,h)=>(match evV F g with
     | some (.fn f caps)=>if (YX P f).isNone && (QT as_ && QT bd) then
         clN (rec f (.yld (h.length + 1) :: caps) (h ++ [.defb, .loop h.length vc (F.map frV) ps.toList as_ bd .ready])) (fun h' => lpE h'[h.length + 1]?
          (JU F fun F=>K .nrm F (h'.set (h.length+1) .dead) (.mark h.length :: D))
          (JU F fun F=>K .ret F (h'.set (h.length+1) .dead) (.mark h.length :: D))) else none
     | _=>none)
   | none=>none)
 | _,_,_,_,_=>none
def zp3(o:Oper):Bool:=match o.op,o.guard with|.call c,none=>(match c.callee with|.builtin .recover=>c.args.isEmpty|_=>false)|_,_=>false
def zis : Code -> Bool
 | .seq a _=>zis a
 | .region _ ops d=>!d && (match ops.toList with|o :: _=>zp3 o|[]=>false)
 | _=>false
noncomputable def YR (pv : V) : Code -> List S -> ze -> List Df -> (Ex -> List S -> ze -> List Df -> Option R) -> Option R
 | .seq a b,F,h,D,K=>YR pv a F h D (fun e F h D=>match e with|.nrm=>exec P rec keep gc vc ry lp draws b F h D K|e=>K e F h D)
 | .region _ ops d,F,h,D,K=>(match d,ops.toList with
   | false,[o,o2]=>if zp3 o then(match o2.op,o2.guard with
     | .assign x,none=>(match evV (put F o.dst (.v pv)) x with
       | some y=>JU (put (put F o.dst (.v pv)) o2.dst (.v y)) fun F=>K .nrm F h D
       | none=>none)
     | _,_=>none) else none
   | _,_=>none)
 | _,_,_,_,_=>none
end exec
def zit(P:Program)(F:List S)(h:ze)(x:Nat)(t:TypeId):Option V:=match place F h (.tmp x),Jy P t with
 | some (cs,m,c),some n=>if c+n<=m/\0 < n then Jd (XY P t) cs c n else none
 | _,_=>none
def Km (P : Program) (vc : Bool) (F : List S) (h : ze) : List ResultVar -> Option (List V × List S × ze)
 | []=>some ([],F,h)
 | .tmp t :: rs=>(match evE vc F h (.tmp t) with
   | some (v,F,h)=>(match Km P vc F h rs with|some (vs,F,h)=>some (v :: vs,F,h)|none=>none)
   | none=>none)
 | .cell x t :: rs=>(match zit P F h x t with
   | some v=>(match Km P vc F h rs with|some (vs,F,h)=>some (v :: vs,F,h)|none=>none)
   | none=>none)
def zp4{R:Type}(P:Program)(F:List S)(h:ze)(x:Nat)(t:TypeId)(K:V->Option R):Option R:=match Jy P t with
 | some n=>YN F h (.tmp x) (fun cs m c=>if c+n<=m/\0 < n then(match Jd (XY P t) cs c n with|some v=>K v|none=>none) else none)
 | none=>none
def qE {R : Type} (P : Program) (vc : Bool) (F : List S) (h : ze) : List ResultVar -> (List V -> List S -> ze -> Option R) -> Option R
 | [],K=>K [] F h
 | .tmp t :: rs,K=>(match evE vc F h (.tmp t) with
   | some (v,F,h)=>qE P vc F h rs (fun vs F h=>K (v :: vs) F h)
   | none=>none)
 | .cell x t :: rs,K=>zp4 P F h x t (fun v=>qE P vc F h rs (fun vs F h=>K (v :: vs) F h))
theorem zok{R:Type}(F:List S)(h:ze)(x:Operand)(K:List V->Nat->Nat->Option R):YN F h x K=(match place F h x with|some (cs,n,c)=>K cs n c|none=>none):=by
 unfold YN place;cases x with
 | tmp s =>
   simp only;cases F[s]? with
   | none=>rfl
   | some y =>
     cases y with
     | fp d sz i c =>
       simp only;cases F[d]? with
       | none=>rfl
       | some z =>
         cases z with
         | bx n cs=>simp only;split <;> rfl
         | own e sz' l =>
           simp only;split
           . cases l[i]? <;> rfl
           . rfl
         | _=>rfl
     | _=>rfl
 | _=>rfl
theorem zp5{R:Type}(P:Program)(F:List S)(h:ze)(x:Nat)(t:TypeId)(K:V->Option R):zp4 P F h x t K=(match zit P F h x t with|some v=>K v|none=>none):=by
 unfold zp4 zit;cases Jy P t with
 | none=>cases place F h (.tmp x) <;> rfl
 | some n =>
   simp only[zok];cases place F h (.tmp x) with
   | none=>rfl
   | some p =>
     obtain⟨cs,m,c⟩:=p;simp only;split <;> rfl
theorem jn {R : Type} (P : Program) (vc : Bool) : ∀ (rs : List ResultVar) (F : List S) (h : ze) (K : List V -> List S -> ze -> Option R), qE P vc F h rs K = (match Km P vc F h rs with | some (vs, F, h) => K vs F h | none => none)
 | [],F,h,K=>rfl
 | .tmp t :: rs,F,h,K=>by
   unfold qE Km;cases evE vc F h (.tmp t) with
   | none=>rfl
   | some p =>
     obtain⟨v,F1,h1⟩:=p;simp only[jn P vc rs];cases Km P vc F1 h1 rs <;> rfl
 | .cell x t :: rs,F,h,K=>by
   unfold qE Km;simp only[zp5,jn P vc rs];cases zit P F h x t with
   | none=>rfl
   | some v=>cases Km P vc F h rs <;> rfl
abbrev Ext:=FuncId->Option (List V->ze->Option (List V))
section call
variable (P:Program) (rec:Rec) (keep gc vec:FuncId->Bool) (m:Nat) (draws:Array Oper->Bool)
noncomputable def zd8(vc:Bool)(fr:List (Option V))(ps:List Nat)(as_ bd:Code)(b:Nat)(ys:List V)(h:ze):Option (Bool×ze) :=
 exec P rec keep gc vc (fun _ _ _=>none) (zV m) draws as_ (ziq ps ys (fr.map toS)) h [] (fun e F h D=>match e,D with
 | .nrm,[]=>lpR h[b]? (fun d' vc' fr' ps' as' bd'=>exec P rec keep gc vc (fun _ _ _=>none) (zV m) draws bd F (h.set b (.loop d' vc' fr' ps' as' bd' .busy)) [] (fun e _ h D=>match D with
 | []=>lpB h[b]? (fun d' vc' fr' ps' as' bd'=>match e with
 | .nrm=>some (true,h.set b (.loop d' vc' fr' ps' as' bd' .ready))
 | .ret=>some (false,h.set b (.loop d' vc' fr' ps' as' bd' (.done .ret)))
 | .ex i=>some (false,h.set b (.loop d' vc' fr' ps' as' bd' (.done (.ex i))))
 | .pan _=>none)
 | _=>none))
 | _,_=>none)
noncomputable def roundX:Ry:=fun b ys h=>lpR h[b]? (fun _ vc fr ps as_ bd=>if ys.length=ps.length/\(QT as_=true/\QT bd=true) then zd8 P rec keep gc m draws vc fr ps as_ bd b ys h else none)
def jP(n:Nat)(args:List V):List S:=args.map S.v++List.replicate (n - args.length) .un
noncomputable def runD(f:FuncId)(args:List V)(h:ze)(pn:Option V):Option (ze×Bool):=match P.funcs[f]? with
 | some fn=>(match fn.body with
   | some c=>if fn.ntmps < args.length\/fn.name= "runtime.NumGoroutine" then none else
     if zis c then YR P rec keep gc (vec f) (roundX P rec keep gc m draws) (zV m) draws (match pn with|some v=>v|none=>.val .nilIface) c (jP fn.ntmps args) h [] (fun e F h D=>match e,D with
      | .nrm,[]|.ret,[]=>qE P (vec f) F h fn.results.toList (fun _ _ h=>some (h,pn.isSome))
      | _,_=>none)
     else exec P rec keep gc (vec f) (roundX P rec keep gc m draws) (zV m) draws c (jP fn.ntmps args) h [] (fun e F h D=>match e,D with
      | .nrm,[]|.ret,[]=>qE P (vec f) F h fn.results.toList (fun _ _ h=>some (h,false))
      | _,_=>none)
   | none=>none)
 | none=>none
noncomputable def Yz (vc : Bool) (rs : List ResultVar) (F : List S) : List Df -> Option V -> ze -> Option (Res × ze)
 | [],none,h=>qE P vc F h rs (fun vs _ h=>some (.ret vs,h))
 | [],some v,h=>some (.pan v,h)
 | .mark d :: D,pn,h=>dfB h[d]? (Yz vc rs F D pn (h.set d .dead))
 | .call f args :: D,pn,h=>(match runD P rec keep gc vec m draws f args h pn with
   | some (h,b)=>(match pn with
     | none=>Yz vc rs F D none h
     | some v=>if b then Yz vc rs F D none h else Yz vc rs F D (some v) h)
   | none=>none)
end call
noncomputable def callF (P : Program) (keep gc vec : FuncId -> Bool) (draws : Array Oper -> Bool) (ext : Ext) : Nat -> FuncId -> List V -> ze -> Option (Res × ze)
 | 0,_,_,_=>none
 | n+1,f,args,h0=>match ext f with
  | some e=>(match e args h0 with|some vs=>some (.ret vs,h0)|none=>none)
  | none=>match P.funcs[f]? with
   | none=>none
   | some fn=>match fn.body with
     | none=>none
     | some c =>
       if fn.ntmps < args.length\/fn.name= "runtime.NumGoroutine" then none else
       let run (h:ze):Option (Res×ze):=exec P (callF P keep gc vec draws ext n) keep gc (vec f) (roundX P (callF P keep gc vec draws ext n) keep gc n draws) (zV n) draws c (jP fn.ntmps args) h [] (fun e F h D=>match e with
        | .nrm|.ret=>Yz P (callF P keep gc vec draws ext n) keep gc vec n draws (vec f) fn.results.toList F D none h
        | .pan v=>Yz P (callF P keep gc vec draws ext n) keep gc vec n draws (vec f) fn.results.toList F D (some v) h
        | _=>none)
       match YX P f with
       | some (e,sz)=>(match args with
         | .sl s1 l _ :: rest=>if (s1=sz/\(Wq c).contains 0=false)/\gc f=false then exec P (callF P keep gc vec draws ext n) keep gc (vec f) (roundX P (callF P keep gc vec draws ext n) keep gc n draws) (zV n) draws c (.own e sz l :: (rest.map S.v++List.replicate (fn.ntmps - args.length) .un)) h0 [] (fun(x:Ex) (F:List S) (h:ze) (D:List Df)=>match x,D with
           | .nrm,[]|.ret,[]=>(match Km P (vec f) F h fn.results.toList with
             | some (vs,F2,h)=>(match F2[0]? with|some (S.own e' s' l')=>if e'=e/\s'=sz then some (Res.ret (V.sl sz l' false :: vs),h) else none|_=>none)
             | none=>none)
           | _,_=>none) else none
         | _=>none)
       | none =>
       if gc f then
        if V.free.freeL args then(match run [] with
         | some (.ret vs,_)=>if V.free.freeL vs then some (.ret vs,h0) else none
         | some (.pan v,_)=>if v.free then some (.pan v,h0) else none
         | none=>none) else none
       else run h0
end Go.L
