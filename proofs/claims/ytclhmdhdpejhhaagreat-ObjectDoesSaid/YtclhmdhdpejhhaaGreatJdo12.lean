/- Lwd Lmw Splain Ow: what the law needs of these -/import Derived.Laws.BitsLemmas
import Derived.Test.YtclhmdhdpejhhaaGreatJdo11
set_option linter.unusedVariables false
namespace Go.Proofs.Tryz
open Go.L Go.Rp
@[simp] theorem zr(a b:Int):bop prog .lss 3 (.int .i64 a) (.int .i64 b)=some (.bool (decide (a < b))):=by kernel_rfl
@[simp] theorem QA(a b:Int):bop prog .leq 3 (.int .i64 a) (.int .i64 b)=some (.bool (decide (a<=b))):=by kernel_rfl
@[simp] theorem Xy(a b:Int):bop prog .gtr 3 (.int .i64 a) (.int .i64 b)=some (.bool (decide (a > b))):=by kernel_rfl
@[simp] theorem Z8(a b:Int):bop prog .geq 3 (.int .i64 a) (.int .i64 b)=some (.bool (decide (a ≥ b))):=by kernel_rfl
@[simp] theorem Xv(a b:Int):bop prog .eql 3 (.int .i64 a) (.int .i64 b)=some (.bool (a == b)):=by kernel_rfl
@[simp] theorem jN(a b:Int):bop prog .neq 3 (.int .i64 a) (.int .i64 b)=some (.bool (a != b)):=by kernel_rfl
@[simp] theorem zH(a b:Int):bop prog .add 3 (.int .i64 a) (.int .i64 b)=some (.int .i64 (IntKind.i64.wrap (a+b))):=by kernel_rfl
@[simp] theorem ZQ(a b:Int):bop prog .sub 3 (.int .i64 a) (.int .i64 b)=some (.int .i64 (IntKind.i64.wrap (a - b))):=by kernel_rfl
@[simp] theorem ztg(a b:Int):bop prog .lss 21 (.int .i32 a) (.int .i32 b)=some (.bool (decide (a < b))):=by kernel_rfl
@[simp] theorem jO(a b:Int):bop prog .leq 21 (.int .i32 a) (.int .i32 b)=some (.bool (decide (a<=b))):=by kernel_rfl
@[simp] theorem zth(a b:Int):bop prog .gtr 21 (.int .i32 a) (.int .i32 b)=some (.bool (decide (a > b))):=by kernel_rfl
@[simp] theorem ziL(a b:Int):bop prog .geq 21 (.int .i32 a) (.int .i32 b)=some (.bool (decide (a ≥ b))):=by kernel_rfl
@[simp] theorem zti(a b:Int):bop prog .eql 21 (.int .i32 a) (.int .i32 b)=some (.bool (a == b)):=by kernel_rfl
@[simp] theorem ziM(a b:Int):bop prog .neq 21 (.int .i32 a) (.int .i32 b)=some (.bool (a != b)):=by kernel_rfl
@[simp] theorem ztj(a b:Int):bop prog .add 21 (.int .i32 a) (.int .i32 b)=some (.int .i32 (IntKind.i32.wrap (a+b))):=by kernel_rfl
@[simp] theorem ziN(a b:Int):bop prog .sub 21 (.int .i32 a) (.int .i32 b)=some (.int .i32 (IntKind.i32.wrap (a - b))):=by kernel_rfl
@[simp] theorem ztP(a b:Int):bop prog .lss 5 (.int .u8 a) (.int .u8 b)=some (.bool (decide (a < b))):=by kernel_rfl
@[simp] theorem ztQ(a b:Int):bop prog .leq 5 (.int .u8 a) (.int .u8 b)=some (.bool (decide (a<=b))):=by kernel_rfl
@[simp] theorem ztR(a b:Int):bop prog .gtr 5 (.int .u8 a) (.int .u8 b)=some (.bool (decide (a > b))):=by kernel_rfl
@[simp] theorem ztS(a b:Int):bop prog .geq 5 (.int .u8 a) (.int .u8 b)=some (.bool (decide (a ≥ b))):=by kernel_rfl
@[simp] theorem Xz(a b:Int):bop prog .eql 5 (.int .u8 a) (.int .u8 b)=some (.bool (a == b)):=by kernel_rfl
@[simp] theorem ztT(a b:Int):bop prog .neq 5 (.int .u8 a) (.int .u8 b)=some (.bool (a != b)):=by kernel_rfl
@[simp] theorem zlq(a b:Int):bop prog .add 5 (.int .u8 a) (.int .u8 b)=some (.int .u8 (IntKind.u8.wrap (a+b))):=by kernel_rfl
@[simp] theorem ztU(a b:Int):bop prog .sub 5 (.int .u8 a) (.int .u8 b)=some (.int .u8 (IntKind.u8.wrap (a - b))):=by kernel_rfl
@[simp] theorem QR(b:Bool):uop .not (.bool b)=some (.bool !b):=rfl
@[simp] theorem K8(a b:Bool):bop prog .eql 4 (.bool a) (.bool b)=some (.bool (a == b)):=by kernel_rfl
@[simp] theorem zuQ(x:Int):Qo prog 35 [(0,.int .u8 2),(1,.int .i32 x)]=some [.int .u8 2,.int .i32 x]:=by kernel_rfl
@[simp] theorem zuR:kds prog 12 3=some [0]:=by kernel_rfl
theorem w64{n:Int}(h1:-9223372036854775808<=n)(h2:n < 9223372036854775808):IntKind.i64.wrap n=n:=by rw[IntKind.wrap_i64];omega
theorem w8{n:Int}(h1:0<=n)(h2:n < 256):IntKind.u8.wrap n=n:=by rw[IntKind.wrap_u8];omega
theorem Xa{k:Nat}(h:k < lim):IntKind.i64.wrap ((k:Int)+1)=((k+1:Nat):Int):=by unfold lim at h;rw[w64] <;> omega
@[simp] theorem zuf{R:Type}(n:Nat)(cs:List V)(k:Nat->List V->Option R):zup (some (.box n cs)) k=k n cs:=rfl
@[simp] theorem zf1{R:Type}(es:List (V×V))(k:List (V×V)->Option R):ziH (some (.map es)) k=k es:=rfl
@[simp] theorem zut(k:IntKind)(n:Int):V.free (.int k n)=true:=rfl
@[simp] theorem zug(b:Bool):V.free (.bool b)=true:=rfl
@[simp] theorem zuu(v:Value):V.free (.val v)=true:=rfl
@[simp] theorem zuS(s:Nat)(l:List (List V))(x:Bool):V.free (.sl s l x)=V.free.freeLL l:=rfl
@[simp] theorem zuv(l:List V):V.free (.agg l)=V.free.freeL l:=rfl
@[simp] theorem zuh:V.free.freeL []=true:=rfl
@[simp] theorem ztV(v:V)(l:List V):V.free.freeL (v :: l)=(v.free && V.free.freeL l):=rfl
@[simp] theorem ztW:V.free.freeLL []=true:=rfl
@[simp] theorem ziO(v:List V)(l:List (List V)):V.free.freeLL (v :: l)=(V.free.freeL v && V.free.freeLL l):=rfl
theorem W2 {α : Type} (v : α -> List V) (hv : ∀ x, V.free.freeL (v x) = true) : ∀ l : List α, V.free.freeLL (l.map v) = true
 | []=>rfl
 | x :: l=>by rw[zS,ziO,hv,W2 v hv l];rfl
@[simp] theorem zui(k:IntKind)(l:List Int):V.free.freeLL (l.map (Xc k))=true:=W2 _ (fun _=>rfl) l
@[simp] theorem zpV(k:IntKind)(n:Int):V.simple.simpleL [.int k n]=true:=rfl
@[simp] theorem zpg(b:Bool):V.simple.simpleL [.bool b]=true:=rfl
theorem YV{args:List V}{vs:List V}{h' h:zd}(ha:V.free.freeL args=true)(hv:V.free.freeL vs=true):gcw args (some (.ret vs,h')) h=some (.ret vs,h):=by
 simp[gcw,ha,hv]
@[simp] theorem zdT(k:IntKind)(l:List Int)(n:Nat):(l.map (Xc k))[n]?=(l[n]?).map (Xc k):=zG
end Go.Proofs.Tryz
set_option linter.unusedSimpArgs false
namespace Go.L
theorem zC{h:zd}{b n:Nat}{cs:List V}(hb:h[b]?=some (.box n cs))(o:Nat):zu h (.ptr b o)=some (cs,n,o):=by simp only[zu,hb]
theorem Zl(h:zd)(n:Nat)(cs:List V)(o:Nat):zu h (.iptr n cs o)=some (cs,n,o):=rfl
theorem Xb{sz n:Nat}{l:List (List V)}{es:List V}(h:l[n]?=some es)(b:Bool):ZE sz n (.sl sz l b)=some (.iptr sz es 0):=by simp[ZE,h]
@[simp] theorem ZW(h:zd)(sz:Nat)(l:List (List V))(b:Bool):ZR h (.sl sz l b)=some (sz,l):=rfl
@[simp] theorem YW(sz:Nat)(l:List (List V))(b:Bool):QZ (.sl sz l b)=some l.length:=rfl
@[simp] theorem zuw{R:Type}(l:List V)(k:List V->Option R):zuY (.agg l) k=k l:=rfl
theorem zbB{h:zd}{b:Nat}{es:List (V×V)}(hb:h[b]?=some (.map es)):Ki h (.map b)=some es:=by simp only[Ki,hb]
section
variable {α:Type} [DecidableEq α] {kf:α->V} {ks:List Nat}
end
end Go.L
namespace Go.Rp
end Go.Rp
namespace Go.Proofs.Tryz
open Go.L Go.Rp
set_option maxRecDepth 100000
def _root_.Go.Rp.O.w(o:O):List V:=[.int .u8 o.k,.int .i32 o.v]
def _root_.Go.Rp.R.w(r:R):List V:=[.int .u8 r.c,.int .i32 r.v]
theorem ztX(e:Nat)(a:List O)(x:O)(h:a.length+1 < lim):app e 2 (.own e 2 (a.map O.w)) [O.w x]=some ((a++[x]).map O.w):=by
 simp[app,h]
theorem zux(x:O):JY prog 23 1 [(0,.agg (O.w x))]=some (2,[O.w x]):=by kernel_rfl
theorem Y9(l:List O)(n:Nat):(l.map O.w)[n]?=(l[n]?).map O.w:=zG
theorem K9(l:List R)(n:Nat):(l.map R.w)[n]?=(l[n]?).map R.w:=zG
theorem QS(o:O):List.take 2 (O.w o)=O.w o:=rfl
theorem XV(o:O):(O.w o).length=2:=rfl
theorem Yf(o:O):setR [V.int .u8 0,.int .i32 0] 0 (O.w o)=O.w o:=rfl
end Go.Proofs.Tryz
